/- PsGood2 -/
import Derived.Test.YtlfiikhclgeadaaGreatDoorB10
set_option linter.unusedVariables false
set_option linter.unusedSimpArgs false
namespace Go.Ps
open Go.Sep (Tree Str)
variable {α β : Type}
theorem Good.bret {p : Pp α} {g : α → β} (hp : Good p) : Good (Ps.bind p fun a => Ps.ret (g a)) := hp.bind fun _ => Good.ret _
theorem Takes.bind {q : F → Nat → Bool} {p : Pp α} {g : α → Pp β} (hp : Takes q p) (hg : ∀ a, Good (g a)) : Takes q (Ps.bind p g) := fun f k hk => by
 refine ⟨fun b k' h => ?_, fun k' h => ?_⟩
 ·obtain ⟨a, k1, h1, h2⟩ := bind_ok_iff h
  have := (hp f k hk).1 a k1 h1
  have := (hg a).le h2
  omega
 ·rcases bind_bad_iff h with h | ⟨a, k1, h1, h2⟩
  ·exact (hp f k hk).2 k' h
  ·have := (hp f k hk).1 a k1 h1
   have := (hg a).leb h2
   omega
section
variable {N : Nat}
theorem Good.results {typ : Pp Tree} (h : Good typ) (ht : Takes begins typ) : Good (resultsP N typ) :=
 Good.tok ((Good.commas h N).bind fun l => Good.need (Good.ret _)) (Good.peek Loc.begins (Good.bret h) (Good.ret _) (.inr (ht.bind fun _ => Good.ret _)))
theorem Good.param {typ : Pp Tree} (h : Good typ) : Good (paramP typ) := Good.name fun s => Good.bret h
theorem Good.sigLike {kind : Int} {X typ : Pp Tree} (hX : Good X) (h : Good typ) (ht : Takes begins typ) : Good (sigLike N kind X typ) := Good.need ((Good.inP hX).bind fun ps => Good.bret (Good.results h ht))
theorem Good.sig {typ : Pp Tree} (h : Good typ) (ht : Takes begins typ) : Good (sigP N typ) := Good.sigLike (Good.param h) h ht
theorem Good.typP {typ : Pp Tree} (h : Good typ) (ht : Takes begins typ) : Good (typP N typ) :=
 Good.tok (Good.bret h) (Good.tok (Good.need (Good.bret h)) (Good.tok (Good.sigLike h h ht) (Good.name fun s => Good.ret _)))
theorem Takes.typP {typ : Pp Tree} (h : Good typ) (ht : Takes begins typ) : Takes begins (typP N typ) := fun f k hk => by
 unfold Ps.typP
 cases h1 : isM [42] f k with
 | true => exact Takes.tok (Good.bret h) f k h1
 | false =>
  rw [show Ps.tok [42] (Ps.bind typ fun t => Ps.ret (.mk 11 [] 0 [t])) (Ps.tok [91] (Ps.need [93] (Ps.bind typ fun t => Ps.ret (.mk 12 [] 0 [t]))) (Ps.tok [102, 117, 110, 99] (Ps.sigLike N 13 typ typ) (Ps.name fun s => Ps.ret (leaf 10 s)))) f k = Ps.tok [91] (Ps.need [93] (Ps.bind typ fun t => Ps.ret (.mk 12 [] 0 [t]))) (Ps.tok [102, 117, 110, 99] (Ps.sigLike N 13 typ typ) (Ps.name fun s => Ps.ret (leaf 10 s))) f k by unfold Ps.tok; rw [h1]; rfl]
  cases h2 : isM [91] f k with
  | true => exact Takes.tok (Good.need (Good.bret h)) f k h2
  | false =>
   rw [show Ps.tok [91] (Ps.need [93] (Ps.bind typ fun t => Ps.ret (.mk 12 [] 0 [t]))) (Ps.tok [102, 117, 110, 99] (Ps.sigLike N 13 typ typ) (Ps.name fun s => Ps.ret (leaf 10 s))) f k = Ps.tok [102, 117, 110, 99] (Ps.sigLike N 13 typ typ) (Ps.name fun s => Ps.ret (leaf 10 s)) f k by unfold Ps.tok; rw [h2]; rfl]
   cases h3 : isM [102, 117, 110, 99] f k with
   | true => exact Takes.tok (Good.sigLike h h ht) f k h3
   | false =>
    rw [show Ps.tok [102, 117, 110, 99] (Ps.sigLike N 13 typ typ) (Ps.name fun s => Ps.ret (leaf 10 s)) f k = Ps.name (fun s => Ps.ret (leaf 10 s)) f k by unfold Ps.tok; rw [h3]; rfl]
    have h4 : isK 1 f k = true := by
     unfold Ps.begins at hk
     rw [h1, h2, h3, Bool.or_false, Bool.or_false, Bool.or_false] at hk
     exact hk
    unfold isK at h4
    unfold Ps.name Ps.tkn
    cases hx : f k with
    | none => rw [hx] at h4; cases h4
    | some t =>
     rw [hx] at h4
     simp only at h4
     simp only [h4, cond_true]
     exact ⟨fun a k' e => by injection e with _ e; omega, fun k' e => by cases e⟩
theorem Good.field {mb : Pp Tree} (h : Good mb) : Good (fieldP mb) := Good.name fun s => h.bind fun t => Good.need (Good.ret _)
theorem Good.body {kind : Int} {nm : Str} {mb : Pp Tree} (h : Good mb) : Good (bodyP N kind nm mb) := Good.need (Good.bret (Good.upto (Good.field h) N))
theorem Good.typeDecl {typ : Pp Tree} (h : Good typ) (ht : Takes begins typ) : Good (typeDeclP N typ) := Good.name fun nm => Good.tok (Good.body (Good.sig h ht)) (Good.need (Good.body h))
theorem Good.declP {typ block : Pp Tree} (h : Good typ) (ht : Takes begins typ) (hb : Good block) : Good (declP N typ block) :=
 Good.tok (Good.typeDecl h ht) (Good.need (Good.tok
  (Good.name fun recv => Good.need (Good.name fun of => Good.need (Good.name fun nm => (Good.sig h ht).bind fun s => Good.bret hb)))
  (Good.name fun nm => (Good.sig h ht).bind fun s => Good.bret hb)))
theorem Good.blockP {stmt : Pp Tree} (h : Good stmt) : Good (blockP N stmt) := Good.need (Good.bret (Good.upto h N))
theorem Good.branchP {expr block branch : Pp Tree} (he : Good expr) (hb : Good block) (hr : Good branch) (sb : Stops block) : Good (branchP expr block branch) :=
 Good.need (he.bind fun c => hb.bind fun b => Good.tok (Good.peek (Loc.isM _) (Good.bret hr) (Good.bret hb) (.inl (Stops.bind sb))) (Good.ret _))
theorem Good.forP {expr block : Pp Tree} (he : Good expr) (hb : Good block) (se : Stops expr) : Good (forP expr block) :=
 Good.peek (Loc.isM _) (Good.bret hb) (he.bind fun c => Good.bret hb) (.inl (Stops.bind se))
theorem Good.assignP {expr : Pp Tree} {left : List Tree} (he : Good expr) : Good (assignP N expr left) := by
 refine Good.tokIf (Good.bret (Good.commas he N)) (Good.tokIf (Good.bret (Good.commas he N)) ?_)
 cases isC1 left with
 | true => exact Good.peek (Loc.isM _) (Good.ret _) Good.fail (.inl Stops.fail)
 | false => exact Good.fail
theorem Good.simpleP {typ expr : Pp Tree} (h : Good typ) (he : Good expr) (se : Stops expr) : Good (simpleP N typ expr) :=
 Good.tok (Good.name fun s => h.bind fun t => Good.tok (Good.bret he) (Good.ret _)) (Good.tok (Good.peek (Loc.isM _) (Good.ret _) (Good.bret (Good.commas he N)) (.inl (Stops.bind (Stops.commas se N))))
  (Good.tok (Good.ret _) (Good.tok (Good.ret _) ((Good.commas he N).bind fun l => Good.assignP he))))
theorem Stops.simpleP {typ expr : Pp Tree} (se : Stops expr) : Stops (simpleP N typ expr) := Stops.tok (Stops.tok (Stops.tok (Stops.tok (Stops.bind (Stops.commas se N)))))
theorem Good.exprsP {s : Str} {expr : Pp Tree} (he : Good expr) : Good (exprsP N s expr) := Good.inP he
theorem Good.cutP {expr : Pp Tree} {num : Int} {ks : List Tree} (he : Good expr) : Good (cutP expr num ks) := Good.need (Good.tok (Good.ret _) (he.bind fun e => Good.need (Good.ret _)))
theorem Good.indexP {expr : Pp Tree} {n : Tree} (he : Good expr) (se : Stops expr) : Good (indexP expr n) :=
 Good.peek (Loc.isM _) (Good.cutP he) (he.bind fun e => Good.tok (Good.ret _) (Good.cutP he)) (.inl (Stops.bind se))
theorem Good.postP {expr : Pp Tree} (he : Good expr) (se : Stops expr) : ∀ (j : Nat) (n : Tree), Good (postP N expr j n)
 | 0, _ => Good.dry
 | j + 1, n => Good.tok (Good.name fun s => Good.postP he se j _) (Good.tok ((Good.indexP he se).bind fun t => Good.postP he se j _) (Good.tok ((Good.exprsP he).bind fun l => Good.postP he se j _) (Good.ret _)))
theorem Good.primP {typ block expr : Pp Tree} {h : Bool} (gt : Good typ) (ht : Takes begins typ) (hb : Good block) (he : Good expr) : Good (primP N typ block expr h) := by
 refine Good.tkn (fun t => Good.ret _) (Good.tkn (fun t => Good.ret _) (Good.tok (Good.ret _) (Good.tok (Good.ret _) (Good.tok (Good.ret _) ?_))))
 refine Good.tok (he.bind fun t => Good.need (Good.ret _)) (Good.tok (Good.need (gt.bind fun t => Good.need (Good.bret (Good.exprsP he)))) (Good.tok ((Good.sig gt ht).bind fun s => Good.bret hb) (Good.name fun s => ?_)))
 cases h with
 | true => exact Good.ret _
 | false => exact Good.tok (Good.bret (Good.exprsP he)) (Good.ret _)
theorem Stops.primP {typ block expr : Pp Tree} {h : Bool} : Stops (primP N typ block expr h) := Stops.tkn (Stops.tkn (Stops.tok (Stops.tok (Stops.tok (Stops.tok (Stops.tok (Stops.tok Stops.name)))))))
theorem Good.loopB {X : Pp Tree} {ops : List Str} (h : Good X) : ∀ (j : Nat) (n : Tree), Good (loopB j ops X n)
 | 0, _ => Good.dry
 | j + 1, n => Good.oneOf (fun op => h.bind fun m => Good.loopB h j _) (Good.ret _)
theorem Good.binL {U : Pp Tree} (hU : Good U) : ∀ l, Good (binL N U l)
 | [] => hU
 | ops :: rest => (Good.binL hU rest).bind fun n => Good.loopB (Good.binL hU rest) N n
end
structure GGood (g : Gr) : Prop where
 typ : Good g.typ
 typ2 : Takes begins g.typ
 block : Good g.block
 block2 : Stops g.block
 stmt : Good g.stmt
 branch : Good g.branch
 expr : ∀ b, Good (g.expr b)
 expr2 : ∀ b, Stops (g.expr b)
 unary : ∀ b, Good (g.unary b)
 unary2 : ∀ b, Stops (g.unary b)
theorem ggood (N : Nat) : ∀ n, GGood (gr N n)
 | 0 => ⟨Good.dry, fun f k h => ⟨fun a k' e => (by cases e), fun k' e => (by cases e)⟩, Good.dry, Stops.dry, Good.dry, Good.dry, fun _ => Good.dry, fun _ => Stops.dry, fun _ => Good.dry, fun _ => Stops.dry⟩
 | n + 1 => by
  have IH := ggood N n
  have hu : ∀ b, Good (unaryP N (gr N n) b) := fun b => Good.oneOf (fun op => Good.bret (IH.unary b)) ((Good.primP IH.typ IH.typ2 IH.block (IH.expr _)).bind fun t => Good.postP (IH.expr _) (IH.expr2 _) N t)
  have su : ∀ b, Stops (unaryP N (gr N n) b) := fun b => Stops.oneOf (Stops.bind Stops.primP)
  refine ⟨Good.typP IH.typ IH.typ2, Takes.typP IH.typ IH.typ2, Good.blockP IH.stmt, Stops.need, ?_, Good.branchP (IH.expr _) IH.block IH.branch IH.block2, fun b => Good.binL (IH.unary b) _, fun b => Stops.binL (IH.unary2 b) _, hu, su⟩
  have hs : Good (Ps.tok [102, 111, 114] (forP ((gr N n).expr true) (gr N n).block) (Ps.bind (Ps.simpleP N (gr N n).typ ((gr N n).expr false)) fun s => Ps.need [59] (Ps.ret s))) :=
   Good.tok (Good.forP (IH.expr _) IH.block (IH.expr2 _)) ((Good.simpleP IH.typ (IH.expr _) (IH.expr2 _)).bind fun s => Good.need (Good.ret _))
  have ss : Stops (Ps.tok [102, 111, 114] (forP ((gr N n).expr true) (gr N n).block) (Ps.bind (Ps.simpleP N (gr N n).typ ((gr N n).expr false)) fun s => Ps.need [59] (Ps.ret s))) := Stops.tok (Stops.bind (Stops.simpleP (IH.expr2 _)))
  exact Good.peek (Loc.isM _) IH.block (Good.peek (Loc.isM _) IH.branch hs (.inl ss)) (.inl (Stops.peek (Loc.isM _) ss))
theorem Good.declG (N n : Nat) : Good (declG N n) := Good.declP (ggood N n).typ (ggood N n).typ2 (ggood N n).block
theorem progL_le {decl : Pp Tree} (hd : Good decl) : ∀ (j : Nat) {f : F} {k k' : Nat}, progL decl j f k = .bad k' → k ≤ k'
 | 0, f, k, k', h => by cases h
 | j + 1, f, k, k', h => by
  unfold progL at h
  cases hb : (f k).isNone with
  | true => simp only [hb, cond_true] at h; cases h
  | false =>
   simp only [hb, cond_false] at h
   rcases bind_bad_iff h with h | ⟨a, k1, h1, h2⟩
   ·exact hd.leb h
   ·have h3 := hd.le h1
    rcases bind_bad_iff h2 with h2 | ⟨l, k2, h4, h5⟩
    ·have := progL_le hd j h2; omega
    ·cases h5
theorem progL_cut {decl : Pp Tree} (hd : Good decl) : ∀ (j : Nat) {f f' : F} {q k : Nat}, Cut f f' q → progL decl j f k = .bad q → progL decl j f' k = .out ∨ progL decl j f' k = .bad q ∨ ∃ l, progL decl j f' k = .ok l q
 | 0, f, f', q, k, hc, h => by cases h
 | j + 1, f, f', q, k, hc, h => by
  have hle := progL_le hd (j + 1) h
  rcases Nat.lt_or_ge k q with hlt | hge
  ·unfold progL at h ⊢
   rw [hc.lo k hlt]
   cases hb : (f k).isNone with
   | true => simp only [hb, cond_true] at h; cases h
   | false =>
    simp only [hb, cond_false] at h ⊢
    rcases bind_bad_iff h with h | ⟨a, k1, h1, h2⟩
    ·rcases hd.cut hc h with h | h
     ·exact .inr (.inl (bind_bad h))
     ·exact .inl (bind_out h)
    ·have h2' : progL decl j f k1 = .bad q := by
      rcases bind_bad_iff h2 with h2 | ⟨l, k2, h4, h5⟩
      ·exact h2
      ·cases h5
     have hk1 := progL_le hd j h2'
     have hgo : decl f' k = .ok a k1 → (Ps.bind decl fun a => Ps.bind (progL decl j) fun l => Ps.ret (a :: l)) f' k = .out ∨ (Ps.bind decl fun a => Ps.bind (progL decl j) fun l => Ps.ret (a :: l)) f' k = .bad q ∨ ∃ l, (Ps.bind decl fun a => Ps.bind (progL decl j) fun l => Ps.ret (a :: l)) f' k = .ok l q := fun e => by
      rw [bind_ok e]
      rcases progL_cut hd j hc h2' with h | h | ⟨l, h⟩
      ·exact .inl (bind_out h)
      ·exact .inr (.inl (bind_bad h))
      ·exact .inr (.inr ⟨a :: l, by rw [bind_ok h]; rfl⟩)
     rcases Nat.lt_or_ge k1 q with hl | hg
     ·exact hgo (hd.agree hc.lo h1 hl)
     ·obtain rfl : k1 = q := by omega
      rcases hd.cutk hc h1 with h | h | h
      ·exact hgo h
      ·exact .inr (.inl (bind_bad h))
      ·exact .inl (bind_out h)
  ·obtain rfl : k = q := by omega
   refine .inr (.inr ⟨[], ?_⟩)
   unfold progL
   rw [hc.hi k (Nat.le_refl _)]
   rfl
end Go.Ps


/- PsFuel -/
set_option linter.unusedVariables false
set_option linter.unusedSimpArgs false
namespace Go.Ps
open Go.Sep (Tree Str)
variable {α β : Type}
def Le (p p' : Pp α) : Prop := ∀ f k, p f k ≠ .out → p' f k = p f k
theorem Le.refl (p : Pp α) : Le p p := fun _ _ _ => rfl
theorem Le.dry {p : Pp α} : Le dry p := fun _ _ h => absurd rfl h
theorem Le.bind {p p' : Pp α} {g g' : α → Pp β} (hp : Le p p') (hg : ∀ a, Le (g a) (g' a)) : Le (bind p g) (bind p' g') := fun f k h => by
 unfold Ps.bind at h ⊢
 cases hx : p f k with
 | ok a k1 =>
  simp only [hx] at h
  rw [hp f k (by rw [hx]; exact fun e => by cases e), hx]
  exact hg a f k1 h
 | bad k1 => rw [hp f k (by rw [hx]; exact fun e => by cases e), hx]
 | out => simp only [hx] at h; exact absurd rfl h
theorem Le.bret {p p' : Pp α} {g : α → Pp β} (hp : Le p p') : Le (Ps.bind p g) (Ps.bind p' g) := Le.bind hp fun a => Le.refl _
theorem Le.tok {s : Str} {A A' B B' : Pp α} (hA : Le A A') (hB : Le B B') : Le (tok s A B) (tok s A' B') := fun f k h => by
 unfold Ps.tok at h ⊢
 cases hb : isM s f k with
 | true => simp only [hb, cond_true] at h ⊢; exact hA f _ h
 | false => simp only [hb, cond_false] at h ⊢; exact hB f _ h
theorem Le.need {s : Str} {A A' : Pp α} (hA : Le A A') : Le (need s A) (need s A') := Le.tok hA (Le.refl _)
theorem Le.tkn {n : Int} {A A' : Tk → Pp α} {B B' : Pp α} (hA : ∀ t, Le (A t) (A' t)) (hB : Le B B') : Le (tkn n A B) (tkn n A' B') := fun f k h => by
 unfold Ps.tkn at h ⊢
 cases hx : f k with
 | none => simp only [hx] at h ⊢; exact hB f k h
 | some t =>
  cases hb : decide (t.kind = n) with
  | true => simp only [hx, hb, cond_true] at h ⊢; exact hA t f _ h
  | false => simp only [hx, hb, cond_false] at h ⊢; exact hB f k h
theorem Le.name {A A' : Str → Pp α} (hA : ∀ t, Le (A t) (A' t)) : Le (name A) (name A') := Le.tkn (fun t => hA t.text) (Le.refl _)
theorem Le.oneOf {ops : List Str} {A A' : Str → Pp α} {B B' : Pp α} (hA : ∀ t, Le (A t) (A' t)) (hB : Le B B') : Le (oneOf ops A B) (oneOf ops A' B') := fun f k h => by
 unfold Ps.oneOf at h ⊢
 cases hx : ops.find? (fun s => isM s f k) with
 | none => simp only [hx] at h ⊢; exact hB f k h
 | some t => simp only [hx] at h ⊢; exact hA t f _ h
theorem Le.peek {q : F → Nat → Bool} {A A' B B' : Pp α} (hA : Le A A') (hB : Le B B') : Le (peek q A B) (peek q A' B') := fun f k h => by
 unfold Ps.peek at h ⊢
 cases hb : q f k with
 | true => simp only [hb, cond_true] at h ⊢; exact hA f _ h
 | false => simp only [hb, cond_false] at h ⊢; exact hB f _ h
theorem Le.tokIf {c : Bool} {s : Str} {A A' B B' : Pp α} (hA : Le A A') (hB : Le B B') : Le (tokIf c s A B) (tokIf c s A' B') := by
 cases c with
 | true => exact Le.tok hA hB
 | false => exact hB
theorem Le.commas {X X' : Pp α} (h : Le X X') : ∀ {j j' : Nat}, j ≤ j' → Le (commas j X) (commas j' X')
 | 0, _, _ => Le.dry
 | j + 1, j' + 1, hj => Le.bind h fun a => Le.tok (Le.bret (Le.commas h (Nat.le_of_succ_le_succ hj))) (Le.refl _)
theorem Le.upto {X X' : Pp α} {s : Str} (h : Le X X') : ∀ {j j' : Nat}, j ≤ j' → Le (upto j s X) (upto j' s X')
 | 0, _, _ => Le.dry
 | j + 1, j' + 1, hj => Le.tok (Le.refl _) (Le.bind h fun a => Le.bret (Le.upto h (Nat.le_of_succ_le_succ hj)))
section
variable {N N' : Nat} (hN : N ≤ N')
include hN
theorem Le.inP {s : Str} {X X' : Pp α} (h : Le X X') : Le (inP N s X) (inP N' s X') := Le.tok (Le.refl _) (Le.bret (Le.commas h hN))
theorem Le.results {typ typ' : Pp Tree} (h : Le typ typ') : Le (resultsP N typ) (resultsP N' typ') := Le.tok (Le.bret (Le.commas h hN)) (Le.peek (Le.bret h) (Le.refl _))
omit hN in
theorem Le.param {typ typ' : Pp Tree} (h : Le typ typ') : Le (paramP typ) (paramP typ') := Le.name fun s => Le.bret h
theorem Le.sigLike {kind : Int} {X X' typ typ' : Pp Tree} (hX : Le X X') (h : Le typ typ') : Le (sigLike N kind X typ) (sigLike N' kind X' typ') := Le.need (Le.bind (Le.inP hN hX) fun ps => Le.bret (Le.results hN h))
theorem Le.sig {typ typ' : Pp Tree} (h : Le typ typ') : Le (sigP N typ) (sigP N' typ') := Le.sigLike hN (Le.param h) h
theorem Le.typP {typ typ' : Pp Tree} (h : Le typ typ') : Le (typP N typ) (typP N' typ') := Le.tok (Le.bret h) (Le.tok (Le.need (Le.bret h)) (Le.tok (Le.sigLike hN h h) (Le.refl _)))
omit hN in
theorem Le.field {mb mb' : Pp Tree} (h : Le mb mb') : Le (fieldP mb) (fieldP mb') := Le.name fun s => Le.bret h
theorem Le.body {kind : Int} {nm : Str} {mb mb' : Pp Tree} (h : Le mb mb') : Le (bodyP N kind nm mb) (bodyP N' kind nm mb') := Le.need (Le.bret (Le.upto (Le.field h) hN))
theorem Le.typeDecl {typ typ' : Pp Tree} (h : Le typ typ') : Le (typeDeclP N typ) (typeDeclP N' typ') := Le.name fun nm => Le.tok (Le.body hN (Le.sig hN h)) (Le.need (Le.body hN h))
theorem Le.declP {typ typ' block block' : Pp Tree} (h : Le typ typ') (hb : Le block block') : Le (declP N typ block) (declP N' typ' block') :=
 Le.tok (Le.typeDecl hN h) (Le.need (Le.tok
  (Le.name fun recv => Le.need (Le.name fun of => Le.need (Le.name fun nm => Le.bind (Le.sig hN h) fun s => Le.bret hb)))
  (Le.name fun nm => Le.bind (Le.sig hN h) fun s => Le.bret hb)))
theorem Le.blockP {stmt stmt' : Pp Tree} (h : Le stmt stmt') : Le (blockP N stmt) (blockP N' stmt') := Le.need (Le.bret (Le.upto h hN))
omit hN in
theorem Le.branchP {expr expr' block block' branch branch' : Pp Tree} (he : Le expr expr') (hb : Le block block') (hr : Le branch branch') : Le (branchP expr block branch) (branchP expr' block' branch') :=
 Le.need (Le.bind he fun c => Le.bind hb fun b => Le.tok (Le.peek (Le.bret hr) (Le.bret hb)) (Le.refl _))
omit hN in
theorem Le.forP {expr expr' block block' : Pp Tree} (he : Le expr expr') (hb : Le block block') : Le (forP expr block) (forP expr' block') := Le.peek (Le.bret hb) (Le.bind he fun c => Le.bret hb)
theorem Le.assignP {expr expr' : Pp Tree} {left : List Tree} (he : Le expr expr') : Le (assignP N expr left) (assignP N' expr' left) :=
 Le.tokIf (Le.bret (Le.commas he hN)) (Le.tokIf (Le.bret (Le.commas he hN)) (Le.refl _))
theorem Le.simpleP {typ typ' expr expr' : Pp Tree} (h : Le typ typ') (he : Le expr expr') : Le (simpleP N typ expr) (simpleP N' typ' expr') :=
 Le.tok (Le.name fun s => Le.bind h fun t => Le.tok (Le.bret he) (Le.refl _)) (Le.tok (Le.peek (Le.refl _) (Le.bret (Le.commas he hN))) (Le.tok (Le.refl _) (Le.tok (Le.refl _) (Le.bind (Le.commas he hN) fun l => Le.assignP hN he))))
theorem Le.exprsP {s : Str} {expr expr' : Pp Tree} (he : Le expr expr') : Le (exprsP N s expr) (exprsP N' s expr') := Le.inP hN he
omit hN in
theorem Le.cutP {expr expr' : Pp Tree} {num : Int} {ks : List Tree} (he : Le expr expr') : Le (cutP expr num ks) (cutP expr' num ks) := Le.need (Le.tok (Le.refl _) (Le.bret he))
omit hN in
theorem Le.indexP {expr expr' : Pp Tree} {n : Tree} (he : Le expr expr') : Le (indexP expr n) (indexP expr' n) := Le.peek (Le.cutP he) (Le.bind he fun e => Le.tok (Le.refl _) (Le.cutP he))
theorem Le.postP {expr expr' : Pp Tree} (he : Le expr expr') : ∀ {j j' : Nat} (n : Tree), j ≤ j' → Le (postP N expr j n) (postP N' expr' j' n)
 | 0, _, _, _ => Le.dry
 | j + 1, j' + 1, n, hj => Le.tok (Le.name fun s => Le.postP he _ (Nat.le_of_succ_le_succ hj)) (Le.tok (Le.bind (Le.indexP he) fun t => Le.postP he _ (Nat.le_of_succ_le_succ hj)) (Le.tok (Le.bind (Le.exprsP hN he) fun l => Le.postP he _ (Nat.le_of_succ_le_succ hj)) (Le.refl _)))
theorem Le.primP {typ typ' block block' expr expr' : Pp Tree} {h : Bool} (ht : Le typ typ') (hb : Le block block') (he : Le expr expr') : Le (primP N typ block expr h) (primP N' typ' block' expr' h) := by
 refine Le.tkn (fun t => Le.refl _) (Le.tkn (fun t => Le.refl _) (Le.tok (Le.refl _) (Le.tok (Le.refl _) (Le.tok (Le.refl _) ?_))))
 refine Le.tok (Le.bret he) (Le.tok (Le.need (Le.bind ht fun t => Le.need (Le.bret (Le.exprsP hN he)))) (Le.tok (Le.bind (Le.sig hN ht) fun s => Le.bret hb) (Le.name fun s => ?_)))
 cases h with
 | true => exact Le.refl _
 | false => exact Le.tok (Le.bret (Le.exprsP hN he)) (Le.refl _)
omit hN in
theorem Le.loopB {X X' : Pp Tree} {ops : List Str} (h : Le X X') : ∀ {j j' : Nat} (n : Tree), j ≤ j' → Le (loopB j ops X n) (loopB j' ops X' n)
 | 0, _, _, _ => Le.dry
 | j + 1, j' + 1, n, hj => Le.oneOf (fun op => Le.bind h fun m => Le.loopB h _ (Nat.le_of_succ_le_succ hj)) (Le.refl _)
theorem Le.binL {U U' : Pp Tree} (hU : Le U U') : ∀ l, Le (binL N U l) (binL N' U' l)
 | [] => hU
 | ops :: rest => Le.bind (Le.binL hU rest) fun n => Le.loopB (Le.binL hU rest) n hN
end
structure GLe (g g' : Gr) : Prop where
 typ : Le g.typ g'.typ
 block : Le g.block g'.block
 stmt : Le g.stmt g'.stmt
 branch : Le g.branch g'.branch
 expr : ∀ b, Le (g.expr b) (g'.expr b)
 unary : ∀ b, Le (g.unary b) (g'.unary b)
theorem gle {N N' : Nat} (hN : N ≤ N') : ∀ {n n' : Nat}, n ≤ n' → GLe (gr N n) (gr N' n')
 | 0, _, _ => ⟨Le.dry, Le.dry, Le.dry, Le.dry, fun _ => Le.dry, fun _ => Le.dry⟩
 | n + 1, n' + 1, hn => by
  have IH := gle hN (Nat.le_of_succ_le_succ hn)
  refine ⟨Le.typP hN IH.typ, Le.blockP hN IH.stmt, ?_, Le.branchP (IH.expr _) IH.block IH.branch, fun b => Le.binL hN (IH.unary b) _, fun b => ?_⟩
  ·exact Le.peek IH.block (Le.peek IH.branch (Le.tok (Le.forP (IH.expr _) IH.block) (Le.bret (Le.simpleP hN IH.typ (IH.expr _)))))
  ·exact Le.oneOf (fun op => Le.bret (IH.unary b)) (Le.bind (Le.primP hN IH.typ IH.block (IH.expr _)) fun t => Le.postP hN (IH.expr _) t hN)
theorem Le.declG {N N' n n' : Nat} (hN : N ≤ N') (hn : n ≤ n') : Le (declG N n) (declG N' n') := Le.declP hN (gle hN hn).typ (gle hN hn).block
theorem Le.progL {decl decl' : Pp Tree} (h : Le decl decl') : ∀ {j j' : Nat}, j ≤ j' → Le (progL decl j) (progL decl' j')
 | 0, _, _ => Le.dry
 | j + 1, j' + 1, hj => fun f k hx => by
  have hr : Le (Ps.bind decl fun a => Ps.bind (Ps.progL decl j) fun l => Ps.ret (a :: l)) (Ps.bind decl' fun a => Ps.bind (Ps.progL decl' j') fun l => Ps.ret (a :: l)) := Le.bind h fun a => Le.bret (Le.progL h (Nat.le_of_succ_le_succ hj))
  unfold Ps.progL at hx ⊢
  cases hb : (f k).isNone with
  | true => simp only [cond_true]
  | false => simp only [hb, cond_false] at hx ⊢; exact hr f k hx
theorem Le.program {M M' : Nat} (hM : M ≤ M') : Le (program M) (program M') := Le.progL (Le.declG (by omega) (by omega)) (by omega)
end Go.Ps


/- PsScut -/
set_option linter.unusedVariables false
set_option linter.unusedSimpArgs false
namespace Go.Sep
theorem cutF_at : ∀ (f : Nat) (r : Str) (at_ k : Nat) (l1 : List Tok) (t : Tok) (l2 : List Tok), cutF f r at_ k = .ok (l1 ++ t :: l2) → r.length < f → ∃ a : Nat, t.at_ = (a : Int) ∧ at_ ≤ a ∧ a - at_ < r.length ∧ ∀ g, a - at_ < g → cutF g (r.take (a - at_)) at_ k = .ok l1
 | 0, r, at_, k, l1, t, l2, h, hf => by omega
 | f + 1, r, at_, k, l1, t, l2, h, hf => by
  have hb := blk_le false r
  rw [cutF] at h
  by_cases h1 : r.drop (blk false r) = []
  ·rw [if_pos h1] at h
   injection h with h
   cases l1 <;> cases h
  rw [if_neg h1] at h
  have hlt : blk false r < r.length := by
   refine Nat.lt_of_not_le fun hge => h1 (List.drop_eq_nil_of_le hge)
  by_cases h2 : k = 20000
  ·rw [if_pos h2] at h
   cases h
  rw [if_neg h2] at h
  cases ht : tokD (r.drop (blk false r)) with
  | none => rw [ht] at h; cases h
  | some p =>
   obtain ⟨u, n⟩ := p
   rw [ht] at h
   simp only at h
   have hn := tokD_le ht
   rw [List.length_drop] at hn
   cases hc : cutF f ((r.drop (blk false r)).drop n) (at_ + blk false r + n) (k + 1) with
   | error e => rw [hc] at h; cases h
   | ok l =>
    rw [hc] at h
    simp only [Except.ok.injEq] at h
    cases l1 with
    | nil =>
     simp only [List.nil_append, List.cons.injEq] at h
     obtain ⟨rfl, h⟩ := h
     refine ⟨at_ + blk false r, rfl, by omega, by omega, fun g hg => ?_⟩
     rw [show at_ + blk false r - at_ = blk false r by omega]
     cases g with
     | zero => omega
     | succ g => rw [cutF, blk_take false r _ (Nat.le_refl _), List.drop_eq_nil_of_le (by rw [List.length_take]; omega), if_pos rfl]
    | cons x l1 =>
     simp only [List.cons_append, List.cons.injEq] at h
     obtain ⟨hx, h⟩ := h
     subst h
     obtain ⟨a, g0, g1, g2, g3⟩ := cutF_at f _ _ _ _ _ _ hc (by rw [List.length_drop, List.length_drop]; omega)
     rw [List.length_drop, List.length_drop] at g2
     refine ⟨a, g0, by omega, by omega, fun g hg => ?_⟩
     cases g with
     | zero => omega
     | succ g =>
      have hd : (r.take (a - at_)).drop (blk false r) = (r.drop (blk false r)).take (a - at_ - blk false r) := List.drop_take ..
      have hl := g3 g (by omega)
      have ht' := tokD_take (j := a - at_ - blk false r) ht (by omega)
      rw [cutF, blk_take false r _ (by omega), hd, if_neg, if_neg h2, ht']
      ·simp only
       rw [List.drop_take, show a - at_ - blk false r - n = a - (at_ + blk false r + n) by omega, hl, ← hx]
      ·intro e
       rw [e] at ht'
       cases ht'
theorem scanD_ok {s : Str} (h : (scanD s).e = 0) : s.length ≤ 65536 ∧ cutF (s.length + 1) s 0 0 = .ok (scanD s).list := by
 by_cases h1 : 65536 < s.length
 ·rw [scanD, if_pos h1] at h; cases h
 have hD : scanD s = .of (cutF (s.length + 1) s 0 0) := by rw [scanD, if_neg h1]
 refine ⟨by omega, ?_⟩
 rw [hD] at h ⊢
 cases hc : cutF (s.length + 1) s 0 0 with
 | ok l => rfl
 | error e =>
  obtain ⟨a, e⟩ := e
  rw [hc] at h
  replace h : e = 0 := h
  have := (cutF_err _ _ _ _ _ _ hc (by omega)).2.2
  omega
theorem scan_cut {s : Str} {l1 l2 : List Tok} {t : Tok} (h : (scanD s).e = 0) (hl : (scanD s).list = l1 ++ t :: l2) : ∃ a : Nat, t.at_ = (a : Int) ∧ a < s.length ∧ scanD (s.take a) = ⟨l1, 0, 0⟩ := by
 obtain ⟨h1, h2⟩ := scanD_ok h
 rw [hl] at h2
 obtain ⟨a, g0, g1, g2, g3⟩ := cutF_at _ _ _ _ _ _ _ h2 (by omega)
 rw [Nat.sub_zero] at g2 g3
 refine ⟨a, g0, g2, ?_⟩
 rw [scanD, if_neg (by rw [List.length_take]; omega), g3 _ (by rw [List.length_take]; omega)]
 rfl
end Go.Sep


/- PsPlcP -/
set_option linter.unusedVariables false
set_option linter.unusedSimpArgs false
namespace Go.Sep
theorem tkF_take (l : List Tok) (k : Nat) : Ps.Cut (tkF l) (tkF (l.take k)) k where
 lo i hi := by unfold tkF; rw [List.getElem?_take_of_lt hi]
 hi i hi := by unfold tkF; rw [List.getElem?_eq_none (by rw [List.length_take]; omega)]
theorem placeD_range {s : Str} (h : (scanD s).e = 0) (k : Nat) : 0 ≤ placeD s (scanD s).list k ∧ placeD s (scanD s).list k ≤ s.length := by
 unfold placeD
 cases hx : (scanD s).list[k]? with
 | none => exact ⟨by simp only; omega, by simp only; omega⟩
 | some t =>
  have hm := List.mem_of_getElem? hx
  rcases scanD_cases s with ⟨_, e⟩ | ⟨_, l, e, _, _, h2, _⟩ | ⟨_, a, e', e, _⟩
  ·rw [e] at hm; cases hm
  ·rw [e] at hm
   have := h2 t hm
   simp only; omega
  ·rw [e] at hm; cases hm
theorem parse_cut {s : Str} {k : Nat} (hs : (scanD s).e = 0) (hp : Ps.program (scanD s).list.length (tkF (scanD s).list) 0 = .bad k) (hk : k < (scanD s).list.length) :
  ∃ a : Nat, placeD s (scanD s).list k = (a : Int) ∧ a < s.length ∧ ((parseD (s.take a)).e = 0 ∨ ((parseD (s.take a)).e = 3 ∧ (parseD (s.take a)).at_ = (a : Int)) ∨ (parseD (s.take a)).e = 4) := by
 have hx : (scanD s).list[k]? = some (scanD s).list[k] := List.getElem?_eq_getElem hk
 obtain ⟨a, h1, h2, h3⟩ := scan_cut (l1 := (scanD s).list.take k) (l2 := (scanD s).list.drop (k + 1)) (t := (scanD s).list[k]) hs (by rw [List.getElem_cons_drop, List.take_append_drop])
 refine ⟨a, by unfold placeD; rw [hx]; exact h1, h2, ?_⟩
 have e : parseD (s.take a) = parseL (s.take a) ((scanD s).list.take k) := by rw [parseD, h3]; rfl
 rw [e]
 generalize (scanD s).list = l at *
 have hlen : (l.take k).length = k := by rw [List.length_take]; omega
 have hno := program_ne (l.take k)
 rw [hlen] at hno
 have hle := Ps.Le.program (M := k) (M' := l.length) (Nat.le_of_lt hk) (tkF (l.take k)) 0 hno
 have hslen : (s.take a).length = a := by rw [List.length_take]; omega
 rcases Ps.progL_cut (Ps.Good.declG _ _) _ (tkF_take l k) hp with h | h | ⟨ds, h⟩
 ·exact absurd (hle.symm.trans h) hno
 ·have h' : Ps.program k (tkF (l.take k)) 0 = .bad k := hle.symm.trans h
  refine .inr (.inl ?_)
  rw [parseL, hlen, h']
  refine ⟨rfl, ?_⟩
  show placeD (s.take a) (l.take k) k = _
  unfold placeD
  rw [List.getElem?_eq_none (by omega)]
  simp only [hslen]
 ·have h' : Ps.program k (tkF (l.take k)) 0 = .ok ds k := hle.symm.trans h
  rw [parseL, hlen, h']
  simp only
  split
  ·exact .inl rfl
  ·exact .inr (.inr rfl)
theorem parseD_cases (s : Str) :
  (∃ ds k, (scanD s).e = 0 ∧ Ps.program (scanD s).list.length (tkF (scanD s).list) 0 = .ok ds k ∧ (Tree.mk 1 [] 0 ds).size ≤ 20000 ∧ (Tree.mk 1 [] 0 ds).deep ≤ 100 ∧ parseD s = ⟨.mk 1 [] 0 ds, 0, 0⟩) ∨
  (∃ a e, (e = 4 ∨ e = 13) ∧ 0 ≤ a ∧ a ≤ (s.length : Int) ∧ parseD s = ⟨emptyT, a, e⟩) ∨
  (∃ a, (scanD s).e ≠ 0 ∧ 0 ≤ a ∧ a ≤ (s.length : Int) ∧ parseD s = ⟨emptyT, a, 3⟩) ∨
  (∃ k, (scanD s).e = 0 ∧ Ps.program (scanD s).list.length (tkF (scanD s).list) 0 = .bad k ∧ parseD s = ⟨emptyT, placeD s (scanD s).list k, 3⟩) := by
 by_cases he : (scanD s).e = 0
 ·rw [show parseD s = parseL s (scanD s).list by rw [parseD, if_pos he]]
  have hn := program_ne (scanD s).list
  rw [parseL]
  cases hp : Ps.program (scanD s).list.length (tkF (scanD s).list) 0 with
  | ok ds k =>
   simp only
   by_cases hc : (Tree.mk 1 [] 0 ds).size ≤ 20000 ∧ (Tree.mk 1 [] 0 ds).deep ≤ 100
   ·rw [if_pos hc]
    exact .inl ⟨ds, k, he, rfl, hc.1, hc.2, rfl⟩
   ·rw [if_neg hc]
    exact .inr (.inl ⟨0, 4, .inl rfl, by omega, by omega, rfl⟩)
  | bad k => exact .inr (.inr (.inr ⟨k, he, rfl, rfl⟩))
  | out => exact absurd hp hn
 ·rw [show parseD s = ⟨emptyT, ((scanD s).at_ : Int), (scanD s).e⟩ by rw [parseD, if_neg he]]
  rcases scanD_cases s with ⟨_, e⟩ | ⟨_, l, e, _⟩ | ⟨_, a, e', e, h1, h2⟩
  ·rw [e]
   exact .inr (.inl ⟨0, 13, .inr rfl, by omega, by omega, rfl⟩)
  ·rw [e] at he; exact absurd rfl he
  ·rw [e]
   rcases h2 with rfl | ⟨rfl, _⟩
   ·exact .inr (.inl ⟨a, 4, .inl rfl, by omega, by omega, rfl⟩)
   ·exact .inr (.inr (.inl ⟨a, by show (3 : Int) ≠ 0; decide, by omega, by omega, rfl⟩))
end Go.Sep


/- PsWf -/
set_option linter.unusedVariables false
set_option linter.unusedSimpArgs false
namespace Go.Sep
def lim : Sg := ⟨fun a => (sg a.deep).expr a, fun a => (sg a.deep).stmt a, fun a => (sg a.deep).block a⟩
structure EqOn (g g' : Sg) (l : List Tree) : Prop where
 expr : ∀ x ∈ l, g.expr x = g'.expr x
 stmt : ∀ x ∈ l, g.stmt x = g'.stmt x
 block : ∀ x ∈ l, g.block x = g'.block x
theorem all_congr {p q : Tree → Bool} : ∀ {l : List Tree}, (∀ x ∈ l, p x = q x) → l.all p = l.all q
 | [], _ => rfl
 | x :: l, h => by rw [List.all_cons, List.all_cons, h x (by simp), all_congr fun y hy => h y (by simp [hy])]
theorem kidsR_congr : ∀ (ps qs : List (Tree → Bool)) (r r' : Option (Tree → Bool)) (l : List Tree), All2 (fun p q => ∀ x ∈ l, p x = q x) ps qs → (∀ l', l' ⊆ l → kidsR [] r l' = kidsR [] r' l') → kidsR ps r l = kidsR qs r' l
 | [], [], r, r', l, _, hr => hr l (fun _ h => h)
 | p :: ps, q :: qs, r, r', [], _, _ => rfl
 | p :: ps, q :: qs, r, r', x :: l, h, hr => by
  rw [kidsR, kidsR, h.1 x (by simp), kidsR_congr ps qs r r' l (h.2.mono fun p q hp y hy => hp y (by simp [hy])) (fun l' hl => hr l' (fun y hy => by have := hl hy; simp [this]))]
theorem kidsR_some {p q : Tree → Bool} {l : List Tree} (h : ∀ x ∈ l, p x = q x) (l' : List Tree) (hl : l' ⊆ l) : kidsR [] (some p) l' = kidsR [] (some q) l' := all_congr fun x hx => h x (hl hx)
section
variable {g g' : Sg} {a : Tree} (h : EqOn g g' a.kids)
include h
theorem exprS_congr : exprS g a = exprS g' a := by
 have k1 : kidsR [g.expr] none a.kids = kidsR [g'.expr] none a.kids := kidsR_congr _ _ _ _ _ ⟨h.expr, trivial⟩ (fun _ _ => rfl)
 have k2 : kidsR [g.expr, g.expr] none a.kids = kidsR [g'.expr, g'.expr] none a.kids := kidsR_congr _ _ _ _ _ ⟨h.expr, h.expr, trivial⟩ (fun _ _ => rfl)
 have k3 : kidsR [Tree.isType] (some g.expr) a.kids = kidsR [Tree.isType] (some g'.expr) a.kids := kidsR_congr _ _ _ _ _ ⟨fun _ _ => rfl, trivial⟩ (kidsR_some h.expr)
 have k4 : kidsR [Tree.isSig, g.block] none a.kids = kidsR [Tree.isSig, g'.block] none a.kids := kidsR_congr _ _ _ _ _ ⟨fun _ _ => rfl, h.block, trivial⟩ (fun _ _ => rfl)
 have k5 : kidsR [g.expr] (some g.expr) a.kids = kidsR [g'.expr] (some g'.expr) a.kids := kidsR_congr _ _ _ _ _ ⟨h.expr, trivial⟩ (kidsR_some h.expr)
 have k6 : a.kids.all g.expr = a.kids.all g'.expr := all_congr h.expr
 unfold exprS
 rw [k1, k2, k3, k4, k5, k6]
theorem blockS_congr : blockS g a = blockS g' a := by
 unfold blockS
 rw [all_congr h.stmt]
theorem stmtS_congr : stmtS g a = stmtS g' a := by
 have k1 : kidsR [Tree.isType, g.expr] none a.kids = kidsR [Tree.isType, g'.expr] none a.kids := kidsR_congr _ _ _ _ _ ⟨fun _ _ => rfl, h.expr, trivial⟩ (fun _ _ => rfl)
 have k2 : kidsR [callS g] none a.kids = kidsR [callS g'] none a.kids := kidsR_congr _ _ _ _ _ ⟨fun x hx => by unfold callS; rw [h.expr x hx], trivial⟩ (fun _ _ => rfl)
 have k3 : kidsR [g.expr, g.block] none a.kids = kidsR [g'.expr, g'.block] none a.kids := kidsR_congr _ _ _ _ _ ⟨h.expr, h.block, trivial⟩ (fun _ _ => rfl)
 have k4 : kidsR [g.expr, g.block, otherS g] none a.kids = kidsR [g'.expr, g'.block, otherS g'] none a.kids := kidsR_congr _ _ _ _ _ ⟨h.expr, h.block, fun x hx => by unfold otherS; rw [h.block x hx, h.stmt x hx], trivial⟩ (fun _ _ => rfl)
 have k5 : kidsR [g.block] none a.kids = kidsR [g'.block] none a.kids := kidsR_congr _ _ _ _ _ ⟨h.block, trivial⟩ (fun _ _ => rfl)
 have k6 : a.kids.all g.expr = a.kids.all g'.expr := all_congr h.expr
 have k7 : ∀ left left' : Tree → Bool, (∀ x ∈ a.kids, left x = left' x) → asgS g left a = asgS g' left' a := fun left left' hl => by
  unfold asgS
  rw [all_congr (l := a.kids.take a.num.toNat) fun x hx => hl x (List.mem_of_mem_take hx), all_congr (l := a.kids.drop a.num.toNat) fun x hx => h.expr x (List.mem_of_mem_drop hx)]
 unfold stmtS
 rw [k1, k2, k3, k4, k5, k6, blockS_congr h, k7 (nmS g) (nmS g') (fun x hx => by unfold nmS; rw [h.expr x hx]), k7 (plS g) (plS g') (fun x hx => by unfold plS; rw [h.expr x hx])]
end
theorem deepL_of_mem : ∀ {l : List Tree} {t : Tree}, t ∈ l → t.deep ≤ deepL l
 | x :: xs, t, h => by
  rcases List.mem_cons.1 h with rfl | h
  ·simp only [deepL]; omega
  ·have := deepL_of_mem h; simp only [deepL]; omega
theorem deep_of_kid {a t : Tree} (h : t ∈ a.kids) : t.deep < a.deep := by
 obtain ⟨k, n, u, ks⟩ := a
 have := deepL_of_mem h
 simp only [Tree.kids, Tree.deep] at *
 omega
theorem deep_pos (a : Tree) : 1 ≤ a.deep := by obtain ⟨k, n, u, ks⟩ := a; simp only [Tree.deep]; omega
theorem sg_lim : ∀ (n : Nat) (a : Tree), a.deep ≤ n → (sg n).expr a = lim.expr a ∧ (sg n).stmt a = lim.stmt a ∧ (sg n).block a = lim.block a := by
 intro n
 induction n using Nat.strongRecOn with
 | _ n ih =>
  intro a ha
  have hp := deep_pos a
  obtain ⟨d, hd⟩ : ∃ d, a.deep = d + 1 := ⟨a.deep - 1, by omega⟩
  obtain ⟨m, rfl⟩ : ∃ m, n = m + 1 := ⟨n - 1, by omega⟩
  have he : EqOn (sg m) (sg d) a.kids := by
   have h1 : ∀ x ∈ a.kids, _ := fun x hx => ih m (by omega) x (by have := deep_of_kid hx; omega)
   have h2 : ∀ x ∈ a.kids, _ := fun x hx => ih d (by omega) x (by have := deep_of_kid hx; omega)
   exact ⟨fun x hx => (h1 x hx).1.trans (h2 x hx).1.symm, fun x hx => (h1 x hx).2.1.trans (h2 x hx).2.1.symm, fun x hx => (h1 x hx).2.2.trans (h2 x hx).2.2.symm⟩
  show (sg m).step.expr a = (sg a.deep).expr a ∧ (sg m).step.stmt a = (sg a.deep).stmt a ∧ (sg m).step.block a = (sg a.deep).block a
  rw [hd]
  exact ⟨exprS_congr he, stmtS_congr he, blockS_congr he⟩
theorem lim_fix (a : Tree) : lim.expr a = exprS lim a ∧ lim.stmt a = stmtS lim a ∧ lim.block a = blockS lim a := by
 have he : EqOn (sg a.deep) lim a.kids := by
  have h1 : ∀ x ∈ a.kids, _ := fun x hx => sg_lim a.deep x (Nat.le_of_lt (deep_of_kid hx))
  exact ⟨fun x hx => (h1 x hx).1, fun x hx => (h1 x hx).2.1, fun x hx => (h1 x hx).2.2⟩
 have h2 := sg_lim (a.deep + 1) a (by omega)
 exact ⟨h2.1.symm.trans (exprS_congr he), h2.2.1.symm.trans (stmtS_congr he), h2.2.2.symm.trans (blockS_congr he)⟩
theorem declS_lim {a : Tree} (h : a.deep ≤ 101) : declS (sg 100) a = declS lim a := by
 have hb : ∀ x ∈ a.kids, (sg 100).block x = lim.block x := fun x hx => (sg_lim 100 x (by have := deep_of_kid hx; omega)).2.2
 unfold declS
 rw [kidsR_congr [Tree.isSig, (sg 100).block] [Tree.isSig, lim.block] none none a.kids ⟨fun _ _ => rfl, hb, trivial⟩ (fun _ _ => rfl),
  kidsR_congr [recvS, Tree.isSig, (sg 100).block] [recvS, Tree.isSig, lim.block] none none a.kids ⟨fun _ _ => rfl, fun _ _ => rfl, hb, trivial⟩ (fun _ _ => rfl)]
end Go.Sep
namespace Go.Ps
open Go.Sep
variable {α β : Type}
structure TkOk (t : Tk) : Prop where
 name : t.kind = 1 → isName t.text = true
 num : t.kind = 2 → 0 ≤ t.num
 str : t.kind = 3 → t.text.length ≤ 1024
def FOk (f : F) : Prop := ∀ i t, f i = some t → TkOk t
def Sd (w : α → Prop) (p : Pp α) : Prop := ∀ f, FOk f → ∀ k a k', p f k = .ok a k' → w a
theorem Sd.ret {w : α → Prop} {a : α} (h : w a) : Sd w (ret a) := fun f _ k b k' e => by injection e with e1 e2; subst e1; exact h
theorem Sd.fail {w : α → Prop} : Sd w (fail : Pp α) := fun f _ k a k' e => by cases e
theorem Sd.dry {w : α → Prop} : Sd w (dry : Pp α) := fun f _ k a k' e => by cases e
theorem Sd.mono {w w' : α → Prop} {p : Pp α} (h : Sd w p) (hw : ∀ a, w a → w' a) : Sd w' p := fun f hf k a k' e => hw a (h f hf k a k' e)
theorem Sd.bind {w1 : α → Prop} {w : β → Prop} {p : Pp α} {g : α → Pp β} (hp : Sd w1 p) (hg : ∀ a, w1 a → Sd w (g a)) : Sd w (Ps.bind p g) := fun f hf k b k' e => by
 unfold Ps.bind at e
 cases hx : p f k with
 | ok a k1 => simp only [hx] at e; exact hg a (hp f hf k a k1 hx) f hf k1 b k' e
 | bad k1 => simp only [hx] at e; cases e
 | out => simp only [hx] at e; cases e
theorem Sd.tok {w : α → Prop} {s : Str} {A B : Pp α} (hA : Sd w A) (hB : Sd w B) : Sd w (tok s A B) := fun f hf k a k' e => by
 unfold Ps.tok at e
 cases hb : isM s f k with
 | true => simp only [hb, cond_true] at e; exact hA f hf _ a k' e
 | false => simp only [hb, cond_false] at e; exact hB f hf k a k' e
theorem Sd.need {w : α → Prop} {s : Str} {A : Pp α} (hA : Sd w A) : Sd w (need s A) := Sd.tok hA Sd.fail
theorem Sd.tkn {w : α → Prop} {n : Int} {A : Tk → Pp α} {B : Pp α} (hA : ∀ t, TkOk t → t.kind = n → Sd w (A t)) (hB : Sd w B) : Sd w (tkn n A B) := fun f hf k a k' e => by
 unfold Ps.tkn at e
 cases hx : f k with
 | none => simp only [hx] at e; exact hB f hf k a k' e
 | some t =>
  cases hb : decide (t.kind = n) with
  | true => simp only [hx, hb, cond_true] at e; exact hA t (hf k t hx) (of_decide_eq_true hb) f hf _ a k' e
  | false => simp only [hx, hb, cond_false] at e; exact hB f hf k a k' e
theorem Sd.name {w : α → Prop} {A : Str → Pp α} (hA : ∀ t, isName t = true → Sd w (A t)) : Sd w (name A) := Sd.tkn (fun t ht hk => hA t.text (ht.name hk)) Sd.fail
theorem Sd.oneOf {w : α → Prop} {ops : List Str} {A : Str → Pp α} {B : Pp α} (hA : ∀ t ∈ ops, Sd w (A t)) (hB : Sd w B) : Sd w (oneOf ops A B) := fun f hf k a k' e => by
 unfold Ps.oneOf at e
 cases hx : ops.find? (fun s => isM s f k) with
 | none => simp only [hx] at e; exact hB f hf k a k' e
 | some t => simp only [hx] at e; exact hA t (List.mem_of_find?_eq_some hx) f hf _ a k' e
theorem Sd.peek {w : α → Prop} {q : F → Nat → Bool} {A B : Pp α} (hA : Sd w A) (hB : Sd w B) : Sd w (peek q A B) := fun f hf k a k' e => by
 unfold Ps.peek at e
 cases hb : q f k with
 | true => simp only [hb, cond_true] at e; exact hA f hf k a k' e
 | false => simp only [hb, cond_false] at e; exact hB f hf k a k' e
theorem Sd.tokIf {w : α → Prop} {x : Bool} {s : Str} {A B : Pp α} (hA : x = true → Sd w A) (hB : Sd w B) : Sd w (tokIf x s A B) := by
 cases x with
 | true => exact Sd.tok (hA rfl) hB
 | false => exact hB
def AllW (w : α → Prop) (l : List α) : Prop := ∀ a ∈ l, w a
def Row (w : α → Prop) (l : List α) : Prop := AllW w l ∧ 1 ≤ l.length
theorem AllW.nil {w : α → Prop} : AllW w ([] : List α) := fun _ h => by cases h
theorem AllW.cons {w : α → Prop} {a : α} {l : List α} (h : w a) (hl : AllW w l) : AllW w (a :: l) := fun b hb => by
 rcases List.mem_cons.1 hb with rfl | hb
 ·exact h
 ·exact hl b hb
theorem AllW.all {p : Tree → Bool} {l : List Tree} (h : AllW (fun a => p a = true) l) : l.all p = true := List.all_eq_true.2 h
theorem commas_sd {w : α → Prop} {X : Pp α} (h : Sd w X) : ∀ j, Sd (Row w) (commas j X)
 | 0 => Sd.dry
 | j + 1 => Sd.bind h fun a ha => Sd.tok (Sd.bind (commas_sd h j) fun l hl => Sd.ret ⟨AllW.cons ha hl.1, by simp⟩) (Sd.ret ⟨AllW.cons ha AllW.nil, by simp⟩)
theorem upto_sd {w : α → Prop} {X : Pp α} {s : Str} (h : Sd w X) : ∀ j, Sd (AllW w) (upto j s X)
 | 0 => Sd.dry
 | j + 1 => Sd.tok (Sd.ret AllW.nil) (Sd.bind h fun a ha => Sd.bind (upto_sd h j) fun l hl => Sd.ret (AllW.cons ha hl))
variable {N : Nat}
theorem inP_sd {w : α → Prop} {s : Str} {X : Pp α} (h : Sd w X) : Sd (AllW w) (inP N s X) := Sd.tok (Sd.ret AllW.nil) (Sd.bind (commas_sd h N) fun l hl => Sd.need (Sd.ret hl.1))
@[reducible] def Ty (a : Tree) : Prop := a.isType = true
@[reducible] def Pa (a : Tree) : Prop := a.isParam = true
@[reducible] def Sgn (a : Tree) : Prop := a.isSig = true
@[reducible] def Ex (a : Tree) : Prop := lim.expr a = true
@[reducible] def Stt (a : Tree) : Prop := lim.stmt a = true
@[reducible] def Bl (a : Tree) : Prop := lim.block a = true
theorem results_sd {typ : Pp Tree} (h : Sd Ty typ) : Sd (AllW Ty) (resultsP N typ) :=
 Sd.tok (Sd.bind (commas_sd h N) fun l hl => Sd.need (Sd.ret hl.1)) (Sd.peek (Sd.bind h fun t ht => Sd.ret (AllW.cons ht AllW.nil)) (Sd.ret AllW.nil))
theorem param_sd {typ : Pp Tree} (h : Sd Ty typ) : Sd Pa (paramP typ) := Sd.name fun s hs => Sd.bind h fun t ht => Sd.ret (by
 show Tree.isParam _ = true
 unfold Tree.isParam
 simp [Tree.kind, Tree.num, Tree.name, Tree.kids, hs, show t.isType = true from ht])
theorem sig_sd {typ : Pp Tree} (h : Sd Ty typ) : Sd Sgn (sigP N typ) := Sd.need (Sd.bind (inP_sd (param_sd h)) fun ps hps => Sd.bind (results_sd h) fun rs hrs => Sd.ret (by
 show Tree.isSig _ = true
 unfold Tree.isSig
 simp only [Tree.kind, Tree.num, Tree.name, Tree.kids, Int.toNat_natCast, List.take_left', List.drop_left', AllW.all hps, AllW.all hrs]
 simp
 omega))
theorem fsig_sd {typ : Pp Tree} (h : Sd Ty typ) : Sd Ty (sigLike N 13 typ typ) := Sd.need (Sd.bind (inP_sd h) fun ps hps => Sd.bind (results_sd h) fun rs hrs => Sd.ret (by
 show Tree.isType _ = true
 rw [isType_eq]
 simp only [Tree.kind, Tree.num, Tree.name, Tree.kids, List.all_append, AllW.all hps, AllW.all hrs]
 simp
 omega))
theorem typP_sd {typ : Pp Tree} (h : Sd Ty typ) : Sd Ty (typP N typ) := by
 refine Sd.tok (Sd.bind h fun t ht => Sd.ret ?_) (Sd.tok (Sd.need (Sd.bind h fun t ht => Sd.ret ?_)) (Sd.tok (fsig_sd h) (Sd.name fun s hs => Sd.ret ?_)))
 ·show Tree.isType _ = true
  rw [isType_eq]; simp [Tree.kind, Tree.num, Tree.name, Tree.kids, show t.isType = true from ht]
 ·show Tree.isType _ = true
  rw [isType_eq]; simp [Tree.kind, Tree.num, Tree.name, Tree.kids, show t.isType = true from ht]
 ·show Tree.isType _ = true
  rw [isType_eq]; simp [leaf, Tree.kind, Tree.num, Tree.name, Tree.kids, hs]
theorem fieldT_sd {typ : Pp Tree} (h : Sd Ty typ) : Sd (fun a => fieldS Tree.isType a = true) (fieldP typ) := Sd.name fun s hs => Sd.bind h fun t ht => Sd.need (Sd.ret (by
 show fieldS _ _ = true
 simp [fieldS, ofB, kidsR, Tree.kind, Tree.num, Tree.name, Tree.kids, hs, show t.isType = true from ht]))
theorem fieldG_sd {typ : Pp Tree} (h : Sd Sgn typ) : Sd (fun a => fieldS Tree.isSig a = true) (fieldP typ) := Sd.name fun s hs => Sd.bind h fun t ht => Sd.need (Sd.ret (by
 show fieldS _ _ = true
 simp [fieldS, ofB, kidsR, Tree.kind, Tree.num, Tree.name, Tree.kids, hs, show t.isSig = true from ht]))
theorem typeDecl_sd {typ : Pp Tree} (h : Sd Ty typ) : Sd (fun a => declS lim a = true) (typeDeclP N typ) := by
 refine Sd.name fun nm hnm => Sd.tok (Sd.need (Sd.bind (upto_sd (fieldG_sd (sig_sd h)) N) fun l hl => Sd.ret ?_)) (Sd.need (Sd.need (Sd.bind (upto_sd (fieldT_sd h) N) fun l hl => Sd.ret ?_)))
 ·show declS _ _ = true
  simp only [declS, Tree.kind]
  simp [ofB, Tree.kind, Tree.num, Tree.name, Tree.kids, hnm]
  exact hl
 ·show declS _ _ = true
  simp only [declS, Tree.kind]
  simp [ofB, Tree.kind, Tree.num, Tree.name, Tree.kids, hnm]
  exact hl
theorem declP_sd {typ block : Pp Tree} (h : Sd Ty typ) (hb : Sd Bl block) : Sd (fun a => declS lim a = true) (declP N typ block) := by
 refine Sd.tok (typeDecl_sd h) (Sd.need (Sd.tok ?_ ?_))
 ·refine Sd.name fun recv hrecv => Sd.need (Sd.name fun of hof => Sd.need (Sd.name fun nm hnm => Sd.bind (sig_sd h) fun s hs => Sd.bind hb fun b hb => Sd.ret ?_))
  show declS _ _ = true
  have ht : (Tree.mk 11 [] 0 [leaf 10 of]).isType = true := by
   have h1 : (leaf 10 of).isType = true := by rw [isType_eq]; simp [leaf, Tree.kind, Tree.num, Tree.name, Tree.kids, hof]
   rw [isType_eq]; simp [Tree.kind, Tree.num, Tree.name, Tree.kids, h1]
  have hr : recvS (recvT recv of) = true := by
   unfold recvS recvT Tree.isParam
   simp [kid0, leaf, Tree.kind, Tree.num, Tree.name, Tree.kids, hrecv]
   exact ht
  simp only [declS, Tree.kind]
  simp [ofB, kidsR, Tree.kind, Tree.num, Tree.name, Tree.kids, hnm, hr, show s.isSig = true from hs, show lim.block b = true from hb]
 ·refine Sd.name fun nm hnm => Sd.bind (sig_sd h) fun s hs => Sd.bind hb fun b hb => Sd.ret ?_
  show declS _ _ = true
  simp only [declS, Tree.kind]
  simp [ofB, kidsR, Tree.kind, Tree.num, Tree.name, Tree.kids, hnm, show s.isSig = true from hs, show lim.block b = true from hb]
theorem blockP_sd {stmt : Pp Tree} (h : Sd Stt stmt) : Sd Bl (blockP N stmt) := Sd.need (Sd.bind (upto_sd h N) fun l hl => Sd.ret (by
 show lim.block _ = true
 rw [(lim_fix _).2.2]
 simp only [blockS, bareB, Tree.kind, Tree.num, Tree.name, Tree.kids, AllW.all hl]
 simp))
@[reducible] def If (a : Tree) : Prop := lim.stmt a = true ∧ a.kind = 25
theorem branchP_sd {expr block branch : Pp Tree} (he : Sd Ex expr) (hb : Sd Bl block) (hr : Sd If branch) : Sd If (branchP expr block branch) := by
 refine Sd.need (Sd.bind he fun c hc => Sd.bind hb fun b hb1 => Sd.tok (Sd.peek (Sd.bind hr fun e he1 => Sd.ret ⟨?_, rfl⟩) (Sd.bind hb fun e he1 => Sd.ret ⟨?_, rfl⟩)) (Sd.ret ⟨?_, rfl⟩))
 ·rw [(lim_fix _).2.1]
  simp [stmtS, headS, otherS, kidsR, Tree.kind, Tree.num, Tree.name, Tree.kids, show lim.expr c = true from hc, show lim.block b = true from hb1, he1.1]
  exact .inr (decide_eq_true he1.2)
 ·rw [(lim_fix _).2.1]
  simp [stmtS, headS, otherS, kidsR, Tree.kind, Tree.num, Tree.name, Tree.kids, show lim.expr c = true from hc, show lim.block b = true from hb1, show lim.block e = true from he1]
 ·rw [(lim_fix _).2.1]
  simp [stmtS, headS, otherS, kidsR, Tree.kind, Tree.num, Tree.name, Tree.kids, show lim.expr c = true from hc, show lim.block b = true from hb1]
theorem forP_sd {expr block : Pp Tree} (he : Sd Ex expr) (hb : Sd Bl block) : Sd Stt (forP expr block) := by
 refine Sd.peek (Sd.bind hb fun b hb1 => Sd.ret ?_) (Sd.bind he fun c hc => Sd.bind hb fun b hb1 => Sd.ret ?_)
 ·show lim.stmt _ = true
  rw [(lim_fix _).2.1]
  simp [stmtS, headS, kidsR, Tree.kind, Tree.num, Tree.name, Tree.kids, show lim.block b = true from hb1]
 ·show lim.stmt _ = true
  rw [(lim_fix _).2.1]
  simp [stmtS, headS, kidsR, Tree.kind, Tree.num, Tree.name, Tree.kids, show lim.expr c = true from hc, show lim.block b = true from hb1]
theorem asg_ok {left l : List Tree} {p : Tree → Bool} (h1 : 1 ≤ left.length) (h2 : 1 ≤ l.length) (hp : left.all p = true) (hl : l.all lim.expr = true) (k : Int) : asgS lim p (.mk k [] (left.length : Int) (left ++ l)) = true := by
 simp only [asgS, Tree.num, Tree.kids, Int.toNat_natCast, List.take_left', List.drop_left', hp, hl, List.length_append]
 simp only [Bool.and_eq_true]
 exact ⟨decide_eq_true (by omega), decide_eq_true (by omega), trivial, trivial⟩
theorem assignP_sd {expr : Pp Tree} {left : List Tree} (he : Sd Ex expr) (hl : Row Ex left) : Sd Stt (assignP N expr left) := by
 refine Sd.tokIf (fun hx => Sd.bind (commas_sd he N) fun l hr => Sd.ret ?_) (Sd.tokIf (fun hx => Sd.bind (commas_sd he N) fun l hr => Sd.ret ?_) ?_)
 ·show lim.stmt _ = true
  have hp : left.all (nmS lim) = true := List.all_eq_true.2 fun x hx1 => by
   unfold nmS
   rw [show lim.expr x = true from hl.1 x hx1, Bool.and_true]
   exact List.all_eq_true.1 hx x hx1
  rw [(lim_fix _).2.1]
  simp only [stmtS, headS, Tree.kind, Tree.num, Tree.name]
  simpa using asg_ok hl.2 hr.2 hp (AllW.all hr.1) 22
 ·show lim.stmt _ = true
  have hp : left.all (plS lim) = true := List.all_eq_true.2 fun x hx1 => by
   unfold plS
   rw [show lim.expr x = true from hl.1 x hx1, Bool.and_true]
   exact List.all_eq_true.1 hx x hx1
  rw [(lim_fix _).2.1]
  simp only [stmtS, headS, Tree.kind, Tree.num, Tree.name]
  simpa using asg_ok hl.2 hr.2 hp (AllW.all hr.1) 23
 ·cases hx : isC1 left with
  | false => exact Sd.fail
  | true =>
   refine Sd.peek (Sd.ret ?_) Sd.fail
   show lim.stmt _ = true
   match left, hx, hl with
   | [t], hx, hl =>
    have ht : t.kind = 51 := of_decide_eq_true hx
    rw [(lim_fix _).2.1]
    simp [stmtS, headS, callS, kidsR, Tree.kind, Tree.num, Tree.name, Tree.kids, show lim.expr t = true from hl.1 t (by simp)]
    exact decide_eq_true ht
theorem simpleP_sd {typ expr : Pp Tree} (h : Sd Ty typ) (he : Sd Ex expr) : Sd Stt (simpleP N typ expr) := by
 refine Sd.tok (Sd.name fun s hs => Sd.bind h fun t ht => Sd.tok (Sd.bind he fun e he1 => Sd.ret ?_) (Sd.ret ?_)) (Sd.tok (Sd.peek (Sd.ret ?_) (Sd.bind (commas_sd he N) fun l hl => Sd.ret ?_)) (Sd.tok (Sd.ret ?_) (Sd.tok (Sd.ret ?_) (Sd.bind (commas_sd he N) fun l hl => assignP_sd he hl))))
 ·show lim.stmt _ = true
  rw [(lim_fix _).2.1]
  simp [stmtS, headS, kidsR, Tree.kind, Tree.num, Tree.name, Tree.kids, hs, show t.isType = true from ht, show lim.expr e = true from he1]
 ·show lim.stmt _ = true
  rw [(lim_fix _).2.1]
  simp [stmtS, headS, kidsR, Tree.kind, Tree.num, Tree.name, Tree.kids, hs, show t.isType = true from ht]
 ·show lim.stmt _ = true
  rw [(lim_fix _).2.1]
  simp [stmtS, headS, leaf, kidsR, Tree.kind, Tree.num, Tree.name, Tree.kids]
 ·show lim.stmt _ = true
  rw [(lim_fix _).2.1]
  simp only [stmtS, headS, Tree.kind, Tree.num, Tree.name, Tree.kids, AllW.all hl.1]
  simp
 ·show lim.stmt _ = true
  rw [(lim_fix _).2.1]
  simp [stmtS, headS, leaf, kidsR, Tree.kind, Tree.num, Tree.name, Tree.kids]
 ·show lim.stmt _ = true
  rw [(lim_fix _).2.1]
  simp [stmtS, headS, leaf, kidsR, Tree.kind, Tree.num, Tree.name, Tree.kids]
theorem cutP_sd {expr : Pp Tree} {num : Int} {ks : List Tree} (he : Sd Ex expr) (hk : AllW Ex ks) (hn : (num = 0 ∧ ks.length = 1) ∨ (num = 1 ∧ ks.length = 2)) : Sd Ex (cutP expr num ks) := by
 refine Sd.need (Sd.tok (Sd.ret ?_) (Sd.bind he fun e he1 => Sd.need (Sd.ret ?_)))
 ·show lim.expr _ = true
  rw [(lim_fix _).1]
  simp only [exprS, Tree.kind]
  simp only [bareB, lvl, Tree.num, Tree.name, Tree.kids, AllW.all hk]
  rcases hn with ⟨rfl, h⟩ | ⟨rfl, h⟩ <;> simp [h]
 ·show lim.expr _ = true
  rw [(lim_fix _).1]
  simp only [exprS, Tree.kind]
  simp only [bareB, lvl, Tree.num, Tree.name, Tree.kids, List.all_append, AllW.all hk]
  rcases hn with ⟨rfl, h⟩ | ⟨rfl, h⟩ <;> simp [h, show lim.expr e = true from he1]
theorem indexP_sd {expr : Pp Tree} {n : Tree} (he : Sd Ex expr) (hn : Ex n) : Sd Ex (indexP expr n) := by
 refine Sd.peek (cutP_sd he (AllW.cons hn AllW.nil) (.inl ⟨rfl, rfl⟩)) (Sd.bind he fun e he1 => Sd.tok (Sd.ret ?_) (cutP_sd he (AllW.cons hn (AllW.cons he1 AllW.nil)) (.inr ⟨rfl, rfl⟩)))
 show lim.expr _ = true
 rw [(lim_fix _).1]
 simp [exprS, bareB, kidsR, Tree.kind, Tree.num, Tree.name, Tree.kids, show lim.expr n = true from hn, show lim.expr e = true from he1]
theorem postP_sd {expr : Pp Tree} (he : Sd Ex expr) : ∀ (j : Nat) (n : Tree), Ex n → Sd Ex (postP N expr j n)
 | 0, _, _ => Sd.dry
 | j + 1, n, hn => by
  refine Sd.tok (Sd.name fun s hs => postP_sd he j _ ?_) (Sd.tok (Sd.bind (indexP_sd he hn) fun t ht => postP_sd he j _ ht) (Sd.tok (Sd.bind (inP_sd he) fun l hl => postP_sd he j _ ?_) (Sd.ret hn)))
  ·show lim.expr _ = true
   rw [(lim_fix _).1]
   simp [exprS, ofB, kidsR, Tree.kind, Tree.num, Tree.name, Tree.kids, hs, show lim.expr n = true from hn]
  ·show lim.expr _ = true
   rw [(lim_fix _).1]
   simp only [exprS, bareB, kidsR, Tree.kind, Tree.num, Tree.name, Tree.kids, AllW.all hl, show lim.expr n = true from hn]
   simp
theorem primP_sd {typ block expr : Pp Tree} {h : Bool} (gt : Sd Ty typ) (hb : Sd Bl block) (he : Sd Ex expr) : Sd Ex (primP N typ block expr h) := by
 refine Sd.tkn (fun t ht hk => Sd.ret ?_) (Sd.tkn (fun t ht hk => Sd.ret ?_) (Sd.tok (Sd.ret ?_) (Sd.tok (Sd.ret ?_) (Sd.tok (Sd.ret ?_) ?_))))
 ·show lim.expr _ = true
  rw [(lim_fix _).1]
  simp [exprS, bareB, kidsR, Tree.kind, Tree.num, Tree.name, Tree.kids, ht.num hk]
 ·show lim.expr _ = true
  have := ht.str hk
  rw [(lim_fix _).1]
  simp only [exprS, leaf, bareB, kidsR, Tree.kind, Tree.num, Tree.name, Tree.kids]
  simp
  exact decide_eq_true (by omega)
 ·show lim.expr _ = true
  rw [(lim_fix _).1]
  simp [exprS, bareB, kidsR, Tree.kind, Tree.num, Tree.name, Tree.kids]
 ·show lim.expr _ = true
  rw [(lim_fix _).1]
  simp [exprS, leaf, bareB, kidsR, Tree.kind, Tree.num, Tree.name, Tree.kids]
 ·show lim.expr _ = true
  rw [(lim_fix _).1]
  simp [exprS, leaf, bareB, kidsR, Tree.kind, Tree.num, Tree.name, Tree.kids]
 refine Sd.tok (Sd.bind he fun t ht => Sd.need (Sd.ret ht)) (Sd.tok (Sd.need (Sd.bind gt fun t ht => Sd.need (Sd.bind (inP_sd he) fun l hl => Sd.ret ?_))) (Sd.tok (Sd.bind (sig_sd gt) fun s hs => Sd.bind hb fun b hb1 => Sd.ret ?_) (Sd.name fun s hs => ?_)))
 ·show lim.expr _ = true
  rw [(lim_fix _).1]
  simp only [exprS, bareB, kidsR, Tree.kind, Tree.num, Tree.name, Tree.kids, AllW.all hl, show t.isType = true from ht]
  simp
 ·show lim.expr _ = true
  rw [(lim_fix _).1]
  simp [exprS, bareB, kidsR, Tree.kind, Tree.num, Tree.name, Tree.kids, show s.isSig = true from hs, show lim.block b = true from hb1]
 have hnm : Ex (leaf 44 s) := by
  show lim.expr _ = true
  rw [(lim_fix _).1]
  simp [exprS, leaf, ofB, kidsR, Tree.kind, Tree.num, Tree.name, Tree.kids, hs]
 cases h with
 | true => exact Sd.ret hnm
 | false =>
  refine Sd.tok (Sd.bind (inP_sd he) fun l hl => Sd.ret ?_) (Sd.ret hnm)
  show lim.expr _ = true
  rw [(lim_fix _).1]
  simp only [exprS, ofB, kidsR, Tree.kind, Tree.num, Tree.name, Tree.kids, AllW.all hl, hs]
  simp
theorem loopB_sd {X : Pp Tree} {ops : List Str} (h : Sd Ex X) (ho : ∀ s ∈ ops, s ∈ levels.flatten) : ∀ (j : Nat) (n : Tree), Ex n → Sd Ex (loopB j ops X n)
 | 0, _, _ => Sd.dry
 | j + 1, n, hn => Sd.oneOf (fun op hop => Sd.bind h fun m hm => loopB_sd h ho j _ (by
   show lim.expr _ = true
   rw [(lim_fix _).1]
   simp only [exprS, binT, bareB, kidsR, Tree.kind, Tree.num, Tree.name, Tree.kids, show lim.expr n = true from hn, show lim.expr m = true from hm, decide_eq_true (ho op hop)]
   simp
   exact List.mem_flatten.1 (ho op hop))) (Sd.ret hn)
theorem binL_sd {U : Pp Tree} (hU : Sd Ex U) : ∀ l, (∀ ops ∈ l, ∀ s ∈ ops, s ∈ levels.flatten) → Sd Ex (binL N U l)
 | [], _ => hU
 | ops :: rest, hl => Sd.bind (binL_sd hU rest fun o ho => hl o (by simp [ho])) fun n hn => loopB_sd (binL_sd hU rest fun o ho => hl o (by simp [ho])) (hl ops (by simp)) N n hn
structure GSd (g : Gr) : Prop where
 typ : Sd Ty g.typ
 block : Sd Bl g.block
 stmt : Sd Stt g.stmt
 branch : Sd If g.branch
 expr : ∀ b, Sd Ex (g.expr b)
 unary : ∀ b, Sd Ex (g.unary b)
theorem gsd : ∀ n, GSd (gr N n)
 | 0 => ⟨Sd.dry, Sd.dry, Sd.dry, Sd.dry, fun _ => Sd.dry, fun _ => Sd.dry⟩
 | n + 1 => by
  have IH := gsd n
  refine ⟨typP_sd IH.typ, blockP_sd IH.stmt, ?_, branchP_sd (IH.expr _) IH.block IH.branch, fun b => binL_sd (IH.unary b) _ fun o ho s hs => List.mem_flatten.2 ⟨o, ho, hs⟩, fun b => ?_⟩
  ·refine Sd.peek (IH.block.mono fun a ha => ?_) (Sd.peek (IH.branch.mono fun a ha => ha.1) (Sd.tok (forP_sd (IH.expr _) IH.block) (Sd.bind (simpleP_sd IH.typ (IH.expr _)) fun s hs => Sd.need (Sd.ret hs))))
   show lim.stmt a = true
   have h1 : blockS lim a = true := (lim_fix a).2.2.symm.trans ha
   have h2 : a.kind = 20 ∧ a.name = [] ∧ a.num = 0 := by
    unfold blockS bareB at h1
    simp only [Bool.and_eq_true, decide_eq_true_eq, Bool.false_or] at h1
    exact ⟨h1.1.1, h1.1.2.1, h1.1.2.2⟩
   rw [(lim_fix a).2.1]
   unfold stmtS
   rw [if_neg (by unfold headS; rw [h2.1, h2.2.1, h2.2.2]; decide), if_pos h2.1, h1]
  ·refine Sd.oneOf (fun op hop => Sd.bind (IH.unary b) fun t ht => Sd.ret ?_) (Sd.bind (primP_sd IH.typ IH.block (IH.expr _)) fun t ht => postP_sd (IH.expr _) N t ht)
   show lim.expr _ = true
   rw [(lim_fix _).1]
   have ho : op ∈ ops4 := hop
   simp only [exprS, bareB, kidsR, Tree.kind, Tree.num, Tree.name, Tree.kids, show lim.expr t = true from ht, decide_eq_true ho]
   simp
   exact decide_eq_true ho
theorem declG_sd (n : Nat) : Sd (fun a => declS lim a = true) (declG N n) := declP_sd (gsd n).typ (gsd n).block
theorem progL_sd {w : Tree → Prop} {decl : Pp Tree} (h : Sd w decl) : ∀ j, Sd (AllW w) (progL decl j)
 | 0 => Sd.dry
 | j + 1 => fun f hf k a k' e => by
  have hr : Sd (AllW w) (Ps.bind decl fun a => Ps.bind (Ps.progL decl j) fun l => Ps.ret (a :: l)) := Sd.bind h fun a ha => Sd.bind (progL_sd h j) fun l hl => Sd.ret (AllW.cons ha hl)
  unfold progL at e
  cases hb : (f k).isNone with
  | true => simp only [hb, cond_true] at e; injection e with e1 e2; subst e1; exact AllW.nil
  | false => simp only [hb, cond_false] at e; exact hr f hf k a k' e
theorem program_sound {M : Nat} {f : F} (hf : FOk f) {ds : List Tree} {k : Nat} (h : program M f 0 = .ok ds k) (h1 : (Tree.mk 1 [] 0 ds).size ≤ 20000) (h2 : (Tree.mk 1 [] 0 ds).deep ≤ 100) : soundB (.mk 1 [] 0 ds) = true := by
 have hd := progL_sd (declG_sd _) _ f hf 0 ds k h
 unfold soundB
 rw [decide_eq_true h1, decide_eq_true h2]
 simp only [bareB, Tree.kind, Tree.num, Tree.name, Tree.kids]
 have ha : ds.all (declS (sg 100)) = true := List.all_eq_true.2 fun x hx => by
  have hx' : x ∈ (Tree.mk 1 [] 0 ds).kids := hx
  rw [declS_lim (by have := deep_of_kid hx'; omega)]
  exact hd x hx
 rw [ha]
 simp
end Go.Ps


/- PsBlk -/
set_option linter.unusedVariables false
set_option linter.unusedSimpArgs false
namespace Go.Pb
open Go.Ps
open Go.Sep (Tree Str bulkL)
variable {α β : Type}
def FS (f : F) : Prop := ∀ i t, f i = some t → t.text.length ≤ 1024
def Wt (c : Nat) (w : α → Nat) (p : Pp α) : Prop := ∀ f, FS f → ∀ k a k', p f k = .ok a k' → w a + 1025 * k ≤ 1025 * k' + c
theorem Wt.up {c c' : Nat} {w : α → Nat} {p : Pp α} (h : Wt c w p) (hc : c ≤ c') : Wt c' w p := fun f hf k a k' e => by have := h f hf k a k' e; omega
theorem Wt.ret {c : Nat} {w : α → Nat} {a : α} (h : w a ≤ c) : Wt c w (ret a) := fun f hf k b k' e => by injection e with e1 e2; subst e1; subst e2; omega
theorem Wt.fail {c : Nat} {w : α → Nat} : Wt c w (fail : Pp α) := fun f hf k a k' e => by cases e
theorem Wt.dry {c : Nat} {w : α → Nat} : Wt c w (dry : Pp α) := fun f hf k a k' e => by cases e
theorem Wt.bind {c c1 : Nat} {w1 : α → Nat} {w : β → Nat} {p : Pp α} {g : α → Pp β} (hp : Wt c1 w1 p) (hg : ∀ a, ∃ d, d ≤ c + w1 a - c1 ∧ c1 ≤ c + w1 a ∧ Wt d w (g a)) : Wt c w (bind p g) := fun f hf k b k' e => by
 unfold Ps.bind at e
 cases hx : p f k with
 | ok a k1 =>
  simp only [hx] at e
  obtain ⟨d, h1, h2, h3⟩ := hg a
  have h4 := hp f hf k a k1 hx
  have h5 := h3 f hf k1 b k' e
  omega
 | bad k1 => simp only [hx] at e; cases e
 | out => simp only [hx] at e; cases e
theorem Wt.bind0 {c : Nat} {w1 : α → Nat} {w : β → Nat} {p : Pp α} {g : α → Pp β} (hp : Wt 0 w1 p) (hg : ∀ a, Wt (c + w1 a) w (g a)) : Wt c w (Ps.bind p g) := Wt.bind hp fun a => ⟨_, Nat.le_refl _, Nat.zero_le _, hg a⟩
theorem Wt.tok {c : Nat} {w : α → Nat} {s : Str} {A B : Pp α} (hA : Wt (c + 1025) w A) (hB : Wt c w B) : Wt c w (tok s A B) := fun f hf k a k' e => by
 unfold Ps.tok at e
 cases hb : isM s f k with
 | true => simp only [hb, cond_true] at e; have := hA f hf _ a k' e; omega
 | false => simp only [hb, cond_false] at e; exact hB f hf k a k' e
theorem Wt.need {c : Nat} {w : α → Nat} {s : Str} {A : Pp α} (hA : Wt (c + 1025) w A) : Wt c w (need s A) := Wt.tok hA Wt.fail
theorem Wt.tkn {c : Nat} {w : α → Nat} {n : Int} {A : Tk → Pp α} {B : Pp α} (hA : ∀ t, t.text.length ≤ 1024 → Wt (c + 1025) w (A t)) (hB : Wt c w B) : Wt c w (tkn n A B) := fun f hf k a k' e => by
 unfold Ps.tkn at e
 cases hx : f k with
 | none => simp only [hx] at e; exact hB f hf k a k' e
 | some t =>
  cases hb : decide (t.kind = n) with
  | true => simp only [hx, hb, cond_true] at e; have := hA t (hf k t hx) f hf _ a k' e; omega
  | false => simp only [hx, hb, cond_false] at e; exact hB f hf k a k' e
theorem Wt.name {c : Nat} {w : α → Nat} {A : Str → Pp α} (hA : ∀ t, t.length ≤ 1024 → Wt (c + 1025) w (A t)) : Wt c w (name A) := Wt.tkn (fun t ht => hA t.text ht) Wt.fail
theorem Wt.oneOf {c : Nat} {w : α → Nat} {ops : List Str} {A : Str → Pp α} {B : Pp α} (hA : ∀ t ∈ ops, Wt (c + 1025) w (A t)) (hB : Wt c w B) : Wt c w (oneOf ops A B) := fun f hf k a k' e => by
 unfold Ps.oneOf at e
 cases hx : ops.find? (fun s => isM s f k) with
 | none => simp only [hx] at e; exact hB f hf k a k' e
 | some t => simp only [hx] at e; have := hA t (List.mem_of_find?_eq_some hx) f hf _ a k' e; omega
theorem Wt.peek {c : Nat} {w : α → Nat} {q : F → Nat → Bool} {A B : Pp α} (hA : Wt c w A) (hB : Wt c w B) : Wt c w (peek q A B) := fun f hf k a k' e => by
 unfold Ps.peek at e
 cases hb : q f k with
 | true => simp only [hb, cond_true] at e; exact hA f hf k a k' e
 | false => simp only [hb, cond_false] at e; exact hB f hf k a k' e
theorem Wt.tokIf {c : Nat} {w : α → Nat} {x : Bool} {s : Str} {A B : Pp α} (hA : Wt (c + 1025) w A) (hB : Wt c w B) : Wt c w (tokIf x s A B) := by
 cases x with
 | true => exact Wt.tok hA hB
 | false => exact hB
@[reducible] def T0 (p : Pp Tree) : Prop := Wt 0 Tree.bulk p
@[reducible] def L0 (p : Pp (List Tree)) : Prop := Wt 0 bulkL p
theorem szL_app (a b : List Tree) : bulkL (a ++ b) = bulkL a + bulkL b := by
 induction a with
 | nil => simp [bulkL]
 | cons x l ih => simp only [List.cons_append, bulkL, ih]; omega
theorem sz_mk (k : Int) (s : Str) (n : Int) (ks : List Tree) : (Tree.mk k s n ks).bulk = 1 + s.length + bulkL ks := by simp only [Tree.bulk]
theorem sz_leaf (k : Int) (s : Str) : (leaf k s).bulk = 1 + s.length := by simp only [leaf, Tree.bulk, bulkL]; omega
theorem commas_wt {X : Pp Tree} (h : T0 X) : ∀ j, L0 (commas j X)
 | 0 => Wt.dry
 | j + 1 => Wt.bind0 h fun a => Wt.tok (Wt.bind0 (commas_wt h j) fun l => Wt.ret (by (simp only [sz_mk, sz_leaf, bulkL, szL_app, List.length_nil]; omega))) (Wt.ret (by (simp only [sz_mk, sz_leaf, bulkL, szL_app, List.length_nil]; omega)))
theorem upto_wt {X : Pp Tree} {s : Str} (h : T0 X) : ∀ j, L0 (upto j s X)
 | 0 => Wt.dry
 | j + 1 => Wt.tok (Wt.ret (by (simp only [sz_mk, sz_leaf, bulkL, szL_app, List.length_nil]; omega))) (Wt.bind0 h fun a => Wt.bind0 (upto_wt h j) fun l => Wt.ret (by (simp only [sz_mk, sz_leaf, bulkL, szL_app, List.length_nil]; omega)))
variable {N : Nat}
theorem inP_wt {s : Str} {X : Pp Tree} (h : T0 X) : L0 (inP N s X) := Wt.tok (Wt.ret (by (simp only [sz_mk, sz_leaf, bulkL, szL_app, List.length_nil]; omega))) (Wt.bind0 (commas_wt h N) fun l => Wt.need (Wt.ret (by omega)))
theorem results_wt {typ : Pp Tree} (h : T0 typ) : L0 (resultsP N typ) :=
 Wt.tok (Wt.bind0 (commas_wt h N) fun l => Wt.need (Wt.ret (by omega))) (Wt.peek (Wt.bind0 h fun t => Wt.ret (by (simp only [sz_mk, sz_leaf, bulkL, szL_app, List.length_nil]; omega))) (Wt.ret (by (simp only [sz_mk, sz_leaf, bulkL, szL_app, List.length_nil]; omega))))
theorem param_wt {typ : Pp Tree} (h : T0 typ) : T0 (paramP typ) := Wt.name fun s hs_ => Wt.bind0 h fun t => Wt.ret (by (simp only [sz_mk, sz_leaf, bulkL, szL_app, List.length_nil]; omega))
theorem sigLike_wt {kind : Int} {X typ : Pp Tree} (hX : T0 X) (h : T0 typ) : T0 (sigLike N kind X typ) :=
 Wt.need (Wt.bind0 (inP_wt hX) fun ps => Wt.bind0 (results_wt h) fun rs => Wt.ret (by (simp only [sz_mk, sz_leaf, bulkL, szL_app, List.length_nil]; omega)))
theorem sig_wt {typ : Pp Tree} (h : T0 typ) : T0 (sigP N typ) := sigLike_wt (param_wt h) h
theorem typP_wt {typ : Pp Tree} (h : T0 typ) : T0 (typP N typ) :=
 Wt.tok (Wt.bind0 h fun t => Wt.ret (by (simp only [sz_mk, sz_leaf, bulkL, szL_app, List.length_nil]; omega))) (Wt.tok (Wt.need (Wt.bind0 h fun t => Wt.ret (by (simp only [sz_mk, sz_leaf, bulkL, szL_app, List.length_nil]; omega)))) (Wt.tok ((sigLike_wt h h).up (by omega)) (Wt.name fun s hs_ => Wt.ret (by (simp only [sz_mk, sz_leaf, bulkL, szL_app, List.length_nil]; omega)))))
theorem field_wt {mb : Pp Tree} (h : T0 mb) : T0 (fieldP mb) := Wt.name fun s hs_ => Wt.bind0 h fun t => Wt.need (Wt.ret (by (simp only [sz_mk, sz_leaf, bulkL, szL_app, List.length_nil]; omega)))
theorem body_wt {kind : Int} {nm : Str} {mb : Pp Tree} (hnm : nm.length ≤ 1024) (h : T0 mb) : T0 (bodyP N kind nm mb) := Wt.need (Wt.bind0 (upto_wt (field_wt h) N) fun l => Wt.ret (by (simp only [sz_mk, sz_leaf, bulkL, szL_app, List.length_nil]; omega)))
theorem typeDecl_wt {typ : Pp Tree} (h : T0 typ) : T0 (typeDeclP N typ) := Wt.name fun nm hnm_ => Wt.tok ((body_wt hnm_ (sig_wt h)).up (by omega)) (Wt.need ((body_wt hnm_ h).up (by omega)))
theorem decl_wt {typ block : Pp Tree} (h : T0 typ) (hb : T0 block) : T0 (declP N typ block) := by
 refine Wt.tok ((typeDecl_wt h).up (by omega)) (Wt.need (Wt.tok ?_ ?_))
 ·exact Wt.name fun recv hrecv_ => Wt.need (Wt.name fun of hof_ => Wt.need (Wt.name fun nm hnm_ => Wt.bind0 (sig_wt h) fun s => Wt.bind0 hb fun b => Wt.ret (by simp only [sz_mk, bulkL, recvT, sz_leaf, List.length_nil]; omega)))
 ·exact Wt.name fun nm hnm_ => Wt.bind0 (sig_wt h) fun s => Wt.bind0 hb fun b => Wt.ret (by (simp only [sz_mk, sz_leaf, bulkL, szL_app, List.length_nil]; omega))
theorem block_wt {stmt : Pp Tree} (h : T0 stmt) : T0 (blockP N stmt) := Wt.need (Wt.bind0 (upto_wt h N) fun l => Wt.ret (by (simp only [sz_mk, sz_leaf, bulkL, szL_app, List.length_nil]; omega)))
theorem branch_wt {expr block branch : Pp Tree} (he : T0 expr) (hb : T0 block) (hr : T0 branch) : T0 (branchP expr block branch) :=
 Wt.need (Wt.bind0 he fun c => Wt.bind0 hb fun b => Wt.tok (Wt.peek (Wt.bind0 hr fun e => Wt.ret (by (simp only [sz_mk, sz_leaf, bulkL, szL_app, List.length_nil]; omega))) (Wt.bind0 hb fun e => Wt.ret (by (simp only [sz_mk, sz_leaf, bulkL, szL_app, List.length_nil]; omega)))) (Wt.ret (by (simp only [sz_mk, sz_leaf, bulkL, szL_app, List.length_nil]; omega))))
theorem for_wt {expr block : Pp Tree} (he : T0 expr) (hb : T0 block) : Wt 1025 Tree.bulk (forP expr block) :=
 Wt.peek (Wt.bind0 hb fun b => Wt.ret (by (simp only [sz_mk, sz_leaf, bulkL, szL_app, List.length_nil]; omega))) (Wt.bind0 he fun c => Wt.bind0 hb fun b => Wt.ret (by (simp only [sz_mk, sz_leaf, bulkL, szL_app, List.length_nil]; omega)))
theorem assign_wt {expr : Pp Tree} {left : List Tree} (he : T0 expr) : Wt (bulkL left + 1025) Tree.bulk (assignP N expr left) := by
 refine Wt.tokIf (Wt.bind0 (commas_wt he N) fun l => Wt.ret (by (simp only [sz_mk, sz_leaf, bulkL, szL_app, List.length_nil]; omega))) (Wt.tokIf (Wt.bind0 (commas_wt he N) fun l => Wt.ret (by (simp only [sz_mk, sz_leaf, bulkL, szL_app, List.length_nil]; omega))) ?_)
 cases isC1 left with
 | true => exact Wt.peek (Wt.ret (by (simp only [sz_mk, sz_leaf, bulkL, szL_app, List.length_nil]; omega))) Wt.fail
 | false => exact Wt.fail
theorem simple_wt {typ expr : Pp Tree} (h : T0 typ) (he : T0 expr) : Wt 1025 Tree.bulk (simpleP N typ expr) := by
 refine Wt.tok (Wt.name fun s hs_ => Wt.bind0 h fun t => Wt.tok (Wt.bind0 he fun e => Wt.ret (by (simp only [sz_mk, sz_leaf, bulkL, szL_app, List.length_nil]; omega))) (Wt.ret (by (simp only [sz_mk, sz_leaf, bulkL, szL_app, List.length_nil]; omega)))) ?_
 refine Wt.tok (Wt.peek (Wt.ret (by (simp only [sz_mk, sz_leaf, bulkL, szL_app, List.length_nil]; omega))) (Wt.bind0 (commas_wt he N) fun l => Wt.ret (by (simp only [sz_mk, sz_leaf, bulkL, szL_app, List.length_nil]; omega)))) ?_
 refine Wt.tok (Wt.ret (by (simp only [sz_mk, sz_leaf, bulkL, szL_app, List.length_nil]; omega))) (Wt.tok (Wt.ret (by (simp only [sz_mk, sz_leaf, bulkL, szL_app, List.length_nil]; omega))) ?_)
 exact Wt.bind0 (commas_wt he N) fun l => (assign_wt he).up (by omega)
theorem exprs_wt {s : Str} {expr : Pp Tree} (he : T0 expr) : L0 (exprsP N s expr) := inP_wt he
theorem cut_wt {expr : Pp Tree} {num : Int} {ks : List Tree} {c : Nat} (he : T0 expr) (hc : bulkL ks ≤ c) : Wt c Tree.bulk (cutP expr num ks) :=
 Wt.need (Wt.tok (Wt.ret (by (simp only [sz_mk, sz_leaf, bulkL, szL_app, List.length_nil]; omega))) (Wt.bind0 he fun e => Wt.need (Wt.ret (by (simp only [sz_mk, sz_leaf, bulkL, szL_app, List.length_nil]; omega)))))
theorem index_wt {expr : Pp Tree} {n : Tree} (he : T0 expr) : Wt n.bulk Tree.bulk (indexP expr n) :=
 Wt.peek (cut_wt he (by (simp only [sz_mk, sz_leaf, bulkL, szL_app, List.length_nil]; omega))) (Wt.bind0 he fun e => Wt.tok (Wt.ret (by (simp only [sz_mk, sz_leaf, bulkL, szL_app, List.length_nil]; omega))) (cut_wt he (by (simp only [sz_mk, sz_leaf, bulkL, szL_app, List.length_nil]; omega))))
theorem post_wt {expr : Pp Tree} (he : T0 expr) : ∀ (j : Nat) (n : Tree), Wt n.bulk Tree.bulk (postP N expr j n)
 | 0, n => Wt.dry
 | j + 1, n => by
  refine Wt.tok (Wt.name fun s hs_ => (post_wt he j _).up (by (simp only [sz_mk, sz_leaf, bulkL, szL_app, List.length_nil]; omega))) (Wt.tok (Wt.bind (index_wt he) fun t => ⟨_, ?_, ?_, post_wt he j t⟩) (Wt.tok (Wt.bind0 (exprs_wt he) fun l => (post_wt he j _).up (by (simp only [sz_mk, sz_leaf, bulkL, szL_app, List.length_nil]; omega))) (Wt.ret (Nat.le_refl _))))
  ·omega
  ·omega
theorem prim_wt {typ block expr : Pp Tree} {h : Bool} (ht : T0 typ) (hb : T0 block) (he : T0 expr) : T0 (primP N typ block expr h) := by
 refine Wt.tkn (fun t ht_ => Wt.ret (by (simp only [sz_mk, sz_leaf, bulkL, szL_app, List.length_nil]; omega))) (Wt.tkn (fun t ht_ => Wt.ret (by (simp only [sz_mk, sz_leaf, bulkL, szL_app, List.length_nil]; omega))) (Wt.tok (Wt.ret (by (simp only [sz_mk, sz_leaf, bulkL, szL_app, List.length_nil]; omega))) (Wt.tok (Wt.ret (by (simp only [sz_mk, sz_leaf, bulkL, szL_app, List.length_nil]; omega))) (Wt.tok (Wt.ret (by (simp only [sz_mk, sz_leaf, bulkL, szL_app, List.length_nil]; omega))) ?_))))
 refine Wt.tok (Wt.bind0 he fun t => Wt.need (Wt.ret (by omega))) ?_
 refine Wt.tok (Wt.need (Wt.bind0 ht fun t => Wt.need (Wt.bind0 (exprs_wt he) fun l => Wt.ret (by (simp only [sz_mk, sz_leaf, bulkL, szL_app, List.length_nil]; omega))))) ?_
 refine Wt.tok (Wt.bind0 (sig_wt ht) fun s => Wt.bind0 hb fun b => Wt.ret (by (simp only [sz_mk, sz_leaf, bulkL, szL_app, List.length_nil]; omega))) (Wt.name fun s hs_ => ?_)
 cases h with
 | true => exact Wt.ret (by (simp only [sz_mk, sz_leaf, bulkL, szL_app, List.length_nil]; omega))
 | false => exact Wt.tok (Wt.bind0 (exprs_wt he) fun l => Wt.ret (by (simp only [sz_mk, sz_leaf, bulkL, szL_app, List.length_nil]; omega))) (Wt.ret (by (simp only [sz_mk, sz_leaf, bulkL, szL_app, List.length_nil]; omega)))
theorem loopB_wt {X : Pp Tree} {ops : List Str} (h : T0 X) (ho : ∀ s ∈ ops, s.length ≤ 1024) : ∀ (j : Nat) (n : Tree), Wt n.bulk Tree.bulk (loopB j ops X n)
 | 0, n => Wt.dry
 | j + 1, n => Wt.oneOf (fun op hop => Wt.bind0 h fun m => (loopB_wt h ho j _).up (by have := ho op hop; simp only [binT, sz_mk, bulkL]; omega)) (Wt.ret (Nat.le_refl _))
theorem binL_wt {U : Pp Tree} (hU : T0 U) : ∀ l : List (List Str), (∀ ops ∈ l, ∀ s ∈ ops, s.length ≤ 1024) → T0 (binL N U l)
 | [], _ => hU
 | ops :: rest, hl => Wt.bind0 (binL_wt hU rest fun o ho => hl o (by simp [ho])) fun n => (loopB_wt (binL_wt hU rest fun o ho => hl o (by simp [ho])) (hl ops (by simp)) N n).up (by omega)
theorem levels_short : ∀ ops ∈ levels, ∀ s ∈ ops, s.length ≤ 1024 := by decide
theorem ops_short : ∀ s ∈ ([[45], [33], [38], [42]] : List Str), s.length ≤ 1024 := by decide
theorem semi_wt {p : Pp Tree} (h : Wt 1025 Tree.bulk p) : T0 (Ps.bind p fun s => Ps.need [59] (Ps.ret s)) := fun f hf k b k' e => by
 unfold Ps.bind at e
 cases hx : p f k with
 | ok a k1 =>
  simp only [hx] at e
  have h4 := h f hf k a k1 hx
  unfold Ps.need Ps.tok at e
  cases hb : isM [59] f k1 with
  | true =>
   simp only [hb, cond_true] at e
   injection e with e1 e2
   subst e1 e2
   omega
  | false => simp only [hb, cond_false] at e; cases e
 | bad k1 => simp only [hx] at e; cases e
 | out => simp only [hx] at e; cases e
structure GWt (g : Gr) : Prop where
 typ : T0 g.typ
 block : T0 g.block
 stmt : T0 g.stmt
 branch : T0 g.branch
 expr : ∀ b, T0 (g.expr b)
 unary : ∀ b, T0 (g.unary b)
theorem gwt : ∀ n, GWt (gr N n)
 | 0 => ⟨Wt.dry, Wt.dry, Wt.dry, Wt.dry, fun _ => Wt.dry, fun _ => Wt.dry⟩
 | n + 1 => by
  have IH := gwt n
  refine ⟨typP_wt IH.typ, block_wt IH.stmt, ?_, branch_wt (IH.expr _) IH.block IH.branch, fun b => binL_wt (IH.unary b) _ levels_short, fun b => ?_⟩
  ·exact Wt.peek IH.block (Wt.peek IH.branch (Wt.tok (for_wt (IH.expr _) IH.block) (semi_wt (simple_wt IH.typ (IH.expr _)))))
  ·exact Wt.oneOf (fun op hop => Wt.bind0 (IH.unary b) fun t => Wt.ret (by have := ops_short op hop; (simp only [sz_mk, sz_leaf, bulkL, szL_app, List.length_nil]; omega))) (Wt.bind0 (prim_wt IH.typ IH.block (IH.expr _)) fun t => (post_wt (IH.expr _) N t).up (by omega))
theorem declG_wt (n : Nat) : T0 (declG N n) := decl_wt (gwt n).typ (gwt n).block
theorem progL_wt {decl : Pp Tree} (h : T0 decl) : ∀ j, L0 (progL decl j)
 | 0 => Wt.dry
 | j + 1 => fun f hf k a k' e => by
  have hr : L0 (bind decl fun a => bind (progL decl j) fun l => ret (a :: l)) := Wt.bind0 h fun a => Wt.bind0 (progL_wt h j) fun l => Wt.ret (by (simp only [sz_mk, sz_leaf, bulkL, szL_app, List.length_nil]; omega))
  unfold progL at e
  cases hb : (f k).isNone with
  | true => simp only [hb, cond_true] at e; injection e with e1 e2; subst e1; subst e2; simp only [bulkL]; omega
  | false => simp only [hb, cond_false] at e; exact hr f hf k a k' e
theorem program_wt (M : Nat) : L0 (Ps.program M) := progL_wt (declG_wt _) _
end Go.Pb


/- PsTokP -/
set_option linter.unusedVariables false
set_option linter.unusedSimpArgs false
namespace Go.Sep
structure TOk (t : Tok) : Prop where
 name : t.kind = 1 → isName t.text = true
 num : t.kind = 2 → 0 ≤ t.num
 short : t.text.length ≤ 1024
theorem take_span (p : UInt8 → Bool) (s : Str) : s.take (spanOf p s) = s.takeWhile p := (List.prefix_iff_eq_take.1 (List.takeWhile_prefix p)).symm
theorem tokD_ok {s : Str} {t : Tok} {n : Nat} (h : tokD s = some (t, n)) : TOk t := by
 cases s with
 | nil => cases h
 | cons c r =>
  rw [tokD] at h
  by_cases h1 : ltr c = true
  ·rw [if_pos h1] at h
   by_cases h64 : 64 < spanOf lod (c :: r)
   ·rw [if_pos h64] at h; cases h
   rw [if_neg h64, take_span] at h
   have hlen : ((c :: r).takeWhile lod).length ≤ 64 := by unfold spanOf at h64; omega
   have hc : lod c = true := by unfold lod; rw [h1]; rfl
   by_cases hw : (c :: r).takeWhile lod ∈ wordL
   ·rw [if_pos hw] at h
    cases h
    exact ⟨fun e => (by cases e), fun e => (by cases e), by show ((c :: r).takeWhile lod).length ≤ 1024; omega⟩
   ·rw [if_neg hw] at h
    cases h
    refine ⟨fun _ => ?_, fun e => (by cases e), by show ((c :: r).takeWhile lod).length ≤ 1024; omega⟩
    show isName ((c :: r).takeWhile lod) = true
    have hall : ((c :: r).takeWhile lod).all lod = true := List.all_takeWhile
    have e : (c :: r).takeWhile lod = c :: r.takeWhile lod := List.takeWhile_cons_of_pos hc
    rw [isName_eq (by rw [e]; simp), decide_eq_true hlen, hall, decide_eq_false hw]
    simp only [e, List.getElem_cons_zero, h1]
    rfl
  ·rw [if_neg h1] at h
   by_cases h2 : dgt c = true
   ·rw [if_pos h2] at h
    split at h
    ·cases h
    ·split at h
     ·cases h
     ·cases h
      exact ⟨fun e => (by cases e), fun _ => Int.natCast_nonneg _, Nat.zero_le _⟩
   ·rw [if_neg h2] at h
    by_cases h3 : c.toNat = 34
    ·rw [if_pos h3] at h
     cases hl : lit r with
     | none => rw [hl] at h; cases h
     | some p =>
      obtain ⟨t', n'⟩ := p
      rw [hl] at h
      simp only at h
      split at h
      ·cases h
      ·cases h
       exact ⟨fun e => (by cases e), fun e => (by cases e), by show t'.length ≤ 1024; omega⟩
    ·rw [if_neg h3] at h
     cases hf : markL.find? (fun p => prefixB p (c :: r)) with
     | none => rw [hf] at h; cases h
     | some p =>
      rw [hf] at h
      cases h
      have hm : ∀ p ∈ markL, p.length ≤ 1024 := by decide
      exact ⟨fun e => (by cases e), fun e => (by cases e), hm p (List.mem_of_find?_eq_some hf)⟩
theorem cutF_toks : ∀ (f : Nat) (r : Str) (at_ k : Nat) (l : List Tok), cutF f r at_ k = .ok l → ∀ t ∈ l, TOk t
 | 0, r, at_, k, l, h => by cases h
 | f + 1, r, at_, k, l, h => by
  rw [cutF] at h
  by_cases h1 : r.drop (blk false r) = []
  ·rw [if_pos h1] at h
   injection h with h
   subst h
   intro t ht; cases ht
  rw [if_neg h1] at h
  by_cases h2 : k = 20000
  ·rw [if_pos h2] at h; cases h
  rw [if_neg h2] at h
  cases ht : tokD (r.drop (blk false r)) with
  | none => rw [ht] at h; cases h
  | some p =>
   obtain ⟨u, n⟩ := p
   rw [ht] at h
   simp only at h
   cases hc : cutF f ((r.drop (blk false r)).drop n) (at_ + blk false r + n) (k + 1) with
   | error e => rw [hc] at h; cases h
   | ok l' =>
    rw [hc] at h
    simp only [Except.ok.injEq] at h
    subst h
    intro t hm
    rcases List.mem_cons.1 hm with rfl | hm
    ·have := tokD_ok ht
     exact ⟨this.name, this.num, this.short⟩
    ·exact cutF_toks f _ _ _ _ hc t hm
theorem toks_ok {s : Str} (h : (scanD s).e = 0) : ∀ t ∈ (scanD s).list, TOk t := cutF_toks _ _ _ _ _ (scanD_ok h).2
theorem tkF_tok {l : List Tok} {i : Nat} {t : Ps.Tk} (h : tkF l i = some t) : ∃ u ∈ l, t = ⟨u.kind, u.text, u.num⟩ := by
 unfold tkF at h
 cases hx : l[i]? with
 | none => rw [hx] at h; cases h
 | some u =>
  rw [hx] at h
  simp only [Option.some.injEq] at h
  exact ⟨u, List.mem_of_getElem? hx, h.symm⟩
theorem fok_of {s : Str} (h : (scanD s).e = 0) : Ps.FOk (tkF (scanD s).list) := fun i t ht => by
 obtain ⟨u, hu, rfl⟩ := tkF_tok ht
 have := toks_ok h u hu
 exact ⟨this.name, this.num, fun _ => this.short⟩
theorem fs_of {s : Str} (h : (scanD s).e = 0) : Pb.FS (tkF (scanD s).list) := fun i t ht => by
 obtain ⟨u, hu, rfl⟩ := tkF_tok ht
 exact (toks_ok h u hu).short
theorem parse_sound {s : Str} {ds : List Tree} {k : Nat} (h : (scanD s).e = 0) (hp : Ps.program (scanD s).list.length (tkF (scanD s).list) 0 = .ok ds k) (h1 : (Tree.mk 1 [] 0 ds).size ≤ 20000) (h2 : (Tree.mk 1 [] 0 ds).deep ≤ 100) :
  soundB (.mk 1 [] 0 ds) = true ∧ (Tree.mk 1 [] 0 ds).bulk ≤ 140737488355328 := by
 refine ⟨Ps.program_sound (fok_of h) hp h1 h2, ?_⟩
 have e1 := Pb.program_wt _ _ (fs_of h) 0 ds k hp
 have e2 := ((Ps.Run.program (tkF_none _)).ok 0 (Nat.le_refl _) (Nat.zero_le _) ds k hp).2.1
 have e3 := scanD_len s
 simp only [Tree.bulk, List.length_nil]
 omega
end Go.Sep


/- PsPlacesW -/
set_option linter.unusedVariables false
set_option linter.unusedSimpArgs false
namespace Go.Sep
open Go.Proofs
attribute [local irreducible] TC TO OT TCallX TCall DO DOt thenQ blockQ retQ At
attribute [local irreducible] parseD scanD
set_option maxHeartbeats 2000000 in
theorem parsePlaces_walk (m : Mem) (L : List Item) (s : Str) (hE : Errs m) : TCall Tryz.prog 5 ⟨[strV s]⟩ m L (Made m L fun r _ => r = .bool true) := by
 unfold TCall
 refine TCallX.enter Tryz.func5 rfl 89 rfl ?_
 repeat (first|refine q1 ?_|refine q3 ?_|refine q4 tab rfl rfl ?_|refine q5 ?_|refine q6 ?_)
 refine TO.step rfl (OT.call rfl rfl rfl rfl rfl rfl goes8 ((parse_law program_ne _ _ s hE).x ?_));
 rintro _ m1 _ ⟨hm1, rfl, x, rfl, hx⟩
 repeat (refine q4 tab rfl rfl ?_)
 refine TO.step rfl (OT.alloc tab rfl rfl rfl rfl (fun b => ?_))
 skip
 (refine TO.step rfl (OT.storeL0 tab 0 rfl rfl rfl rfl rfl rfl rfl rfl ?_))
 repeat (first|refine q1 ?_|refine q3 ?_|refine q4 tab rfl rfl ?_|refine q5 ?_|refine q6 ?_)
 refine TO.step rfl (OT.call rfl rfl rfl rfl rfl rfl goes10 ((awake_law _ _ (hE.mono hm1)).x ?_));
 rintro _ m2 _ ⟨hm2, rfl, rfl⟩
 rcases parseD_cases s with ⟨ds, k, h1, h2, h3, h4, h5⟩ | ⟨a, e, h1, h2, h3, h5⟩ | ⟨a, h1, h2, h3, h5⟩ | ⟨k, h1, h2, h5⟩
 ·rw [h5] at hx ⊢
  obtain ⟨hs, hB⟩ := parse_sound h1 h2 h3 h4
  repeat (first|refine q1 ?_|refine q3 ?_|refine q4 tab rfl rfl ?_|refine q5 ?_|refine q6 ?_|refine q13 ?_|refine q16 rfl ?_|refine q17 rfl ?_)
  refine TO.step rfl (OT.loadL0 tab 0 rfl rfl rfl rfl rfl rfl ?_)
  skip
  refine TO.step rfl (OT.call rfl rfl rfl rfl rfl rfl goes12 ((sound_law _ _ _ x (hx.mono hm2) hB).x ?_));
  rw [hs]
  rintro _ _ _ ⟨rfl, rfl, rfl⟩
  repeat (first|refine q4 tab rfl rfl ?_|refine q5 ?_|refine q6 ?_|refine q8 ?_|refine q15 ?_)
  exact retQ_ret rfl (by repeat (first|exact List.Sublist.refl _|refine List.Sublist.cons _ ?_)) ⟨Mem.le_trans hm1 hm2, rfl, rfl⟩
 ·rw [h5] at hx ⊢
  obtain ⟨xk, xn, xu, xs⟩ := x
  obtain rfl : xk = 0 := hx.1
  rcases h1 with rfl | rfl
  all_goals
   repeat (refine q4 tab rfl rfl ?_)
   (refine TO.splitP rfl rfl (fun c1 => ?_) (fun c1 => ?_))
   ·simp only at c1; omega
   repeat (first|refine q4 tab rfl rfl ?_|refine q5 ?_|refine q6 ?_)
   refine TC.condP rfl (fun c2 => ?_) (fun c2 => ?_)
   ·simp only at c2; omega
   repeat (first|(first|refine q1 ?_|refine q3 ?_|refine q4 tab rfl rfl ?_|refine q5 ?_|refine q6 ?_|refine q8 ?_|refine q13 ?_|refine q15 ?_|refine q16 rfl ?_|refine q17 rfl ?_)|(refine qs rfl (ql tab 0 rfl rfl rfl rfl rfl rfl ?_)))
   exact retQ_ret rfl (by repeat (first|exact List.Sublist.refl _|refine List.Sublist.cons _ ?_)) ⟨Mem.le_trans hm1 hm2, rfl, rfl⟩
 ·rw [h5] at hx ⊢
  obtain ⟨xk, xn, xu, xs⟩ := x
  obtain rfl : xk = 0 := hx.1
  repeat (refine q4 tab rfl rfl ?_)
  (refine TO.splitP rfl rfl (fun c1 => ?_) (fun c1 => ?_))
  ·simp only at c1; omega
  repeat (first|refine q4 tab rfl rfl ?_|refine q5 ?_|refine q6 ?_)
  refine TC.condP rfl (fun c2 => ?_) (fun c2 => ?_)
  ·simp only at c2; omega
  repeat (first|(first|refine q1 ?_|refine q3 ?_|refine q4 tab rfl rfl ?_|refine q5 ?_|refine q6 ?_|refine q13 ?_|refine q17 rfl ?_)|(refine qs rfl (ql tab 0 rfl rfl rfl rfl rfl rfl ?_)))
  refine TO.step rfl (OT.call rfl rfl rfl rfl rfl rfl goes14 ((scan_law _ _ s ((hE.mono hm1).mono hm2)).x ?_));
  rintro _ m3 _ ⟨hm3, rfl, sl, rfl, hsl⟩
  repeat (first|refine q1 ?_|refine q3 ?_|refine q4 tab rfl rfl ?_|refine q5 ?_|refine q6 ?_)
  (refine TO.splitN rfl rfl (fun c3 => ?_) (fun c3 => ?_))
  ·repeat (first|refine q1 ?_|refine q3 ?_|refine q4 tab rfl rfl ?_|refine q5 ?_|refine q6 ?_|refine q8 ?_|refine q15 ?_|refine q16 rfl ?_)
   exact retQ_ret rfl (by repeat (first|exact List.Sublist.refl _|refine List.Sublist.cons _ ?_)) ⟨Mem.le_trans (Mem.le_trans hm1 hm2) hm3, rfl, rfl⟩
  ·exact absurd (by assumption) h1
 ·have hpr := placeD_range h1 k
  rw [h5] at hx ⊢
  obtain ⟨xk, xn, xu, xs⟩ := x
  obtain rfl : xk = 0 := hx.1
  simp only
  generalize hpl : placeD s (scanD s).list k = pl at hpr
  repeat (refine q4 tab rfl rfl ?_)
  (refine TO.splitP rfl rfl (fun c1 => ?_) (fun c1 => ?_))
  ·omega
  repeat (first|refine q4 tab rfl rfl ?_|refine q5 ?_|refine q6 ?_)
  refine TC.condP rfl (fun c2 => ?_) (fun c2 => ?_)
  ·omega
  repeat (first|(first|refine q1 ?_|refine q3 ?_|refine q4 tab rfl rfl ?_|refine q5 ?_|refine q6 ?_|refine q13 ?_|refine q17 rfl ?_)|(refine qs rfl (ql tab 0 rfl rfl rfl rfl rfl rfl ?_)))
  refine TO.step rfl (OT.call rfl rfl rfl rfl rfl rfl goes14 ((scan_law _ _ s ((hE.mono hm1).mono hm2)).x ?_));
  rintro _ m3 _ ⟨hm3, rfl, sl, rfl, hsl⟩
  rw [h1]
  have hm13 := Mem.le_trans (Mem.le_trans hm1 hm2) hm3
  repeat (first|refine q1 ?_|refine q3 ?_|refine q4 tab rfl rfl ?_|refine q5 ?_|refine q6 ?_)
  refine TC.condP rfl (fun c3 => ?_) (fun c3 => ?_)
  ·repeat (first|refine q1 ?_|refine q3 ?_|refine q4 tab rfl rfl ?_|refine q5 ?_|refine q6 ?_|refine q8 ?_|refine q15 ?_)
   exact retQ_ret rfl (by repeat (first|exact List.Sublist.refl _|refine List.Sublist.cons _ ?_)) ⟨hm13, rfl, rfl⟩
  have hk : k < (scanD s).list.length := by
   refine Nat.lt_of_not_le fun hge => c3 ?_
   rw [← hpl]
   unfold placeD
   rw [List.getElem?_eq_none hge]
  obtain ⟨a, g1, g2, g3⟩ := parse_cut h1 h2 hk
  obtain rfl : pl = (a : Int) := hpl.symm.trans g1
  repeat (first|refine q1 ?_|refine q3 ?_|refine q4 tab rfl rfl ?_|refine q6 ?_|refine q13 ?_)
  refine TO.step rfl (OT.sub tab 0 a rfl rfl rfl rfl rfl rfl rfl (.inl ⟨rfl, rfl⟩) (.inr rfl) (Nat.zero_le _) (Nat.le_of_lt g2) ?_)
  rw [List.drop_zero]
  skip
  refine TO.step rfl (OT.call rfl rfl rfl rfl rfl rfl goes8 ((parse_law program_ne _ _ (s.take a) (hE.mono hm13)).x ?_));
  rintro _ m4 _ ⟨hm4, rfl, y, rfl, hy⟩
  have hm14 := Mem.le_trans hm13 hm4
  repeat (refine q4 tab rfl rfl ?_)
  refine TO.step rfl (OT.alloc tab rfl rfl rfl rfl (fun b9 => ?_))
  skip
  (refine TO.step rfl (OT.storeL0 tab 0 rfl rfl rfl rfl rfl rfl rfl rfl ?_))
  repeat (first|refine q1 ?_|refine q3 ?_|refine q4 tab rfl rfl ?_|refine q5 ?_|refine q6 ?_)
  generalize parseD (s.take a) = pa at g3
  obtain ⟨pt, pat, pe⟩ := pa
  rcases g3 with g3 | ⟨g3, g4⟩ | g3
  ·obtain rfl : pe = 0 := g3
   repeat (first|refine q4 tab rfl rfl ?_|refine q5 ?_|refine q6 ?_|refine q15 ?_)
   exact retQ_ret rfl (by repeat (first|exact List.Sublist.refl _|refine List.Sublist.cons _ ?_)) ⟨hm14, rfl, rfl⟩
  ·obtain rfl : pe = 3 := g3
   obtain rfl : pat = (a : Int) := g4
   repeat (refine q4 tab rfl rfl ?_)
   (refine TO.splitP rfl rfl (fun c4 => ?_) (fun c4 => ?_))
   ·repeat (first|refine q4 tab rfl rfl ?_|refine q5 ?_|refine q6 ?_|refine q15 ?_)
    exact retQ_ret rfl (by repeat (first|exact List.Sublist.refl _|refine List.Sublist.cons _ ?_)) ⟨hm14, rfl, rfl⟩
   ·exact absurd rfl c4
  ·obtain rfl : pe = 4 := g3
   repeat (first|refine q4 tab rfl rfl ?_|refine q5 ?_|refine q6 ?_|refine q15 ?_)
   exact retQ_ret rfl (by repeat (first|exact List.Sublist.refl _|refine List.Sublist.cons _ ?_)) ⟨hm14, rfl, rfl⟩
end Go.Sep

