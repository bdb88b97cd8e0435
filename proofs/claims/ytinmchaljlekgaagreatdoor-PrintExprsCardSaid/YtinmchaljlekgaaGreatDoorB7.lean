/- PtRY -/
import Derived.Test.YtinmchaljlekgaaGreatDoorB6
set_option linter.unusedVariables false
set_option linter.unusedSimpArgs false
namespace Go.Pt
open Go.Sep Go.Ps
section
variable {N : Nat} {n0 : Str} {u0 : Int} {ks : List Tree}
theorem bare_f {a : Tree} {k t u : Bool} (h : bareB a k t u=true) : k=true∧(t=false→a.name=[])∧(u=false→a.num=0):=by
 unfold bareB at h
 simp only [Bool.and_eq_true,Bool.or_eq_true,decide_eq_true_eq] at h
 refine ⟨h.1,fun e => ?_,fun e => ?_⟩
 ·rcases h.2.1 with h1 | h1
  ·rw [e] at h1;cases h1
  ·exact h1
 ·rcases h.2.2 with h1 | h1
  ·rw [e] at h1;cases h1
  ·exact h1
theorem of_f {a : Tree} {k : Int} (h : ofB a k=true) : a.kind=k∧a.num=0∧isName a.name=true:=by
 unfold ofB at h
 simpa using h
theorem kids0 {l : List Tree} (h : kidsR [] none l=true) : l=[]:=by
 rw [kidsR0] at h;exact List.length_eq_zero_iff.1 (of_decide_eq_true h)
theorem kids1 {p : Tree→Bool} {l : List Tree} (h : kidsR [p] none l=true) : ∃ x,l=[x]∧p x=true:=by
 match l,h with
 | [],h=>cases h
 | [x],h=>exact ⟨x,rfl,by simpa [kidsR] using h⟩
 | x :: y :: l,h=>simp [kidsR] at h
theorem kids2 {p q : Tree→Bool} {l : List Tree} (h : kidsR [p,q] none l=true) : ∃ x y,l=[x,y]∧p x=true∧q y=true:=by
 match l,h with
 | [],h=>cases h
 | [x],h=>simp [kidsR] at h
 | [x,y],h=>exact ⟨x,y,rfl,by simpa [kidsR] using h⟩
 | x :: y :: z :: l,h=>simp [kidsR] at h
theorem kids3 {p q r : Tree→Bool} {l : List Tree} (h : kidsR [p,q,r] none l=true) : ∃ x y z,l=[x,y,z]∧p x=true∧q y=true∧r z=true:=by
 match l,h with
 | [],h=>cases h
 | [x],h=>simp [kidsR] at h
 | [x,y],h=>simp [kidsR] at h
 | [x,y,z],h=>exact ⟨x,y,z,rfl,by simpa [kidsR] using h⟩
 | x :: y :: z :: w :: l,h=>simp [kidsR] at h
theorem len2 {l : List Tree} (h : l.length=2) : ∃ x y,l=[x,y]:=by
 match l,h with
 | [x,y],_=>exact ⟨x,y,rfl⟩
theorem len3 {l : List Tree} (h : l.length=3) : ∃ x y z,l=[x,y,z]:=by
 match l,h with
 | [x,y,z],_=>exact ⟨x,y,z,rfl⟩
theorem kidsS {p q : Tree→Bool} {l : List Tree} (h : kidsR [p] (some q) l=true) : ∃ x r,l=x :: r∧p x=true ∧ ∀ y ∈ r,q y=true:=by
 match l,h with
 | [],h=>cases h
 | x :: r,h =>
  simp only [kidsR,Bool.and_eq_true] at h
  exact ⟨x,r,rfl,h.1,fun y hy=>List.all_eq_true.1 h.2 y hy⟩
theorem post_expr (k0 : Int) (ih : ∀ k ∈ ks,k.size ≤ N→RT N k) (hN : (Tree.mk k0 n0 u0 ks).size ≤ N) (he : exprS lim (.mk k0 n0 u0 ks)=true) (h : Bool) (n : Nat) (hn : 4 * (Tree.mk k0 n0 u0 ks).deep ≤ n + 1) : PR N n h (.mk k0 n0 u0 ks):=by
 have hlen:=len_size (Tree.mk k0 n0 u0 ks)
 have hdp:=deep_pos (Tree.mk k0 n0 u0 ks)
 simp only [Tree.kids] at hlen
 have K : ∀ x ∈ ks,RT N x∧x.size ≤ N∧x.deep < (Tree.mk k0 n0 u0 ks).deep:=fun x hx=>kid_ok ih hN hx
 by_cases e : k0=40
 ·subst e
  have hf : (bareB (.mk 40 n0 u0 ks) (decide (0 ≤ u0)) false true && kidsR [] none ks)=true:=he
  rw [Bool.and_eq_true] at hf
  obtain rfl : n0=[]:=(bare_f hf.1).2.1 rfl
  obtain rfl:=kids0 hf.2
  exact PR.base (Rd.tknT rfl Rd.ret) (fun o=>rfl)
 by_cases e : k0=41
 ·subst e
  have hf : (bareB (.mk 41 n0 u0 ks) (decide ((n0.length : Int) ≤ 1024)) true false && kidsR [] none ks)=true:=he
  rw [Bool.and_eq_true] at hf
  obtain rfl : u0=0:=(bare_f hf.1).2.2 rfl
  obtain rfl:=kids0 hf.2
  exact PR.base (Rd.tknF (fun o _=>rfl) (Rd.tknT rfl Rd.ret)) (fun o=>rfl)
 by_cases e : k0=42
 ·subst e
  have hf : (bareB (.mk 42 n0 u0 ks) (decide (u0 / 2=0)) false true && kidsR [] none ks)=true:=he
  rw [Bool.and_eq_true] at hf
  obtain rfl : n0=[]:=(bare_f hf.1).2.1 rfl
  obtain rfl:=kids0 hf.2
  have hu:=of_decide_eq_true (bare_f hf.1).1
  have hu2 : u0=0 ∨ u0=1:=by omega
  rcases hu2 with rfl | rfl
  ·exact PR.base (Rd.tknF (fun o _=>rfl) (Rd.tknF (fun o _=>rfl) (Rd.tokF (fun o _=>rfl) (Rd.tokT rfl Rd.ret)))) (fun o=>rfl)
  ·exact PR.base (Rd.tknF (fun o _=>rfl) (Rd.tknF (fun o _=>rfl) (Rd.tokT rfl Rd.ret))) (fun o=>rfl)
 by_cases e : k0=43
 ·subst e
  have hf : (bareB (.mk 43 n0 u0 ks) true false false && kidsR [] none ks)=true:=he
  rw [Bool.and_eq_true] at hf
  obtain rfl : n0=[]:=(bare_f hf.1).2.1 rfl
  obtain rfl : u0=0:=(bare_f hf.1).2.2 rfl
  obtain rfl:=kids0 hf.2
  exact PR.base (Rd.tknF (fun o _=>rfl) (Rd.tknF (fun o _=>rfl) (Rd.tokF (fun o _=>rfl) (Rd.tokF (fun o _=>rfl) (Rd.tokT rfl Rd.ret))))) (fun o=>rfl)
 by_cases e : k0=44
 ·subst e
  have hf : (ofB (.mk 44 n0 u0 ks) 44 && kidsR [] none ks)=true:=he
  rw [Bool.and_eq_true] at hf
  obtain rfl : u0=0:=(of_f hf.1).2.1
  obtain rfl:=kids0 hf.2
  refine PR.base (Rd.tknF (fun o _=>rfl) (Rd.tknF (fun o _=>rfl) (Rd.tokF (fun o _=>rfl) (Rd.tokF (fun o _=>rfl) (Rd.tokF (fun o _=>rfl) (Rd.tokF (fun o _=>rfl) (Rd.tokF (fun o _=>rfl) (Rd.tokF (fun o _=>rfl) (Rd.name ?_))))))))) (fun o=>rfl)
  cases h with
  | true=>exact Rd.ret
  | false=>exact Rd.tokF (fun o ho=>(by unfold fP at ho;simpa using ho : dM [123] o=false)) Rd.ret
 by_cases e : k0=45
 ·subst e
  have hf : (ofB (.mk 45 n0 u0 ks) 45 && ks.all lim.expr)=true:=he
  rw [Bool.and_eq_true] at hf
  obtain rfl : u0=0:=(of_f hf.1).2.1
  have et : toks (.mk 45 n0 0 ks)=mk [40] :: ((nm n0 :: mk [123] :: (commaJ (ks.map toks)++[mk [125]]))++[mk [41]]):=by rw [toks_eq];show mk _ :: nm n0 :: mk _ :: (_++[mk _,mk _])=_;simp [Tree.kids]
  obtain ⟨n2,rfl⟩ : ∃ m,n=m + 2:=⟨n - 2,by omega⟩
  refine PR.base ?_ (fun o=>by rw [et];rfl)
  rw [et]
  refine paren_rd ?_
  have q1 : Rd (primP N (gr N n2).typ (gr N n2).block ((gr N n2).expr false) false) (nm n0 :: mk [123] :: (commaJ (ks.map toks)++[mk [125]])) (.mk 45 n0 0 ks) (fP false):=by
   refine Rd.tknF (fun o _=>rfl) (Rd.tknF (fun o _=>rfl) (Rd.tokF (fun o _=>rfl) (Rd.tokF (fun o _=>rfl) (Rd.tokF (fun o _=>rfl) (Rd.tokF (fun o _=>rfl) (Rd.tokF (fun o _=>rfl) (Rd.tokF (fun o _=>rfl) (Rd.name ?_))))))))
   exact Rd.tokT rfl (Rd.bret (g:=fun l=>Tree.mk 45 n0 0 l) ((exprs_in (by decide) (by decide) (by omega) (by decide) fun x hx=>⟨(K x hx).1,List.all_eq_true.1 hf.2 x hx,(K x hx).2.1,by have:=(K x hx).2.2;omega⟩).mono fun o _=>rfl))
  exact binL_one (prim_un q1 (fun o=>rfl) (by omega)) (by omega) (fun o ho=>close_U ho) levels fun s hs o ho=>opB_no (by have:=close_E ho;unfold fE at this;simp only [Bool.and_eq_true,Bool.not_eq_true'] at this;exact this.2) s hs
 by_cases e : k0=46
 ·subst e
  have hf : (bareB (.mk 46 n0 u0 ks) true false false && kidsR [Tree.isType] (some lim.expr) ks)=true:=he
  rw [Bool.and_eq_true] at hf
  obtain rfl : n0=[]:=(bare_f hf.1).2.1 rfl
  obtain rfl : u0=0:=(bare_f hf.1).2.2 rfl
  obtain ⟨x,r,rfl,hx,hr⟩:=kidsS hf.2
  have hx1:=K x (by simp)
  have et : toks (.mk 46 [] 0 (x :: r))=mk [91] :: mk [93] :: (toks x++mk [123] :: (commaJ (r.map toks)++[mk [125]])):=by rw [toks_eq];rfl
  refine PR.base ?_ (fun o=>by rw [et];rfl)
  rw [et]
  refine Rd.tknF (fun o _=>rfl) (Rd.tknF (fun o _=>rfl) (Rd.tokF (fun o _=>rfl) (Rd.tokF (fun o _=>rfl) (Rd.tokF (fun o _=>rfl) (Rd.tokF (fun o _=>rfl) (Rd.tokT rfl (Rd.need rfl ?_)))))))
  refine Rd.bind (typ_rd hx hx1.2.1 (by omega)) (Rd.need rfl (Rd.bret (g:=fun l=>Tree.mk 46 [] 0 (x :: l)) ((exprs_in (n:=n) (l:=r) (by decide) (by decide) (by simp at hlen;omega) (by decide) fun y hy => ?_).mono fun o _=>rfl))) (fun o _=>rfl)
  have:=K y (by simp [hy])
  exact ⟨this.1,hr y hy,this.2.1,by omega⟩
 by_cases e : k0=47
 ·subst e
  have hf : (bareB (.mk 47 n0 u0 ks) true false false && kidsR [Tree.isSig,lim.block] none ks)=true:=he
  rw [Bool.and_eq_true] at hf
  obtain rfl : n0=[]:=(bare_f hf.1).2.1 rfl
  obtain rfl : u0=0:=(bare_f hf.1).2.2 rfl
  obtain ⟨x,y,rfl,hx,hy⟩:=kids2 hf.2
  have hx1:=K x (by simp)
  have hy1:=K y (by simp)
  have et : toks (.mk 47 [] 0 [x,y])=wd [102,117,110,99] :: (toks x++toks y):=by rw [toks_eq];rfl
  refine PR.base ?_ (fun o=>by rw [et];rfl)
  rw [et]
  refine Rd.tknF (fun o _=>rfl) (Rd.tknF (fun o _=>rfl) (Rd.tokF (fun o _=>rfl) (Rd.tokF (fun o _=>rfl) (Rd.tokF (fun o _=>rfl) (Rd.tokF (fun o _=>rfl) (Rd.tokF (fun o _=>rfl) (Rd.tokT rfl ?_)))))))
  refine Rd.bind (sig_rd hx hx1.2.1 (by omega)) (Rd.bret ((hy1.1.block hy n (by omega)).mono fun o _=>rfl)) (fun o _ => ?_)
  have hb : blockS lim y=true:=(lim_fix y).2.2.symm.trans hy
  unfold blockS at hb
  rw [Bool.and_eq_true] at hb
  have hk:=of_decide_eq_true (bare_f hb.1).1
  obtain ⟨k2,n2,u2,ks2⟩:=y
  obtain rfl : k2=20:=hk
  rw [toks_eq];rfl
 have heE : ∀ x ∈ ks,lim.expr x=true→RT N x∧lim.expr x=true∧x.size ≤ N∧4 * x.deep + 1 ≤ n:=fun x hx h1=>⟨(K x hx).1,h1,(K x hx).2.1,by have:=(K x hx).2.2;omega⟩
 have hE1 : ∀ x ∈ ks,lim.expr x=true→Rd ((gr N n).expr false) (toks x) x (fE false):=fun x hx h1=>(K x hx).1.expr h1 (K x hx).2.1 (by have:=(K x hx).2.2;omega)
 have hP1 : ∀ x ∈ ks,lim.expr x=true→PR N n h x:=fun x hx h1=>(K x hx).1.post h1 h n (by have:=(K x hx).2.2;omega)
 by_cases e : k0=48
 ·subst e
  have hf : (ofB (.mk 48 n0 u0 ks) 48 && kidsR [lim.expr] none ks)=true:=he
  rw [Bool.and_eq_true] at hf
  obtain rfl : u0=0:=(of_f hf.1).2.1
  obtain ⟨x,rfl,hx⟩:=kids1 hf.2
  refine (hP1 x (by simp) hx).suffix (suf:=[mk [46],nm n0]) (by rw [toks_eq];rfl) (kid_size (by simp [Tree.kids])) (fun j f k hseg => ?_) (fun o=>rfl)
  rw [postP]
  unfold Ps.tok
  rw [isM_eq,hseg.1]
  simp only [show dM [46] (some (mk [46]))=true from rfl,cond_true]
  unfold Ps.name Ps.tkn
  rw [hseg.2.1]
  rfl
 by_cases e : k0=49
 ·subst e
  have hf : (bareB (.mk 49 n0 u0 ks) true false false && kidsR [lim.expr,lim.expr] none ks)=true:=he
  rw [Bool.and_eq_true] at hf
  obtain rfl : n0=[]:=(bare_f hf.1).2.1 rfl
  obtain rfl : u0=0:=(bare_f hf.1).2.2 rfl
  obtain ⟨x,y,rfl,hx,hy⟩:=kids2 hf.2
  have q : Rd (indexP ((gr N n).expr false) x) (toks y++[mk [93]]) (.mk 49 [] 0 [x,y]) yes:=by
   refine Rd.peekMF (fun o _ => ?_) (Rd.bind (hE1 y (by simp) hy) (Rd.tokT rfl Rd.ret) fun o _=>by rfl)
   rw [hd_app2];exact hS_no ((K y (by simp)).1.hdE hy _) (by decide)
  refine (hP1 x (by simp) hx).suffix (suf:=mk [91] :: (toks y++[mk [93]])) (by rw [toks_eq];rfl) (kid_size (by simp [Tree.kids])) (fun j f k hseg => ?_) (fun o=>rfl)
  rw [postP]
  unfold Ps.tok
  rw [isM_eq,isM_eq,hseg.1]
  show Ps.bind _ _ f (k + 1)=_
  rw [bind_ok (q f (k + 1) hseg.2 rfl)]
  simp only [List.length_cons,List.length_append,List.length_nil,Nat.add_assoc,Nat.add_comm,Nat.add_left_comm]
 by_cases e : k0=50
 ·subst e
  have hf : (bareB (.mk 50 n0 u0 ks) (lvl (.mk 50 n0 u0 ks)) false true && ks.all lim.expr)=true:=he
  rw [Bool.and_eq_true] at hf
  obtain rfl : n0=[]:=(bare_f hf.1).2.1 rfl
  have hl : (decide (0 ≤ u0) && (decide (u0 ≤ 3) && decide ((ks.length : Int)=1 + u0 % 2 + u0 / 2)))=true:=(bare_f hf.1).1
  simp only [Bool.and_eq_true,decide_eq_true_eq] at hl
  have fin : ∀ (x : Tree) (suf : List Tk) (hx : x ∈ ks) (et : toks (.mk 50 [] u0 ks)=toks x++mk [91] :: suf) (q : Rd (indexP ((gr N n).expr false) x) suf (.mk 50 [] u0 ks) yes),PR N n h (.mk 50 [] u0 ks):=fun x suf hx et q=>by
   refine (hP1 x hx (List.all_eq_true.1 hf.2 x hx)).suffix (suf:=mk [91] :: suf) et (kid_size (by simpa [Tree.kids] using hx)) (fun j f k hseg => ?_) (fun o=>rfl)
   rw [postP]
   unfold Ps.tok
   rw [isM_eq,isM_eq,hseg.1]
   show Ps.bind _ _ f (k + 1)=_
   rw [bind_ok (q f (k + 1) hseg.2 rfl)]
   simp only [List.length_cons,Nat.add_assoc,Nat.add_comm,Nat.add_left_comm]
  have hu : u0=0 ∨ u0=1 ∨ u0=2 ∨ u0=3:=by omega
  rcases hu with rfl | rfl | rfl | rfl
  ·obtain ⟨x,rfl⟩:=List.length_eq_one_iff.1 (show ks.length=1 by omega)
   exact fin x [mk [58],mk [93]] (by simp) (by rw [toks_eq];rfl) (Rd.peekMT (fun o _=>rfl) (Rd.need rfl (Rd.tokT rfl Rd.ret)))
  ·obtain ⟨x,y,rfl⟩:=len2 (show ks.length=2 by omega)
   have hy : lim.expr y=true:=List.all_eq_true.1 hf.2 y (by simp)
   refine fin x (toks y++mk [58] :: [mk [93]]) (by simp) (by rw [toks_eq];rfl) (Rd.peekMF (fun o _ => ?_) (Rd.bind (hE1 y (by simp) hy) (Rd.tokF (fun o _=>rfl) (Rd.need rfl (Rd.tokT rfl Rd.ret))) fun o _=>by rfl))
   rw [hd_app2];exact hS_no ((K y (by simp)).1.hdE hy _) (by decide)
  ·obtain ⟨x,y,rfl⟩:=len2 (show ks.length=2 by omega)
   have hy : lim.expr y=true:=List.all_eq_true.1 hf.2 y (by simp)
   refine fin x (mk [58] :: (toks y++[mk [93]])) (by simp) (by rw [toks_eq];rfl) (Rd.peekMT (fun o _=>rfl) (Rd.need rfl (Rd.tokF (fun o _ => ?_) (Rd.bind (hE1 y (by simp) hy) (Rd.need rfl Rd.ret) fun o _=>by rfl))))
   rw [hd_app2];exact hS_no ((K y (by simp)).1.hdE hy _) (by decide)
  ·obtain ⟨x,y,z,rfl⟩:=len3 (show ks.length=3 by omega)
   have hy : lim.expr y=true:=List.all_eq_true.1 hf.2 y (by simp)
   have hz : lim.expr z=true:=List.all_eq_true.1 hf.2 z (by simp)
   refine fin x (toks y++mk [58] :: (toks z++[mk [93]])) (by simp) (by rw [toks_eq];rfl) (Rd.peekMF (fun o _ => ?_) (Rd.bind (hE1 y (by simp) hy) (Rd.tokF (fun o _=>rfl) (Rd.need rfl (Rd.tokF (fun o _ => ?_) (Rd.bind (hE1 z (by simp) hz) (Rd.need rfl Rd.ret) fun o _=>by rfl)))) fun o _=>by rfl))
   ·rw [hd_app2];exact hS_no ((K y (by simp)).1.hdE hy _) (by decide)
   ·rw [hd_app2];exact hS_no ((K z (by simp)).1.hdE hz _) (by decide)
 by_cases e : k0=51
 ·subst e
  have hf : (bareB (.mk 51 n0 u0 ks) true false false && kidsR [lim.expr] (some lim.expr) ks)=true:=he
  rw [Bool.and_eq_true] at hf
  obtain rfl : n0=[]:=(bare_f hf.1).2.1 rfl
  obtain rfl : u0=0:=(bare_f hf.1).2.2 rfl
  obtain ⟨x,r,rfl,hx,hr⟩:=kidsS hf.2
  have q : Rd (exprsP N [41] ((gr N n).expr false)) (commaJ (r.map toks)++[mk [41]]) r yes:=exprs_in (n:=n) (s:=[41]) (l:=r) (by decide) (by decide) (by simp at hlen;omega) (by decide) fun y hy=>heE y (by simp [hy]) (hr y hy)
  refine (hP1 x (by simp) hx).suffix (suf:=mk [40] :: (commaJ (r.map toks)++[mk [41]])) (by rw [toks_eq];rfl) (kid_size (by simp [Tree.kids])) (fun j f k hseg => ?_) (fun o=>rfl)
  rw [postP]
  unfold Ps.tok
  rw [isM_eq,isM_eq,isM_eq,hseg.1]
  show Ps.bind _ _ f (k + 1)=_
  rw [bind_ok (q f (k + 1) hseg.2 rfl)]
  simp only [List.length_cons,List.length_append,List.length_nil,Nat.add_assoc,Nat.add_comm,Nat.add_left_comm]
 by_cases e : k0=52
 ·subst e
  have hf : (bareB (.mk 52 n0 u0 ks) (decide (n0 ∈ ops4)) true false && kidsR [lim.expr] none ks)=true:=he
  rw [Bool.and_eq_true] at hf
  obtain rfl : u0=0:=(bare_f hf.1).2.2 rfl
  have ho:=of_decide_eq_true (bare_f hf.1).1
  obtain ⟨x,rfl,hx⟩:=kids1 hf.2
  have hx1:=K x (by simp)
  have et : toks (.mk 52 n0 0 [x])=mk [40] :: ((mk n0 :: toks x)++[mk [41]]):=by rw [toks_eq];rfl
  obtain ⟨n3,rfl⟩ : ∃ m,n=m + 3:=⟨n - 3,by omega⟩
  refine PR.base ?_ (fun o=>by rw [et];rfl)
  rw [et]
  refine paren_rd ?_
  have q1 : Rd (unaryP N (gr N (n3 + 1)) false) (mk n0 :: toks x) (.mk 52 n0 0 [x]) (fU false):=Rd.oneOfT (ops:=[[45],[33],[38],[42]]) ho (Rd.bret (g:=fun t=>Tree.mk 52 n0 0 [t]) (hx1.1.unary hx hx1.2.1 (by omega)))
  exact binL_one q1 (by omega) (fun o ho=>close_U ho) levels fun s hs o ho=>opB_no (by have:=close_E ho;unfold fE at this;simp only [Bool.and_eq_true,Bool.not_eq_true'] at this;exact this.2) s hs
 by_cases e : k0=53
 ·subst e
  have hf : (bareB (.mk 53 n0 u0 ks) (decide (n0 ∈ Ps.levels.flatten)) true false && kidsR [lim.expr,lim.expr] none ks)=true:=he
  rw [Bool.and_eq_true] at hf
  obtain rfl : u0=0:=(bare_f hf.1).2.2 rfl
  have ho:=of_decide_eq_true (bare_f hf.1).1
  obtain ⟨x,y,rfl,hx,hy⟩:=kids2 hf.2
  have hx1:=K x (by simp)
  have hy1:=K y (by simp)
  have et : toks (.mk 53 n0 0 [x,y])=mk [40] :: ((toks x++mk n0 :: toks y)++[mk [41]]):=by rw [toks_eq];show mk [40] :: (toks x++mk n0 :: (toks y++[mk [41]]))=_;rw [List.append_assoc];rfl
  obtain ⟨n2,rfl⟩ : ∃ m,n=m + 2:=⟨n - 2,by omega⟩
  refine PR.base ?_ (fun o=>by rw [et];rfl)
  rw [et]
  refine paren_rd ?_
  have hU : fU false (some (mk n0))=true:=by
   have : ∀ s ∈ Ps.levels.flatten,fU false (some (mk s))=true:=by decide
   exact this n0 ho
  exact binL_op (hx1.1.unary hx hx1.2.1 (by omega)) (hy1.1.unary hy hy1.2.1 (by omega)) (by simp at hlen;omega) hU (fun o ho=>close_U ho) levels dj_levels ho fun s hs o ho=>opB_no (by have:=close_E ho;unfold fE at this;simp only [Bool.and_eq_true,Bool.not_eq_true'] at this;exact this.2) s hs
 exfalso
 unfold exprS at he
 simp only [Tree.kind] at he
 simp [*] at he
end
end Go.Pt


/- PtRZ -/
set_option linter.unusedVariables false
set_option linter.unusedSimpArgs false
namespace Go.Pt
open Go.Sep Go.Ps
theorem headS_y {a : Tree} {k : Int} (h : a.kind=k) (h1 : k=21) : headS a=decide (a.num=0):=by
 unfold headS;rw [h,h1];rfl
theorem headS_a {a : Tree} {k : Int} (h : a.kind=k) (h1 : k=22 ∨ k=23) : headS a=decide (a.name=[]):=by
 unfold headS;rw [h];rcases h1 with rfl | rfl <;> simp
theorem headS_n {a : Tree} {k : Int} (h : a.kind=k) (h1 : k ≠ 21∧k ≠ 22∧k ≠ 23) : headS a=(decide (a.name=[]) && decide (a.num=0)):=by
 unfold headS;rw [h,decide_eq_false h1.1,decide_eq_false h1.2.1,decide_eq_false h1.2.2];rfl
theorem stmtS_head (g : Sg) (a : Tree) : stmtS g a=(headS a && (if a.kind=20 then blockS g a
 else if a.kind=21 then isName a.name && (kidsR [Tree.isType] none a.kids || kidsR [Tree.isType,g.expr] none a.kids)
 else if a.kind=22 then asgS g (nmS g) a
 else if a.kind=23 then asgS g (plS g) a
 else if a.kind=24 then kidsR [callS g] none a.kids
 else if a.kind=25 then kidsR [g.expr,g.block] none a.kids || kidsR [g.expr,g.block,otherS g] none a.kids
 else if a.kind=26 then kidsR [g.block] none a.kids || kidsR [g.expr,g.block] none a.kids
 else if a.kind=27 then a.kids.all g.expr
 else if a.kind=28 ∨ a.kind=29 then kidsR [] none a.kids
 else false)):=by
 unfold stmtS
 cases headS a <;> simp
theorem only_no {s0 s : Str} {o : Option Tk} (h : dM s0 o=true) (hs : s ≠ s0) : dM s o=false:=by
 cases o with
 | none=>rfl
 | some t =>
  have h2 : ((decide (t.kind=4) || decide (t.kind=5)) && decide (t.text=s0))=true:=h
  show ((decide (t.kind=4) || decide (t.kind=5)) && decide (t.text=s))=false
  simp only [Bool.and_eq_true,decide_eq_true_eq] at h2
  rw [h2.2,decide_eq_false (show ¬ s0=s from fun e=>hs e.symm),Bool.and_false]
theorem only_K {s0 : Str} {o : Option Tk} (h : dM s0 o=true) : dKb 1 o=false:=by
 cases o with
 | none=>rfl
 | some t =>
  have h2 : ((decide (t.kind=4) || decide (t.kind=5)) && decide (t.text=s0))=true:=h
  simp only [Bool.and_eq_true,Bool.or_eq_true,decide_eq_true_eq] at h2
  exact decide_eq_false (by omega)
def LB : List Str:=levels.flatten++[[123],[46],[91],[40],[42],[102,117,110,99]]
theorem only_T {s0 : Str} {o : Option Tk} (h : dM s0 o=true) (hs : s0 ∉ LB) : fT o=true:=by
 have q : ∀ s ∈ LB,dM s o=false:=fun s h2=>only_no h fun e=>hs (e ▸ h2)
 unfold fT dB
 rw [q _ (by decide),only_K h,q _ (by decide),q _ (by decide),q _ (by decide)];rfl
theorem only_E {s0 : Str} {o : Option Tk} {b : Bool} (h : dM s0 o=true) (hs : s0 ∉ LB) : fE b o=true:=by
 have q : ∀ s ∈ LB,dM s o=false:=fun s h2=>only_no h fun e=>hs (e ▸ h2)
 unfold fE fU fP fQ
 rw [q _ (by decide),q _ (by decide),q _ (by decide),q _ (by decide)]
 have : opB o=false:=by
  unfold opB
  rw [List.any_eq_false]
  intro s h2
  rw [q s (List.mem_append_left _ h2)]
  decide
 rw [this]
 cases b <;> rfl
theorem block_f {a : Tree} (h : lim.block a=true) : a.kind=20∧a.name=[]∧a.num=0∧a.kids.all lim.stmt=true:=by
 have h1 : blockS lim a=true:=(lim_fix a).2.2.symm.trans h
 unfold blockS at h1
 rw [Bool.and_eq_true] at h1
 exact ⟨of_decide_eq_true (bare_f h1.1).1,(bare_f h1.1).2.1 rfl,(bare_f h1.1).2.2 rfl,h1.2⟩
theorem block_hd {a : Tree} (h : lim.block a=true) (o : Option Tk) : hd (toks a) o=some (mk [123]):=by
 obtain ⟨k,n,u,ks⟩:=a
 obtain rfl : k=20:=(block_f h).1
 rw [toks_eq];rfl
section
variable {N : Nat}
theorem row_hd {L : List Str} {l : List Tree} (hne : l ≠ []) (h : ∀ x ∈ l, ∀ o,hS L (hd (toks x) o)=true) (o : Option Tk) : hS L (hd (commaJ (l.map toks)) o)=true:=by
 match l,hne,h with
 | [x],_,h=>exact h x (by simp) o
 | x :: y :: r,_,h=>rw [List.map_cons,List.map_cons,commaJ,hd_app2];exact h x (by simp) _
theorem semi_rd {n : Nat} {L : List Tk} {a : Tree} (h : Rd (simpleP N (gr N n).typ ((gr N n).expr false)) L a (dM [59])) (hb : ∀ o,dM [123] (hd L o)=false) (hi : ∀ o,dM [105,102] (hd L o)=false) (hf : ∀ o,dM [102,111,114] (hd L o)=false) :
  Rd (stmtP N (gr N n)) (L++[mk [59]]) a fS :=
 Rd.peekMF (fun o _=>by rw [hd_app2];exact hb _) (Rd.peekMF (fun o _=>by rw [hd_app2];exact hi _) (Rd.tokF (fun o _=>by rw [hd_app2];exact hf _) (Rd.bind h (Rd.need rfl Rd.ret) fun o _=>rfl)))
theorem row_e {n : Nat} {l : List Tree} (hne : l ≠ []) (hl : l.length ≤ N) {s0 : Str} (hs : s0 ∉ LB) (hc : s0 ≠ [44]) (h : ∀ x ∈ l,RT N x∧lim.expr x=true∧x.size ≤ N∧4 * x.deep + 1 ≤ n) :
  Rd (commas N ((gr N n).expr false)) (commaJ (l.map toks)) l (dM s0):=(exprs_row hne hl h).mono fun o ho=>by
 rw [only_no ho (fun e=>hc e.symm),only_E ho hs];rfl
theorem all_isNm {l : List Tree} (h : l.all (nmS lim)=true) : l.all isNm=true:=List.all_eq_true.2 fun x hx=>by
 have:=List.all_eq_true.1 h x hx
 unfold nmS at this
 rw [Bool.and_eq_true] at this
 exact this.1
theorem all_isPl {l : List Tree} (h : l.all (plS lim)=true) : l.all isPl=true:=List.all_eq_true.2 fun x hx=>by
 have:=List.all_eq_true.1 h x hx
 unfold plS at this
 rw [Bool.and_eq_true] at this
 exact this.1
theorem branch_rd (a : Tree) (ih : ∀ k ∈ a.kids,k.size ≤ N→RT N k) (hN : a.size ≤ N) (hs : lim.stmt a=true) (hk : a.kind=25) (n : Nat) (hn : 4 * a.deep ≤ n) : Rd (gr N n).branch (toks a) a fS:=by
 obtain ⟨k0,n0,u0,ks⟩:=a
 obtain rfl : k0=25:=hk
 have hdp:=deep_pos (Tree.mk 25 n0 u0 ks)
 have K : ∀ x ∈ ks,RT N x∧x.size ≤ N∧x.deep < (Tree.mk 25 n0 u0 ks).deep:=fun x hx=>kid_ok ih hN hx
 obtain ⟨n,rfl⟩ : ∃ m,n=m + 1:=⟨n - 1,by omega⟩
 have h1 : stmtS lim (.mk 25 n0 u0 ks)=true:=(lim_fix _).2.1.symm.trans hs
 rw [stmtS_head,headS_n (k:=25) rfl (by decide)] at h1
 have h2 : ((decide (n0=[]) && decide (u0=0)) && (kidsR [lim.expr,lim.block] none ks || kidsR [lim.expr,lim.block,otherS lim] none ks))=true:=h1
 simp only [Bool.and_eq_true,Bool.or_eq_true,decide_eq_true_eq] at h2
 obtain ⟨⟨rfl,rfl⟩,h3⟩:=h2
 have ex : ∀ x ∈ ks,lim.expr x=true→Rd ((gr N n).expr true) (toks x) x (fE true):=fun x hx h=>(K x hx).1.expr h (K x hx).2.1 (by have:=(K x hx).2.2;omega)
 have bl : ∀ x ∈ ks,lim.block x=true→Rd (gr N n).block (toks x) x yes:=fun x hx h=>(K x hx).1.block h n (by have:=(K x hx).2.2;omega)
 rcases h3 with h3 | h3
 ·obtain ⟨c,b,rfl,hc,hb⟩:=kids2 h3
  have et : toks (.mk 25 [] 0 [c,b])=wd [105,102] :: (toks c++(toks b++[])):=by rw [toks_eq];rfl
  rw [et]
  refine Rd.need rfl (Rd.bind (ex c (by simp) hc) (Rd.bind (bl b (by simp) hb) (Rd.tokF (fun o ho => ?_) Rd.ret) fun o _=>rfl) fun o _ => ?_)
  ·have ho' : (!dM [101,108,115,101] o)=true:=ho
   show dM [101,108,115,101] o=false
   simpa using ho'
  ·rw [List.append_nil,block_hd hb];decide
 ·obtain ⟨c,b,e,rfl,hc,hb,he⟩:=kids3 h3
  have et : toks (.mk 25 [] 0 [c,b,e])=wd [105,102] :: (toks c++(toks b++wd [101,108,115,101] :: toks e)):=by rw [toks_eq];rfl
  rw [et]
  refine Rd.need rfl (Rd.bind (ex c (by simp) hc) (Rd.bind (bl b (by simp) hb) (Rd.tokT rfl ?_) fun o _=>rfl) fun o _ => ?_)
  ·unfold otherS at he
   by_cases hbe : lim.block e=true
   ·exact Rd.peekMF (fun o _=>by rw [block_hd hbe];rfl) (Rd.bret (g:=fun e=>Tree.mk 25 [] 0 [c,b,e]) ((bl e (by simp) hbe).mono fun o _=>rfl))
   ·rw [Bool.or_eq_true,Bool.and_eq_true] at he
    obtain ⟨he1,he2⟩:=he.resolve_left hbe
    have hk25:=of_decide_eq_true he1
    have hK:=K e (by simp)
    refine Rd.peekMT (fun o _ => ?_) (Rd.bret (g:=fun e=>Tree.mk 25 [] 0 [c,b,e]) (hK.1.branch he2 hk25 n (by have:=hK.2.2;omega)))
    obtain ⟨k2,n2,u2,ks2⟩:=e
    obtain rfl : k2=25:=hk25
    rw [toks_eq];rfl
  ·rw [hd_app2,block_hd hb];decide
theorem block_rd (a : Tree) (ih : ∀ k ∈ a.kids,k.size ≤ N→RT N k) (hN : a.size ≤ N) (hs : lim.block a=true) (n : Nat) (hn : 4 * a.deep ≤ n) : Rd (gr N n).block (toks a) a yes:=by
 obtain ⟨h1,h2,h3,h4⟩:=block_f hs
 have hlen:=len_size a
 have hdp:=deep_pos a
 obtain ⟨k0,n0,u0,ks⟩:=a
 obtain rfl : k0=20:=h1
 obtain rfl : n0=[]:=h2
 obtain rfl : u0=0:=h3
 have K : ∀ x ∈ ks,RT N x∧x.size ≤ N∧x.deep < (Tree.mk 20 [] 0 ks).deep:=fun x hx=>kid_ok ih hN hx
 obtain ⟨n,rfl⟩ : ∃ m,n=m + 1:=⟨n - 1,by omega⟩
 have et : toks (.mk 20 [] 0 ks)=mk [123] :: ((ks.map toks).flatten++[mk [125]]):=by rw [toks_eq];rfl
 rw [et]
 refine Rd.need rfl (Rd.bret (g:=fun l=>Tree.mk 20 [] 0 l) (Rd.upto (S':=fS) rfl N ks (by simp only [Tree.kids] at hlen;omega) fun x hx => ?_))
 have hx1 : lim.stmt x=true:=List.all_eq_true.1 h4 x hx
 refine ⟨(K x hx).1.stmt hx1 n (by have:=(K x hx).2.2;omega),fun o=>⟨hS_no ((K x hx).1.hdS hx1 o) (by decide), ?_⟩⟩
 unfold fS
 rw [hS_no ((K x hx).1.hdS hx1 o) (by decide)];rfl
set_option maxHeartbeats 800000 in
theorem stmt_rd (a : Tree) (ih : ∀ k ∈ a.kids,k.size ≤ N→RT N k) (hN : a.size ≤ N) (hs : lim.stmt a=true) : (∀ n,4 * a.deep + 1 ≤ n→Rd (gr N n).stmt (toks a) a fS) ∧ ∀ o,hS LS (hd (toks a) o)=true:=by
 have hbr:=branch_rd a ih hN hs
 have hbl:=block_rd a ih hN
 have hlen:=len_size a
 obtain ⟨k0,n0,u0,ks⟩:=a
 simp only [Tree.kids] at hlen
 have hdp:=deep_pos (Tree.mk k0 n0 u0 ks)
 have K : ∀ x ∈ ks,RT N x∧x.size ≤ N∧x.deep < (Tree.mk k0 n0 u0 ks).deep:=fun x hx=>kid_ok ih hN hx
 have h1 : stmtS lim (.mk k0 n0 u0 ks)=true:=(lim_fix _).2.1.symm.trans hs
 rw [stmtS_head] at h1
 have hE : ∀ x ∈ ks,lim.expr x=true → ∀ o,hS LS (hd (toks x) o)=true:=fun x hx he o=>hS_up ((K x hx).1.hdE he o) (by decide)
 have he1 : ∀ n,4 * (Tree.mk k0 n0 u0 ks).deep ≤ n → ∀ x ∈ ks,lim.expr x=true→RT N x∧lim.expr x=true∧x.size ≤ N∧4 * x.deep + 1 ≤ n:=fun n hn x hx he=>⟨(K x hx).1,he,(K x hx).2.1,by have:=(K x hx).2.2;omega⟩
 have noE : ∀ {L : List Tk},(∀ o,hS LE (hd L o)=true)→(∀ o,dM [123] (hd L o)=false)∧(∀ o,dM [105,102] (hd L o)=false)∧(∀ o,dM [102,111,114] (hd L o)=false):=fun h=>⟨fun o=>hS_no (h o) (by decide),fun o=>hS_no (h o) (by decide),fun o=>hS_no (h o) (by decide)⟩
 by_cases e : k0=20
 ·subst e
  rw [headS_n (k:=20) rfl (by decide)] at h1
  have h2 : ((decide (n0=[]) && decide (u0=0)) && blockS lim (.mk 20 n0 u0 ks))=true:=h1
  rw [Bool.and_eq_true] at h2
  have hb : lim.block (.mk 20 n0 u0 ks)=true:=(lim_fix _).2.2.trans h2.2
  refine ⟨fun n hn => ?_,fun o=>by rw [block_hd hb];rfl⟩
  obtain ⟨n,rfl⟩ : ∃ m,n=m + 1:=⟨n - 1,by omega⟩
  exact Rd.peekMT (fun o _=>by rw [block_hd hb];rfl) ((hbl hb n (by omega)).mono fun o _=>rfl)
 by_cases e : k0=21
 ·subst e
  rw [headS_y (k:=21) rfl rfl] at h1
  have h2 : (decide (u0=0) && (isName n0 && (kidsR [Tree.isType] none ks || kidsR [Tree.isType,lim.expr] none ks)))=true:=h1
  simp only [Bool.and_eq_true,Bool.or_eq_true,decide_eq_true_eq] at h2
  obtain ⟨rfl,hn0,h3⟩:=h2
  rcases h3 with h3 | h3
  ·obtain ⟨t,rfl,ht⟩:=kids1 h3
   have et : toks (.mk 21 n0 0 [t])=(wd [118,97,114] :: nm n0 :: (toks t++[]))++[mk [59]]:=by rw [toks_eq];show wd _ :: nm n0 :: (toks t++([]++[mk _]))=_;simp
   refine ⟨fun n hn => ?_,fun o=>by rw [et];rfl⟩
   obtain ⟨n,rfl⟩ : ∃ m,n=m + 1:=⟨n - 1,by omega⟩
   rw [et]
   refine semi_rd (Rd.tokT rfl (Rd.name (Rd.bind (typ_rd ht (K t (by simp)).2.1 (by have:=(K t (by simp)).2.2;omega)) (Rd.tokF (fun o ho=>only_no ho (by decide)) Rd.ret) fun o ho=>only_T ho (by decide)))) (fun o=>rfl) (fun o=>rfl) (fun o=>rfl)
  ·obtain ⟨t,x,rfl,ht,hx⟩:=kids2 h3
   have et : toks (.mk 21 n0 0 [t,x])=(wd [118,97,114] :: nm n0 :: (toks t++mk [61] :: toks x))++[mk [59]]:=by rw [toks_eq];show wd _ :: nm n0 :: (toks t++((mk _ :: toks x)++[mk _]))=_;simp
   refine ⟨fun n hn => ?_,fun o=>by rw [et];rfl⟩
   obtain ⟨n,rfl⟩ : ∃ m,n=m + 1:=⟨n - 1,by omega⟩
   rw [et]
   have hx1:=he1 n (by omega) x (by simp) hx
   refine semi_rd (Rd.tokT rfl (Rd.name (Rd.bind (typ_rd ht (K t (by simp)).2.1 (by have:=(K t (by simp)).2.2;omega)) (Rd.tokT rfl (Rd.bret (g:=fun e=>Tree.mk 21 n0 0 [t,e]) ((hx1.1.expr hx hx1.2.2.1 hx1.2.2.2).mono fun o ho=>only_E ho (by decide)))) fun o ho=>rfl))) (fun o=>rfl) (fun o=>rfl) (fun o=>rfl)
 by_cases e : k0=22
 ·subst e
  rw [headS_a (k:=22) rfl (.inl rfl)] at h1
  have h2 : (decide (n0=[]) && (decide (1 ≤ u0) && (decide (u0 < (ks.length : Int)) && ((ks.take u0.toNat).all (nmS lim) && (ks.drop u0.toNat).all lim.expr))))=true:=h1
  simp only [Bool.and_eq_true,decide_eq_true_eq] at h2
  obtain ⟨rfl,h3,h4,h5,h6⟩:=h2
  have hl : (ks.take u0.toNat).length=u0.toNat:=by rw [List.length_take];omega
  have hne : ks.take u0.toNat ≠ []:=fun e=>by rw [e] at hl;simp at hl;omega
  have hne2 : ks.drop u0.toNat ≠ []:=fun e=>by have:=congrArg List.length e;rw [List.length_drop] at this;simp at this;omega
  have et : toks (.mk 22 [] u0 ks)=(commaJ ((ks.take u0.toNat).map toks)++mk [58,61] :: commaJ ((ks.drop u0.toNat).map toks))++[mk [59]]:=by rw [toks_eq,List.map_take,List.map_drop];show commaJ _++mk _ :: (commaJ _++[mk _])=_;rw [List.append_assoc];rfl
  have hLE : ∀ x ∈ ks.take u0.toNat,lim.expr x=true:=fun x hx=>by have:=List.all_eq_true.1 h5 x hx;unfold nmS at this;rw [Bool.and_eq_true] at this;exact this.2
  have hh : ∀ o,hS LE (hd (commaJ ((ks.take u0.toNat).map toks)++mk [58,61] :: commaJ ((ks.drop u0.toNat).map toks)) o)=true:=fun o=>by
   rw [hd_app2];exact row_hd hne (fun x hx o=>(K x (List.mem_of_mem_take hx)).1.hdE (hLE x hx) o) _
  refine ⟨fun n hn => ?_,fun o=>by rw [et,hd_app2];exact hS_up (hh _) (by decide)⟩
  obtain ⟨n,rfl⟩ : ∃ m,n=m + 1:=⟨n - 1,by omega⟩
  rw [et]
  obtain ⟨q1,q2,q3⟩:=noE hh
  refine semi_rd ?_ q1 q2 q3
  have e2 : Tree.mk 22 [] u0 ks = .mk 22 [] ((ks.take u0.toNat).length : Int) (ks.take u0.toNat++ks.drop u0.toNat):=by rw [List.take_append_drop,hl,show ((u0.toNat : Nat) : Int)=u0 by omega]
  rw [e2]
  refine Rd.tokF (fun o _=>hS_no (hh o) (by decide)) (Rd.tokF (fun o _=>hS_no (hh o) (by decide)) (Rd.tokF (fun o _=>hS_no (hh o) (by decide)) (Rd.tokF (fun o _=>hS_no (hh o) (by decide)) ?_)))
  refine Rd.bind (g:=assignP N ((gr N n).expr false)) (row_e (s0:=[58,61]) hne (by omega) (by decide) (by decide) fun x hx=>he1 n (by omega) x (List.mem_of_mem_take hx) (hLE x hx)) ?_ (fun o _=>rfl)
  unfold assignP tokIf
  rw [all_isNm h5,cond_true]
  exact Rd.tokT rfl (Rd.bret (g:=fun l=>Tree.mk 22 [] ((ks.take u0.toNat).length : Int) (ks.take u0.toNat++l)) (row_e hne2 (by rw [List.length_drop];omega) (by decide) (by decide) fun x hx=>he1 n (by omega) x (List.mem_of_mem_drop hx) (List.all_eq_true.1 h6 x hx)))
 by_cases e : k0=23
 ·subst e
  rw [headS_a (k:=23) rfl (.inr rfl)] at h1
  have h2 : (decide (n0=[]) && (decide (1 ≤ u0) && (decide (u0 < (ks.length : Int)) && ((ks.take u0.toNat).all (plS lim) && (ks.drop u0.toNat).all lim.expr))))=true:=h1
  simp only [Bool.and_eq_true,decide_eq_true_eq] at h2
  obtain ⟨rfl,h3,h4,h5,h6⟩:=h2
  have hl : (ks.take u0.toNat).length=u0.toNat:=by rw [List.length_take];omega
  have hne : ks.take u0.toNat ≠ []:=fun e=>by rw [e] at hl;simp at hl;omega
  have hne2 : ks.drop u0.toNat ≠ []:=fun e=>by have:=congrArg List.length e;rw [List.length_drop] at this;simp at this;omega
  have et : toks (.mk 23 [] u0 ks)=(commaJ ((ks.take u0.toNat).map toks)++mk [61] :: commaJ ((ks.drop u0.toNat).map toks))++[mk [59]]:=by rw [toks_eq,List.map_take,List.map_drop];show commaJ _++mk _ :: (commaJ _++[mk _])=_;rw [List.append_assoc];rfl
  have hLE : ∀ x ∈ ks.take u0.toNat,lim.expr x=true:=fun x hx=>by have:=List.all_eq_true.1 h5 x hx;unfold plS at this;rw [Bool.and_eq_true] at this;exact this.2
  have hh : ∀ o,hS LE (hd (commaJ ((ks.take u0.toNat).map toks)++mk [61] :: commaJ ((ks.drop u0.toNat).map toks)) o)=true:=fun o=>by
   rw [hd_app2];exact row_hd hne (fun x hx o=>(K x (List.mem_of_mem_take hx)).1.hdE (hLE x hx) o) _
  refine ⟨fun n hn => ?_,fun o=>by rw [et,hd_app2];exact hS_up (hh _) (by decide)⟩
  obtain ⟨n,rfl⟩ : ∃ m,n=m + 1:=⟨n - 1,by omega⟩
  rw [et]
  obtain ⟨q1,q2,q3⟩:=noE hh
  refine semi_rd ?_ q1 q2 q3
  have e2 : Tree.mk 23 [] u0 ks = .mk 23 [] ((ks.take u0.toNat).length : Int) (ks.take u0.toNat++ks.drop u0.toNat):=by rw [List.take_append_drop,hl,show ((u0.toNat : Nat) : Int)=u0 by omega]
  rw [e2]
  refine Rd.tokF (fun o _=>hS_no (hh o) (by decide)) (Rd.tokF (fun o _=>hS_no (hh o) (by decide)) (Rd.tokF (fun o _=>hS_no (hh o) (by decide)) (Rd.tokF (fun o _=>hS_no (hh o) (by decide)) ?_)))
  refine Rd.bind (g:=assignP N ((gr N n).expr false)) (row_e (s0:=[61]) hne (by omega) (by decide) (by decide) fun x hx=>he1 n (by omega) x (List.mem_of_mem_take hx) (hLE x hx)) ?_ (fun o _=>rfl)
  have q : Rd (tokIf ((ks.take u0.toNat).all isPl) [61] (Ps.bind (commas N ((gr N n).expr false)) fun l=>Ps.ret (Tree.mk 23 [] ((ks.take u0.toNat).length : Int) (ks.take u0.toNat++l))) (bif isC1 (ks.take u0.toNat) then Ps.peek (isM [59]) (Ps.ret (.mk 24 [] 0 (ks.take u0.toNat))) Ps.fail else Ps.fail)) (mk [61] :: commaJ ((ks.drop u0.toNat).map toks)) (.mk 23 [] ((ks.take u0.toNat).length : Int) (ks.take u0.toNat++ks.drop u0.toNat)) (dM [59]):=by
   unfold tokIf
   rw [all_isPl h5,cond_true]
   exact Rd.tokT rfl (Rd.bret (g:=fun l=>Tree.mk 23 [] ((ks.take u0.toNat).length : Int) (ks.take u0.toNat++l)) (row_e hne2 (by rw [List.length_drop];omega) (by decide) (by decide) fun x hx=>he1 n (by omega) x (List.mem_of_mem_drop hx) (List.all_eq_true.1 h6 x hx)))
  unfold assignP
  cases hq : (ks.take u0.toNat).all isNm with
  | true=>exact Rd.tokF (fun o _=>rfl) q
  | false=>exact q
 by_cases e : k0=24
 ·subst e
  rw [headS_n (k:=24) rfl (by decide)] at h1
  have h2 : ((decide (n0=[]) && decide (u0=0)) && kidsR [callS lim] none ks)=true:=h1
  simp only [Bool.and_eq_true,decide_eq_true_eq] at h2
  obtain ⟨⟨rfl,rfl⟩,h3⟩:=h2
  obtain ⟨x,rfl,hx⟩:=kids1 h3
  unfold callS at hx
  rw [Bool.and_eq_true] at hx
  have hk51:=of_decide_eq_true hx.1
  have et : toks (.mk 24 [] 0 [x])=(commaJ ([x].map toks)++[])++[mk [59]]:=by rw [toks_eq,List.append_nil];rfl
  have hh : ∀ o,hS LE (hd (commaJ ([x].map toks)++[]) o)=true:=fun o=>by rw [List.append_nil];exact (K x (by simp)).1.hdE hx.2 o
  refine ⟨fun n hn => ?_,fun o=>by rw [et,hd_app2];exact hS_up (hh _) (by decide)⟩
  obtain ⟨n,rfl⟩ : ∃ m,n=m + 1:=⟨n - 1,by omega⟩
  rw [et]
  obtain ⟨q1,q2,q3⟩:=noE hh
  refine semi_rd ?_ q1 q2 q3
  refine Rd.tokF (fun o _=>hS_no (hh o) (by decide)) (Rd.tokF (fun o _=>hS_no (hh o) (by decide)) (Rd.tokF (fun o _=>hS_no (hh o) (by decide)) (Rd.tokF (fun o _=>hS_no (hh o) (by decide)) ?_)))
  refine Rd.bind (g:=assignP N ((gr N n).expr false)) (row_e (s0:=[59]) (l:=[x]) (by simp) (by simp at hlen ⊢;omega) (by decide) (by decide) fun y hy=>by rw [List.mem_singleton.1 hy];exact he1 n (by omega) x (by simp) hx.2) ?_ (fun o ho=>ho)
  unfold assignP tokIf
  rw [show [x].all isNm=false by simp [isNm,hk51],show [x].all isPl=false by simp [isPl,hk51],show isC1 [x]=true from decide_eq_true hk51,cond_false,cond_false,cond_true]
  exact Rd.peekMT (fun o ho=>ho) Rd.ret
 by_cases e : k0=25
 ·subst e
  have hh : ∀ o,hd (toks (.mk 25 n0 u0 ks)) o=some (wd [105,102]):=fun o=>by rw [toks_eq];rfl
  refine ⟨fun n hn => ?_,fun o=>by rw [hh];rfl⟩
  obtain ⟨n,rfl⟩ : ∃ m,n=m + 1:=⟨n - 1,by omega⟩
  exact Rd.peekMF (fun o _=>by rw [hh];rfl) (Rd.peekMT (fun o _=>by rw [hh];rfl) (hbr rfl n (by omega)))
 by_cases e : k0=26
 ·subst e
  rw [headS_n (k:=26) rfl (by decide)] at h1
  have h2 : ((decide (n0=[]) && decide (u0=0)) && (kidsR [lim.block] none ks || kidsR [lim.expr,lim.block] none ks))=true:=h1
  simp only [Bool.and_eq_true,Bool.or_eq_true,decide_eq_true_eq] at h2
  obtain ⟨⟨rfl,rfl⟩,h3⟩:=h2
  have hh : ∀ o,hd (toks (.mk 26 [] 0 ks)) o=some (wd [102,111,114]):=fun o=>by rw [toks_eq];rfl
  refine ⟨fun n hn => ?_,fun o=>by rw [hh];rfl⟩
  obtain ⟨n,rfl⟩ : ∃ m,n=m + 1:=⟨n - 1,by omega⟩
  refine Rd.peekMF (fun o _=>by rw [hh];rfl) (Rd.peekMF (fun o _=>by rw [hh];rfl) ?_)
  rcases h3 with h3 | h3
  ·obtain ⟨b,rfl,hb⟩:=kids1 h3
   have et : toks (.mk 26 [] 0 [b])=wd [102,111,114] :: toks b:=by rw [toks_eq];rfl
   rw [et]
   exact Rd.tokT rfl (Rd.peekMT (fun o _=>by rw [block_hd hb];rfl) (Rd.bret (g:=fun b=>Tree.mk 26 [] 0 [b]) (((K b (by simp)).1.block hb n (by have:=(K b (by simp)).2.2;omega)).mono fun o _=>rfl)))
  ·obtain ⟨c,b,rfl,hc,hb⟩:=kids2 h3
   have et : toks (.mk 26 [] 0 [c,b])=wd [102,111,114] :: (toks c++toks b):=by rw [toks_eq];rfl
   rw [et]
   have hc1:=he1 n (by omega) c (by simp) hc
   refine Rd.tokT rfl (Rd.peekMF (fun o _ => ?_) (Rd.bind (hc1.1.expr hc hc1.2.2.1 hc1.2.2.2) (Rd.bret (g:=fun b=>Tree.mk 26 [] 0 [c,b]) (((K b (by simp)).1.block hb n (by have:=(K b (by simp)).2.2;omega)).mono fun o _=>rfl)) fun o _ => ?_))
   ·rw [hd_app2];exact hS_no (hc1.1.hdE hc _) (by decide)
   ·rw [block_hd hb];decide
 by_cases e : k0=27
 ·subst e
  rw [headS_n (k:=27) rfl (by decide)] at h1
  have h2 : ((decide (n0=[]) && decide (u0=0)) && ks.all lim.expr)=true:=h1
  simp only [Bool.and_eq_true,decide_eq_true_eq] at h2
  obtain ⟨⟨rfl,rfl⟩,h3⟩:=h2
  have et : toks (.mk 27 [] 0 ks)=(wd [114,101,116,117,114,110] :: commaJ (ks.map toks))++[mk [59]]:=by rw [toks_eq];rfl
  refine ⟨fun n hn => ?_,fun o=>by rw [et];rfl⟩
  obtain ⟨n,rfl⟩ : ∃ m,n=m + 1:=⟨n - 1,by omega⟩
  rw [et]
  refine semi_rd (Rd.tokF (fun o _=>rfl) (Rd.tokT rfl ?_)) (fun o=>rfl) (fun o=>rfl) (fun o=>rfl)
  by_cases hks : ks=[]
  ·subst hks
   exact Rd.peekMT (fun o ho=>ho) Rd.ret
  ·refine Rd.peekMF (fun o _ => ?_) (Rd.bret (g:=fun l=>Tree.mk 27 [] 0 l) (row_e hks (by omega) (by decide) (by decide) fun x hx=>he1 n (by omega) x hx (List.all_eq_true.1 h3 x hx)))
   exact hS_no (row_hd (L:=LE) hks (fun x hx o=>(K x hx).1.hdE (List.all_eq_true.1 h3 x hx) o) o) (by decide)
 by_cases e : k0=28 ∨ k0=29
 ·have h2 : n0=[]∧u0=0∧ks=[]:=by
   rcases e with rfl | rfl
   ·rw [headS_n (k:=28) rfl (by decide)] at h1
    have h2 : ((decide (n0=[]) && decide (u0=0)) && kidsR [] none ks)=true:=h1
    simp only [Bool.and_eq_true,decide_eq_true_eq] at h2
    exact ⟨h2.1.1,h2.1.2,kids0 h2.2⟩
   ·rw [headS_n (k:=29) rfl (by decide)] at h1
    have h2 : ((decide (n0=[]) && decide (u0=0)) && kidsR [] none ks)=true:=h1
    simp only [Bool.and_eq_true,decide_eq_true_eq] at h2
    exact ⟨h2.1.1,h2.1.2,kids0 h2.2⟩
  obtain ⟨rfl,rfl,rfl⟩:=h2
  rcases e with rfl | rfl
  ·refine ⟨fun n hn => ?_,fun o=>rfl⟩
   obtain ⟨n,rfl⟩ : ∃ m,n=m + 1:=⟨n - 1,by omega⟩
   exact semi_rd (L:=[wd [98,114,101,97,107]]) (Rd.tokF (fun o _=>rfl) (Rd.tokF (fun o _=>rfl) (Rd.tokT rfl Rd.ret))) (fun o=>rfl) (fun o=>rfl) (fun o=>rfl)
  ·refine ⟨fun n hn => ?_,fun o=>rfl⟩
   obtain ⟨n,rfl⟩ : ∃ m,n=m + 1:=⟨n - 1,by omega⟩
   exact semi_rd (L:=[wd [99,111,110,116,105,110,117,101]]) (Rd.tokF (fun o _=>rfl) (Rd.tokF (fun o _=>rfl) (Rd.tokF (fun o _=>rfl) (Rd.tokT rfl Rd.ret)))) (fun o=>rfl) (fun o=>rfl) (fun o=>rfl)
 exfalso
 simp only [Tree.kind] at h1
 simp [*] at h1
theorem rt_all (a : Tree) : a.size ≤ N→RT N a:=by
 induction a using Tree.ind with
 | h a ih =>
 intro hN
 refine ⟨fun h n hn=>block_rd a ih hN h n hn,fun h n hn=>(stmt_rd a ih hN h).1 n hn,fun h hk n hn=>branch_rd a ih hN h hk n hn,fun h b n hn => ?_,fun h=>(stmt_rd a ih hN h).2⟩
 have he : exprS lim a=true:=(lim_fix a).1.symm.trans h
 obtain ⟨k0,n0,u0,ks⟩:=a
 exact post_expr k0 ih hN he b n hn
end
end Go.Pt


/- PsFuel -/
set_option linter.unusedVariables false
set_option linter.unusedSimpArgs false
namespace Go.Ps
open Go.Sep (Tree Str)
variable {α β : Type}
def Le (p p' : Pp α) : Prop := ∀ f k,p f k ≠ .out→p' f k=p f k
theorem Le.refl (p : Pp α) : Le p p:=fun _ _ _=>rfl
theorem Le.dry {p : Pp α} : Le dry p:=fun _ _ h=>absurd rfl h
theorem Le.bind {p p' : Pp α} {g g' : α → Pp β} (hp : Le p p') (hg : ∀ a,Le (g a) (g' a)) : Le (bind p g) (bind p' g'):=fun f k h=>by
 unfold Ps.bind at h ⊢
 cases hx : p f k with
 | ok a k1 =>
  simp only [hx] at h
  rw [hp f k (by rw [hx];exact fun e=>by cases e),hx]
  exact hg a f k1 h
 | bad k1=>rw [hp f k (by rw [hx];exact fun e=>by cases e),hx]
 | out=>simp only [hx] at h;exact absurd rfl h
theorem Le.bret {p p' : Pp α} {g : α → Pp β} (hp : Le p p') : Le (Ps.bind p g) (Ps.bind p' g):=Le.bind hp fun a=>Le.refl _
theorem Le.tok {s : Str} {A A' B B' : Pp α} (hA : Le A A') (hB : Le B B') : Le (tok s A B) (tok s A' B'):=fun f k h=>by
 unfold Ps.tok at h ⊢
 cases hb : isM s f k with
 | true=>simp only [hb,cond_true] at h ⊢;exact hA f _ h
 | false=>simp only [hb,cond_false] at h ⊢;exact hB f _ h
theorem Le.need {s : Str} {A A' : Pp α} (hA : Le A A') : Le (need s A) (need s A'):=Le.tok hA (Le.refl _)
theorem Le.tkn {n : Int} {A A' : Tk→Pp α} {B B' : Pp α} (hA : ∀ t,Le (A t) (A' t)) (hB : Le B B') : Le (tkn n A B) (tkn n A' B'):=fun f k h=>by
 unfold Ps.tkn at h ⊢
 cases hx : f k with
 | none=>simp only [hx] at h ⊢;exact hB f k h
 | some t =>
  cases hb : decide (t.kind=n) with
  | true=>simp only [hx,hb,cond_true] at h ⊢;exact hA t f _ h
  | false=>simp only [hx,hb,cond_false] at h ⊢;exact hB f k h
theorem Le.name {A A' : Str→Pp α} (hA : ∀ t,Le (A t) (A' t)) : Le (name A) (name A'):=Le.tkn (fun t=>hA t.text) (Le.refl _)
theorem Le.oneOf {ops : List Str} {A A' : Str→Pp α} {B B' : Pp α} (hA : ∀ t,Le (A t) (A' t)) (hB : Le B B') : Le (oneOf ops A B) (oneOf ops A' B'):=fun f k h=>by
 unfold Ps.oneOf at h ⊢
 cases hx : ops.find? (fun s=>isM s f k) with
 | none=>simp only [hx] at h ⊢;exact hB f k h
 | some t=>simp only [hx] at h ⊢;exact hA t f _ h
theorem Le.peek {q : F→Nat→Bool} {A A' B B' : Pp α} (hA : Le A A') (hB : Le B B') : Le (peek q A B) (peek q A' B'):=fun f k h=>by
 unfold Ps.peek at h ⊢
 cases hb : q f k with
 | true=>simp only [hb,cond_true] at h ⊢;exact hA f _ h
 | false=>simp only [hb,cond_false] at h ⊢;exact hB f _ h
theorem Le.tokIf {c : Bool} {s : Str} {A A' B B' : Pp α} (hA : Le A A') (hB : Le B B') : Le (tokIf c s A B) (tokIf c s A' B'):=by
 cases c with
 | true=>exact Le.tok hA hB
 | false=>exact hB
theorem Le.commas {X X' : Pp α} (h : Le X X') : ∀ {j j' : Nat},j ≤ j' → Le (commas j X) (commas j' X')
 | 0,_,_=>Le.dry
 | j + 1,j' + 1,hj=>Le.bind h fun a=>Le.tok (Le.bret (Le.commas h (Nat.le_of_succ_le_succ hj))) (Le.refl _)
theorem Le.upto {X X' : Pp α} {s : Str} (h : Le X X') : ∀ {j j' : Nat},j ≤ j' → Le (upto j s X) (upto j' s X')
 | 0,_,_=>Le.dry
 | j + 1,j' + 1,hj=>Le.tok (Le.refl _) (Le.bind h fun a=>Le.bret (Le.upto h (Nat.le_of_succ_le_succ hj)))
section
variable {N N' : Nat} (hN : N ≤ N')
include hN
theorem Le.inP {s : Str} {X X' : Pp α} (h : Le X X') : Le (inP N s X) (inP N' s X'):=Le.tok (Le.refl _) (Le.bret (Le.commas h hN))
theorem Le.results {typ typ' : Pp Tree} (h : Le typ typ') : Le (resultsP N typ) (resultsP N' typ'):=Le.tok (Le.bret (Le.commas h hN)) (Le.peek (Le.bret h) (Le.refl _))
omit hN in
theorem Le.param {typ typ' : Pp Tree} (h : Le typ typ') : Le (paramP typ) (paramP typ'):=Le.name fun s=>Le.bret h
theorem Le.sigLike {kind : Int} {X X' typ typ' : Pp Tree} (hX : Le X X') (h : Le typ typ') : Le (sigLike N kind X typ) (sigLike N' kind X' typ'):=Le.need (Le.bind (Le.inP hN hX) fun ps=>Le.bret (Le.results hN h))
theorem Le.sig {typ typ' : Pp Tree} (h : Le typ typ') : Le (sigP N typ) (sigP N' typ'):=Le.sigLike hN (Le.param h) h
theorem Le.typP {typ typ' : Pp Tree} (h : Le typ typ') : Le (typP N typ) (typP N' typ'):=Le.tok (Le.bret h) (Le.tok (Le.need (Le.bret h)) (Le.tok (Le.sigLike hN h h) (Le.refl _)))
omit hN in
theorem Le.field {mb mb' : Pp Tree} (h : Le mb mb') : Le (fieldP mb) (fieldP mb'):=Le.name fun s=>Le.bret h
theorem Le.body {kind : Int} {nm : Str} {mb mb' : Pp Tree} (h : Le mb mb') : Le (bodyP N kind nm mb) (bodyP N' kind nm mb'):=Le.need (Le.bret (Le.upto (Le.field h) hN))
theorem Le.typeDecl {typ typ' : Pp Tree} (h : Le typ typ') : Le (typeDeclP N typ) (typeDeclP N' typ'):=Le.name fun nm=>Le.tok (Le.body hN (Le.sig hN h)) (Le.need (Le.body hN h))
theorem Le.declP {typ typ' block block' : Pp Tree} (h : Le typ typ') (hb : Le block block') : Le (declP N typ block) (declP N' typ' block') :=
 Le.tok (Le.typeDecl hN h) (Le.need (Le.tok
  (Le.name fun recv=>Le.need (Le.name fun of=>Le.need (Le.name fun nm=>Le.bind (Le.sig hN h) fun s=>Le.bret hb)))
  (Le.name fun nm=>Le.bind (Le.sig hN h) fun s=>Le.bret hb)))
theorem Le.blockP {stmt stmt' : Pp Tree} (h : Le stmt stmt') : Le (blockP N stmt) (blockP N' stmt'):=Le.need (Le.bret (Le.upto h hN))
omit hN in
theorem Le.branchP {expr expr' block block' branch branch' : Pp Tree} (he : Le expr expr') (hb : Le block block') (hr : Le branch branch') : Le (branchP expr block branch) (branchP expr' block' branch') :=
 Le.need (Le.bind he fun c=>Le.bind hb fun b=>Le.tok (Le.peek (Le.bret hr) (Le.bret hb)) (Le.refl _))
omit hN in
theorem Le.forP {expr expr' block block' : Pp Tree} (he : Le expr expr') (hb : Le block block') : Le (forP expr block) (forP expr' block'):=Le.peek (Le.bret hb) (Le.bind he fun c=>Le.bret hb)
theorem Le.assignP {expr expr' : Pp Tree} {left : List Tree} (he : Le expr expr') : Le (assignP N expr left) (assignP N' expr' left) :=
 Le.tokIf (Le.bret (Le.commas he hN)) (Le.tokIf (Le.bret (Le.commas he hN)) (Le.refl _))
theorem Le.simpleP {typ typ' expr expr' : Pp Tree} (h : Le typ typ') (he : Le expr expr') : Le (simpleP N typ expr) (simpleP N' typ' expr') :=
 Le.tok (Le.name fun s=>Le.bind h fun t=>Le.tok (Le.bret he) (Le.refl _)) (Le.tok (Le.peek (Le.refl _) (Le.bret (Le.commas he hN))) (Le.tok (Le.refl _) (Le.tok (Le.refl _) (Le.bind (Le.commas he hN) fun l=>Le.assignP hN he))))
theorem Le.exprsP {s : Str} {expr expr' : Pp Tree} (he : Le expr expr') : Le (exprsP N s expr) (exprsP N' s expr'):=Le.inP hN he
omit hN in
theorem Le.cutP {expr expr' : Pp Tree} {num : Int} {ks : List Tree} (he : Le expr expr') : Le (cutP expr num ks) (cutP expr' num ks):=Le.need (Le.tok (Le.refl _) (Le.bret he))
omit hN in
theorem Le.indexP {expr expr' : Pp Tree} {n : Tree} (he : Le expr expr') : Le (indexP expr n) (indexP expr' n):=Le.peek (Le.cutP he) (Le.bind he fun e=>Le.tok (Le.refl _) (Le.cutP he))
theorem Le.postP {expr expr' : Pp Tree} (he : Le expr expr') : ∀ {j j' : Nat} (n : Tree),j ≤ j' → Le (postP N expr j n) (postP N' expr' j' n)
 | 0,_,_,_=>Le.dry
 | j + 1,j' + 1,n,hj=>Le.tok (Le.name fun s=>Le.postP he _ (Nat.le_of_succ_le_succ hj)) (Le.tok (Le.bind (Le.indexP he) fun t=>Le.postP he _ (Nat.le_of_succ_le_succ hj)) (Le.tok (Le.bind (Le.exprsP hN he) fun l=>Le.postP he _ (Nat.le_of_succ_le_succ hj)) (Le.refl _)))
theorem Le.primP {typ typ' block block' expr expr' : Pp Tree} {h : Bool} (ht : Le typ typ') (hb : Le block block') (he : Le expr expr') : Le (primP N typ block expr h) (primP N' typ' block' expr' h):=by
 refine Le.tkn (fun t=>Le.refl _) (Le.tkn (fun t=>Le.refl _) (Le.tok (Le.refl _) (Le.tok (Le.refl _) (Le.tok (Le.refl _) ?_))))
 refine Le.tok (Le.bret he) (Le.tok (Le.need (Le.bind ht fun t=>Le.need (Le.bret (Le.exprsP hN he)))) (Le.tok (Le.bind (Le.sig hN ht) fun s=>Le.bret hb) (Le.name fun s => ?_)))
 cases h with
 | true=>exact Le.refl _
 | false=>exact Le.tok (Le.bret (Le.exprsP hN he)) (Le.refl _)
omit hN in
theorem Le.loopB {X X' : Pp Tree} {ops : List Str} (h : Le X X') : ∀ {j j' : Nat} (n : Tree),j ≤ j' → Le (loopB j ops X n) (loopB j' ops X' n)
 | 0,_,_,_=>Le.dry
 | j + 1,j' + 1,n,hj=>Le.oneOf (fun op=>Le.bind h fun m=>Le.loopB h _ (Nat.le_of_succ_le_succ hj)) (Le.refl _)
theorem Le.binL {U U' : Pp Tree} (hU : Le U U') : ∀ l,Le (binL N U l) (binL N' U' l)
 | []=>hU
 | ops :: rest=>Le.bind (Le.binL hU rest) fun n=>Le.loopB (Le.binL hU rest) n hN
end
structure GLe (g g' : Gr) : Prop where
 typ : Le g.typ g'.typ
 block : Le g.block g'.block
 stmt : Le g.stmt g'.stmt
 branch : Le g.branch g'.branch
 expr : ∀ b,Le (g.expr b) (g'.expr b)
 unary : ∀ b,Le (g.unary b) (g'.unary b)
theorem gle {N N' : Nat} (hN : N ≤ N') : ∀ {n n' : Nat},n ≤ n' → GLe (gr N n) (gr N' n')
 | 0,_,_=>⟨Le.dry,Le.dry,Le.dry,Le.dry,fun _=>Le.dry,fun _=>Le.dry⟩
 | n + 1,n' + 1,hn=>by
  have IH:=gle hN (Nat.le_of_succ_le_succ hn)
  refine ⟨Le.typP hN IH.typ,Le.blockP hN IH.stmt, ?_,Le.branchP (IH.expr _) IH.block IH.branch,fun b=>Le.binL hN (IH.unary b) _,fun b => ?_⟩
  ·exact Le.peek IH.block (Le.peek IH.branch (Le.tok (Le.forP (IH.expr _) IH.block) (Le.bret (Le.simpleP hN IH.typ (IH.expr _)))))
  ·exact Le.oneOf (fun op=>Le.bret (IH.unary b)) (Le.bind (Le.primP hN IH.typ IH.block (IH.expr _)) fun t=>Le.postP hN (IH.expr _) t hN)
theorem Le.declG {N N' n n' : Nat} (hN : N ≤ N') (hn : n ≤ n') : Le (declG N n) (declG N' n'):=Le.declP hN (gle hN hn).typ (gle hN hn).block
theorem Le.progL {decl decl' : Pp Tree} (h : Le decl decl') : ∀ {j j' : Nat},j ≤ j' → Le (progL decl j) (progL decl' j')
 | 0,_,_=>Le.dry
 | j + 1,j' + 1,hj=>fun f k hx=>by
  have hr : Le (Ps.bind decl fun a=>Ps.bind (Ps.progL decl j) fun l=>Ps.ret (a :: l)) (Ps.bind decl' fun a=>Ps.bind (Ps.progL decl' j') fun l=>Ps.ret (a :: l)):=Le.bind h fun a=>Le.bret (Le.progL h (Nat.le_of_succ_le_succ hj))
  unfold Ps.progL at hx ⊢
  cases hb : (f k).isNone with
  | true=>simp only [cond_true]
  | false=>simp only [hb,cond_false] at hx ⊢;exact hr f k hx
theorem Le.program {M M' : Nat} (hM : M ≤ M') : Le (program M) (program M'):=Le.progL (Le.declG (by omega) (by omega)) (by omega)
end Go.Ps


/- PsTerm -/
set_option linter.unusedVariables false
set_option linter.unusedSimpArgs false
namespace Go.Ps
open Go.Sep (Tree Str)
variable {α β : Type}
section
variable (M : Nat) (f : F)
structure Run (st : Bool) (k0 : Nat) (p : Pp α) : Prop where
 out : ∀ k,k0 ≤ k→k ≤ M→p f k ≠ .out
 ok : ∀ k,k0 ≤ k→k ≤ M → ∀ a k',p f k = .ok a k' → k ≤ k' ∧ k' ≤ M∧(st=true→k < k')
end
section
variable {M : Nat} {f : F}
theorem Run.vac {st : Bool} {k0 : Nat} {p : Pp α} (h : M < k0) : Run M f st k0 p:=⟨fun k h1 h2=>(by omega),fun k h1 h2=>(by omega)⟩
theorem Run.up {st : Bool} {k0 k1 : Nat} {p : Pp α} (h : Run M f st k0 p) (hk : k0 ≤ k1) : Run M f st k1 p:=⟨fun k h1 h2=>h.out k (by omega) h2,fun k h1 h2=>h.ok k (by omega) h2⟩
theorem Run.lax {st : Bool} {k0 : Nat} {p : Pp α} (h : Run M f st k0 p) : Run M f false k0 p:=⟨h.out,fun k h1 h2 a k' h3=>⟨(h.ok k h1 h2 a k' h3).1,(h.ok k h1 h2 a k' h3).2.1,fun e=>(by cases e)⟩⟩
theorem Run.ret {k0 : Nat} (a : α) : Run M f false k0 (ret a):=⟨fun k _ _ h=>(by cases h),fun k h1 h2 a k' h=>(by injection h with _ h;subst h;exact ⟨Nat.le_refl _,h2,fun e=>(by cases e)⟩)⟩
theorem Run.fail {st : Bool} {k0 : Nat} : Run M f st k0 (fail : Pp α):=⟨fun k _ _ h=>(by cases h),fun k h1 h2 a k' h=>(by cases h)⟩
theorem Run.bind {s1 s2 : Bool} {k0 : Nat} {p : Pp α} {g : α → Pp β} (hp : Run M f s1 k0 p) (hg : ∀ a,Run M f s2 (bif s1 then k0 + 1 else k0) (g a)) : Run M f (s1 || s2) k0 (bind p g):=by
 have hb : ∀ k,k0 ≤ k→k ≤ M → ∀ a k1,p f k = .ok a k1→(bif s1 then k0 + 1 else k0) ≤ k1:=fun k h1 h2 a k1 hx=>by
  have:=hp.ok k h1 h2 a k1 hx
  cases s1 with
  | true=>have:=this.2.2 rfl;show k0 + 1 ≤ k1;omega
  | false=>show k0 ≤ k1;omega
 refine ⟨fun k h1 h2 h => ?_,fun k h1 h2 b k' h => ?_⟩
 ·unfold Ps.bind at h
  cases hx : p f k with
  | ok a k1 =>
   simp only [hx] at h
   exact (hg a).out k1 (hb k h1 h2 a k1 hx) (hp.ok k h1 h2 a k1 hx).2.1 h
  | bad k1=>simp only [hx] at h;cases h
  | out=>exact hp.out k h1 h2 hx
 ·unfold Ps.bind at h
  cases hx : p f k with
  | ok a k1 =>
   simp only [hx] at h
   have q1:=hp.ok k h1 h2 a k1 hx
   have q2:=(hg a).ok k1 (hb k h1 h2 a k1 hx) q1.2.1 b k' h
   refine ⟨by omega,q2.2.1,fun e => ?_⟩
   cases s1 with
   | true=>have:=q1.2.2 rfl;omega
   | false=>have:=q2.2.2 e;omega
  | bad k1=>simp only [hx] at h;cases h
  | out=>simp only [hx] at h;cases h
theorem Run.step {st : Bool} {k0 : Nat} {A : Pp α} {k : Nat} (h : Run M f st (k0 + 1) A) (h1 : k0 ≤ k) (hlt : k < M) : A f (k + 1) ≠ .out ∧ ∀ a k',A f (k + 1) = .ok a k' → k < k' ∧ k' ≤ M :=
 ⟨h.out _ (by omega) (by omega),fun a k' hx=>(by have:=h.ok _ (by omega) (by omega) a k' hx;omega)⟩
theorem isM_some {s : Str} {k : Nat} (h : isM s f k=true) : f k ≠ none:=fun e=>by unfold isM at h;rw [e] at h;cases h
variable (hf : ∀ i,M ≤ i→f i=none)
include hf
theorem at_lt {k : Nat} (h : f k ≠ none) : k < M:=by
 rcases Nat.lt_or_ge k M with h1 | h1
 ·exact h1
 ·exact absurd (hf k h1) h
theorem Run.tok {s1 st : Bool} {k0 : Nat} {s : Str} {A B : Pp α} (hA : Run M f s1 (k0 + 1) A) (hB : Run M f st k0 B) : Run M f st k0 (tok s A B):=by
 refine ⟨fun k h1 h2 h => ?_,fun k h1 h2 a k' h => ?_⟩
 ·unfold Ps.tok at h
  cases hb : isM s f k with
  | true=>simp only [hb,cond_true] at h;exact (hA.step h1 (at_lt hf (isM_some hb))).1 h
  | false=>simp only [hb,cond_false] at h;exact hB.out k h1 h2 h
 ·unfold Ps.tok at h
  cases hb : isM s f k with
  | true =>
   simp only [hb,cond_true] at h
   have:=(hA.step h1 (at_lt hf (isM_some hb))).2 a k' h
   exact ⟨by omega,this.2,fun _=>this.1⟩
  | false=>simp only [hb,cond_false] at h;exact hB.ok k h1 h2 a k' h
theorem Run.need {s1 st : Bool} {k0 : Nat} {s : Str} {A : Pp α} (hA : Run M f s1 (k0 + 1) A) : Run M f st k0 (need s A):=Run.tok hf hA Run.fail
theorem Run.tkn {s1 st : Bool} {k0 : Nat} {c : Int} {A : Tk→Pp α} {B : Pp α} (hA : ∀ t,Run M f s1 (k0 + 1) (A t)) (hB : Run M f st k0 B) : Run M f st k0 (tkn c A B):=by
 refine ⟨fun k h1 h2 h => ?_,fun k h1 h2 a k' h => ?_⟩
 ·unfold Ps.tkn at h
  cases hx : f k with
  | none=>simp only [hx] at h;exact hB.out k h1 h2 h
  | some t =>
   cases hb : decide (t.kind=c) with
   | true=>simp only [hx,hb,cond_true] at h;exact ((hA t).step h1 (at_lt hf (by rw [hx];exact fun e=>(by cases e)))).1 h
   | false=>simp only [hx,hb,cond_false] at h;exact hB.out k h1 h2 h
 ·unfold Ps.tkn at h
  cases hx : f k with
  | none=>simp only [hx] at h;exact hB.ok k h1 h2 a k' h
  | some t =>
   cases hb : decide (t.kind=c) with
   | true =>
    simp only [hx,hb,cond_true] at h
    have:=((hA t).step h1 (at_lt hf (by rw [hx];exact fun e=>(by cases e)))).2 a k' h
    exact ⟨by omega,this.2,fun _=>this.1⟩
   | false=>simp only [hx,hb,cond_false] at h;exact hB.ok k h1 h2 a k' h
theorem Run.name {s1 st : Bool} {k0 : Nat} {A : Str→Pp α} (hA : ∀ t,Run M f s1 (k0 + 1) (A t)) : Run M f st k0 (name A):=Run.tkn hf (fun t=>hA t.text) Run.fail
theorem Run.oneOf {s1 st : Bool} {k0 : Nat} {ops : List Str} {A : Str→Pp α} {B : Pp α} (hA : ∀ t,Run M f s1 (k0 + 1) (A t)) (hB : Run M f st k0 B) : Run M f st k0 (oneOf ops A B):=by
 refine ⟨fun k h1 h2 h => ?_,fun k h1 h2 a k' h => ?_⟩
 ·unfold Ps.oneOf at h
  cases hx : ops.find? (fun s=>isM s f k) with
  | none=>simp only [hx] at h;exact hB.out k h1 h2 h
  | some t=>simp only [hx] at h;exact ((hA t).step h1 (at_lt hf (isM_some (List.find?_some (p:=fun s=>isM s f k) hx)))).1 h
 ·unfold Ps.oneOf at h
  cases hx : ops.find? (fun s=>isM s f k) with
  | none=>simp only [hx] at h;exact hB.ok k h1 h2 a k' h
  | some t =>
   simp only [hx] at h
   have:=((hA t).step h1 (at_lt hf (isM_some (List.find?_some (p:=fun s=>isM s f k) hx)))).2 a k' h
   exact ⟨by omega,this.2,fun _=>this.1⟩
omit hf
theorem Run.peek {st : Bool} {k0 : Nat} {q : F→Nat→Bool} {A B : Pp α} (hA : Run M f st k0 A) (hB : Run M f st k0 B) : Run M f st k0 (peek q A B):=by
 refine ⟨fun k h1 h2 h => ?_,fun k h1 h2 a k' h => ?_⟩
 ·unfold Ps.peek at h
  cases hb : q f k with
  | true=>simp only [hb,cond_true] at h;exact hA.out k h1 h2 h
  | false=>simp only [hb,cond_false] at h;exact hB.out k h1 h2 h
 ·unfold Ps.peek at h
  cases hb : q f k with
  | true=>simp only [hb,cond_true] at h;exact hA.ok k h1 h2 a k' h
  | false=>simp only [hb,cond_false] at h;exact hB.ok k h1 h2 a k' h
include hf
theorem Run.commas {X : Pp α} : ∀ (j k0 : Nat),M + 1 ≤ j + k0→Run M f true k0 X→Run M f true k0 (commas j X)
 | 0,k0,h,hX=>Run.vac (by omega)
 | j + 1,k0,h,hX=>by
  refine Run.bind (s2:=false) hX fun a=>Run.tok hf (s1:=true) ?_ (Run.ret _)
  exact Run.bind (s2:=false) (Run.commas j _ (by show M + 1 ≤ j + (k0 + 1 + 1);omega) (hX.up (by show k0 ≤ k0 + 1 + 1;omega))) fun l=>Run.ret _
theorem Run.upto {X : Pp α} {s : Str} : ∀ (j k0 : Nat),M + 1 ≤ j + k0→Run M f true k0 X→Run M f true k0 (upto j s X)
 | 0,k0,h,hX=>Run.vac (by omega)
 | j + 1,k0,h,hX=>by
  refine Run.tok hf (Run.ret _) (Run.bind (s2:=false) hX fun a => ?_)
  exact (Run.bind (s2:=false) (Run.upto j _ (by show M + 1 ≤ j + (k0 + 1);omega) (hX.up (by show k0 ≤ k0 + 1;omega))) fun l=>Run.ret _).lax
theorem Run.loopB {X : Pp Tree} {ops : List Str} : ∀ (j k0 : Nat) (n : Tree),M + 1 ≤ j + k0→Run M f true k0 X→Run M f false k0 (loopB j ops X n)
 | 0,k0,n,h,hX=>Run.vac (by omega)
 | j + 1,k0,n,h,hX=>by
  refine Run.oneOf hf (s1:=true) (fun op => ?_) (Run.ret _)
  exact Run.bind (s2:=false) (hX.up (by omega)) fun m=>Run.loopB j _ _ (by show M + 1 ≤ j + (k0 + 1 + 1);omega) (hX.up (by show k0 ≤ k0 + 1 + 1;omega))
theorem Run.binL {N : Nat} {U : Pp Tree} {k0 : Nat} (hN : M + 1 ≤ N) (hU : Run M f true k0 U) : ∀ l,Run M f true k0 (binL N U l)
 | []=>hU
 | ops :: rest=>Run.bind (s2:=false) (Run.binL hN hU rest) fun n=>Run.loopB hf N _ n (by show M + 1 ≤ N + (k0 + 1);omega) ((Run.binL hN hU rest).up (by show k0 ≤ k0 + 1;omega))
theorem Run.inP {N : Nat} {s : Str} {X : Pp α} {k0 : Nat} (hN : M + 1 ≤ N) (hX : Run M f true k0 X) : Run M f true k0 (inP N s X):=by
 refine Run.tok hf (Run.ret _) (Run.bind (s2:=true) (Run.commas hf N k0 (by omega) hX) fun l=>Run.need hf (Run.ret _))
theorem Run.results {N : Nat} {typ : Pp Tree} {k0 : Nat} (hN : M + 1 ≤ N) (h : Run M f true k0 typ) : Run M f false k0 (resultsP N typ):=by
 refine Run.tok hf (s1:=true) (Run.bind (s2:=true) (Run.commas hf N _ (by omega) (h.up (by omega))) fun l=>Run.need hf (Run.ret _)) (Run.peek (Run.bind (s2:=false) h fun t=>Run.ret _).lax (Run.ret _))
theorem Run.sigLike {N : Nat} {kind : Int} {X typ : Pp Tree} {k0 : Nat} (hN : M + 1 ≤ N) (hX : Run M f true (k0 + 1) X) (h : Run M f true (k0 + 1) typ) : Run M f true k0 (sigLike N kind X typ) :=
 Run.need hf (s1:=true) (Run.bind (s2:=false) (Run.inP hf hN hX) fun ps=>Run.bind (s2:=false) (Run.results hf hN (h.up (by show k0 + 1 ≤ k0 + 1 + 1;omega))) fun rs=>Run.ret _)
theorem Run.param {typ : Pp Tree} {k0 : Nat} (h : Run M f true (k0 + 1) typ) : Run M f true k0 (paramP typ):=Run.name hf (s1:=true) fun s=>Run.bind (s2:=false) h fun t=>Run.ret _
theorem Run.sig {N : Nat} {typ : Pp Tree} {k0 : Nat} (hN : M + 1 ≤ N) (h : Run M f true (k0 + 1) typ) : Run M f true k0 (sigP N typ):=Run.sigLike hf hN (Run.param hf (h.up (by omega))) h
structure GRun (g : Gr) (n k0 : Nat) : Prop where
 typ : 3 * M + 1 ≤ n + 3 * k0→Run M f true k0 g.typ
 block : 3 * M + 1 ≤ n + 3 * k0→Run M f true k0 g.block
 branch : 3 * M + 1 ≤ n + 3 * k0→Run M f true k0 g.branch
 unary : ∀ b,3 * M + 1 ≤ n + 3 * k0→Run M f true k0 (g.unary b)
 expr : ∀ b,3 * M + 2 ≤ n + 3 * k0→Run M f true k0 (g.expr b)
 stmt : 3 * M + 3 ≤ n + 3 * k0→Run M f true k0 g.stmt
omit hf
theorem Run.bret {s1 : Bool} {k0 : Nat} {p : Pp α} (g : α → β) (hp : Run M f s1 k0 p) : Run M f s1 k0 (Ps.bind p fun a=>Ps.ret (g a)):=by
 have:=Run.bind (s2:=false) hp fun a=>Run.ret (g a)
 rwa [Bool.or_false] at this
theorem Run.bind1 {k0 : Nat} {p : Pp α} {g : α → Pp β} (hp : Run M f true k0 p) (hg : ∀ a,Run M f false (k0 + 1) (g a)) : Run M f true k0 (Ps.bind p g):=Run.bind hp hg
include hf
theorem Run.tokIf {s1 st c : Bool} {k0 : Nat} {s : Str} {A B : Pp α} (hA : Run M f s1 (k0 + 1) A) (hB : Run M f st k0 B) : Run M f st k0 (tokIf c s A B):=by
 cases c with
 | true=>exact Run.tok hf hA hB
 | false=>exact hB
section
variable {N : Nat} (hN : M + 1 ≤ N)
include hN
theorem Run.typP {typ : Pp Tree} {k0 : Nat} (h : Run M f true (k0 + 1) typ) : Run M f true k0 (typP N typ) :=
 Run.tok hf (Run.bret _ h) (Run.tok hf (s1:=true) (Run.need hf (Run.bret _ (h.up (by omega)))) (Run.tok hf (Run.sigLike hf hN (h.up (by omega)) (h.up (by omega))) (Run.name hf fun s=>Run.ret _)))
omit hN in
theorem Run.fieldP {mb : Pp Tree} {k0 : Nat} (h : Run M f true (k0 + 1) mb) : Run M f true k0 (fieldP mb) :=
 Run.name hf (s1:=true) fun s=>Run.bind1 h fun t=>Run.need hf (s1:=false) (Run.ret _)
theorem Run.bodyP {kind : Int} {nm : Str} {mb : Pp Tree} {k0 : Nat} (h : Run M f true (k0 + 1) mb) : Run M f true k0 (bodyP N kind nm mb) :=
 Run.need hf (s1:=true) (Run.bret _ (Run.upto hf N _ (by omega) (Run.fieldP hf (h.up (by omega)))))
theorem Run.typeDeclP {typ : Pp Tree} {k0 : Nat} (h : Run M f true (k0 + 1) typ) : Run M f true k0 (typeDeclP N typ) :=
 Run.name hf (s1:=true) fun nm=>Run.tok hf (Run.bodyP hf hN (Run.sig hf hN (h.up (by omega)))) (Run.need hf (Run.bodyP hf hN (h.up (by omega))))
theorem Run.declP {typ block : Pp Tree} {k0 : Nat} (h : Run M f true (k0 + 1) typ) (hb : Run M f true (k0 + 1) block) : Run M f true k0 (declP N typ block):=by
 refine Run.tok hf (Run.typeDeclP hf hN (h.up (by omega))) (Run.need hf (s1:=true) (Run.tok hf (s1:=true) ?_ ?_))
 ·refine Run.name hf (s1:=true) fun recv=>Run.need hf (s1:=true) (Run.name hf (s1:=true) fun of=>Run.need hf (s1:=true) (Run.name hf (s1:=true) fun nm => ?_))
  exact Run.bind1 (Run.sig hf hN (h.up (by omega))) fun s=>(Run.bret _ (hb.up (by omega))).lax
 ·refine Run.name hf (s1:=true) fun nm => ?_
  exact Run.bind1 (Run.sig hf hN (h.up (by omega))) fun s=>(Run.bret _ (hb.up (by omega))).lax
theorem Run.blockP {stmt : Pp Tree} {k0 : Nat} (h : Run M f true (k0 + 1) stmt) : Run M f true k0 (blockP N stmt) :=
 Run.need hf (s1:=true) (Run.bret _ (Run.upto hf N _ (by omega) h))
omit hN in
theorem Run.branchP {expr block branch : Pp Tree} {k0 : Nat} (he : Run M f true (k0 + 1) expr) (hb : Run M f true (k0 + 1) block) (hr : Run M f true (k0 + 1) branch) : Run M f true k0 (branchP expr block branch):=by
 refine Run.need hf (s1:=true) (Run.bind1 he fun c=>Run.lax (Run.bind1 (hb.up (by omega)) fun b=>Run.tok hf (s1:=true) (Run.peek ?_ ?_) (Run.ret _)))
 ·exact Run.bret _ (hr.up (by omega))
 ·exact Run.bret _ (hb.up (by omega))
omit hf hN in
theorem Run.forP {expr block : Pp Tree} {k0 : Nat} (he : Run M f true k0 expr) (hb : Run M f true k0 block) : Run M f true k0 (forP expr block) :=
 Run.peek (Run.bret _ hb) (Run.bind1 he fun c=>(Run.bret _ (hb.up (by omega))).lax)
theorem Run.assignP {expr : Pp Tree} {left : List Tree} {k0 : Nat} (he : Run M f true (k0 + 1) expr) : Run M f false k0 (assignP N expr left):=by
 refine Run.tokIf hf (Run.bret _ (Run.commas hf N _ (by omega) he)) (Run.tokIf hf (Run.bret _ (Run.commas hf N _ (by omega) he)) ?_)
 cases isC1 left with
 | true=>exact Run.peek (Run.ret _) Run.fail
 | false=>exact Run.fail
theorem Run.simpleP {typ expr : Pp Tree} {k0 : Nat} (h : Run M f true (k0 + 1) typ) (he : Run M f true k0 expr) : Run M f true k0 (simpleP N typ expr):=by
 refine Run.tok hf (s1:=true) (Run.name hf (s1:=true) fun s=>Run.bind1 (h.up (by omega)) fun t=>Run.tok hf (Run.bret _ (he.up (by omega))) (Run.ret _)) ?_
 refine Run.tok hf (s1:=false) (Run.peek (Run.ret _) (Run.bret _ (Run.commas hf N _ (by omega) (he.up (by omega)))).lax) ?_
 refine Run.tok hf (Run.ret _) (Run.tok hf (Run.ret _) ?_)
 exact Run.bind1 (Run.commas hf N _ (by omega) he) fun l=>Run.assignP hf hN (he.up (by omega))
theorem Run.exprsP {s : Str} {expr : Pp Tree} {k0 : Nat} (he : Run M f true k0 expr) : Run M f true k0 (exprsP N s expr):=Run.inP hf hN he
omit hN
theorem Run.cutP {expr : Pp Tree} {num : Int} {ks : List Tree} {k0 : Nat} (he : Run M f true (k0 + 1) expr) : Run M f true k0 (cutP expr num ks) :=
 Run.need hf (s1:=true) (Run.tok hf (Run.ret _) (Run.bind1 he fun e=>Run.need hf (Run.ret _)))
theorem Run.indexP {expr : Pp Tree} {n : Tree} {k0 : Nat} (he : Run M f true k0 expr) : Run M f true k0 (indexP expr n) :=
 Run.peek (Run.cutP hf (he.up (by omega))) (Run.bind1 he fun e=>Run.tok hf (Run.ret _) (Run.cutP hf (he.up (by omega))).lax)
include hN
theorem Run.postP {expr : Pp Tree} : ∀ (j k0 : Nat) (n : Tree),M + 1 ≤ j + k0→Run M f true (k0 + 1) expr→Run M f false k0 (postP N expr j n)
 | 0,k0,n,h,he=>Run.vac (by omega)
 | j + 1,k0,n,h,he=>by
  refine Run.tok hf (s1:=true) (Run.name hf fun s=>Run.postP j _ _ (by omega) (he.up (by omega))) ?_
  refine Run.tok hf (s1:=true) (Run.bind1 (Run.indexP hf he) fun t=>Run.postP j _ _ (by omega) (he.up (by omega))) ?_
  exact Run.tok hf (s1:=true) (Run.bind1 (Run.exprsP hf hN he) fun l=>Run.postP j _ _ (by omega) (he.up (by omega))) (Run.ret _)
theorem Run.primP {typ block expr : Pp Tree} {h : Bool} {k0 : Nat} (ht : Run M f true (k0 + 1) typ) (hb : Run M f true (k0 + 1) block) (he : Run M f true (k0 + 1) expr) : Run M f true k0 (primP N typ block expr h):=by
 refine Run.tkn hf (fun t=>Run.ret _) (Run.tkn hf (fun t=>Run.ret _) (Run.tok hf (Run.ret _) (Run.tok hf (Run.ret _) (Run.tok hf (Run.ret _) ?_))))
 refine Run.tok hf (Run.bind1 he fun t=>Run.need hf (Run.ret _)) ?_
 refine Run.tok hf (s1:=true) (Run.need hf (s1:=true) (Run.bind1 (ht.up (by omega)) fun t=>Run.need hf (s1:=true) (Run.bret _ (Run.exprsP hf hN (he.up (by omega)))))) ?_
 refine Run.tok hf (s1:=true) (Run.bind1 (Run.sig hf hN (ht.up (by omega))) fun s=>(Run.bret _ (hb.up (by omega))).lax) ?_
 refine Run.name hf (s1:=false) fun s => ?_
 cases h with
 | true=>exact Run.ret _
 | false=>exact Run.tok hf (Run.bret _ (Run.exprsP hf hN (he.up (by omega)))) (Run.ret _)
theorem GRun.all : ∀ (n k0 : Nat),GRun (M:=M) (f:=f) (gr N n) n k0
 | 0,k0=>⟨fun h=>Run.vac (by omega),fun h=>Run.vac (by omega),fun h=>Run.vac (by omega),fun b h=>Run.vac (by omega),fun b h=>Run.vac (by omega),fun h=>Run.vac (by omega)⟩
 | n + 1,k0=>by
  have IH:=GRun.all n
  refine ⟨fun h => ?_,fun h => ?_,fun h => ?_,fun b h => ?_,fun b h => ?_,fun h => ?_⟩
  ·exact Run.typP hf hN ((IH (k0 + 1)).typ (by omega))
  ·exact Run.blockP hf hN ((IH (k0 + 1)).stmt (by omega))
  ·exact Run.branchP hf ((IH (k0 + 1)).expr _ (by omega)) ((IH (k0 + 1)).block (by omega)) ((IH (k0 + 1)).branch (by omega))
  ·refine Run.oneOf hf (fun op=>Run.bret _ ((IH (k0 + 1)).unary b (by omega))) ?_
   exact Run.bind1 (Run.primP hf hN ((IH (k0 + 1)).typ (by omega)) ((IH (k0 + 1)).block (by omega)) ((IH (k0 + 1)).expr _ (by omega))) fun t=>Run.postP hf hN N _ _ (by omega) ((IH (k0 + 1 + 1)).expr _ (by omega))
  ·exact Run.binL hf hN ((IH k0).unary b (by omega)) _
  ·refine Run.peek ((IH k0).block (by omega)) (Run.peek ((IH k0).branch (by omega)) (Run.tok hf (Run.forP ((IH (k0 + 1)).expr _ (by omega)) ((IH (k0 + 1)).block (by omega))) ?_))
   exact Run.bind1 (Run.simpleP hf hN ((IH (k0 + 1)).typ (by omega)) ((IH k0).expr _ (by omega))) fun s=>Run.need hf (Run.ret _)
theorem Run.declG {n k0 : Nat} (h : 3 * M + 1 ≤ n + 3 * (k0 + 1)) : Run M f true k0 (declG N n) :=
 Run.declP hf hN ((GRun.all hf hN n (k0 + 1)).typ h) ((GRun.all hf hN n (k0 + 1)).block h)
end
omit hf in
theorem Run.progL {decl : Pp Tree} : ∀ (j k0 : Nat),M + 1 ≤ j + k0→Run M f true k0 decl→Run M f false k0 (progL decl j)
 | 0,k0,h,hd=>Run.vac (by omega)
 | j + 1,k0,h,hd=>by
  have hr : Run M f false k0 (Ps.bind decl fun a=>Ps.bind (Ps.progL decl j) fun l=>Ps.ret (a :: l)):=(Run.bind1 hd fun a=>Run.bret _ (Run.progL j (k0 + 1) (by omega) (hd.up (by omega)))).lax
  refine ⟨fun k h1 h2 h => ?_,fun k h1 h2 a k' h => ?_⟩
  ·unfold Ps.progL at h
   cases hb : (f k).isNone with
   | true=>simp only [hb,cond_true] at h;cases h
   | false=>simp only [hb,cond_false] at h;exact hr.out k h1 h2 h
  ·unfold Ps.progL at h
   cases hb : (f k).isNone with
   | true=>simp only [hb,cond_true] at h;injection h with _ h;subst h;exact ⟨Nat.le_refl _,h2,fun e=>(by cases e)⟩
   | false=>simp only [hb,cond_false] at h;exact hr.ok k h1 h2 a k' h
theorem Run.program : Run M f false 0 (program M):=Run.progL (M + 1) 0 (by omega) (Run.declG hf (Nat.le_refl _) (by omega))
end
end Go.Ps


/- PtRP -/
set_option linter.unusedVariables false
set_option linter.unusedSimpArgs false
namespace Go.Pt
open Go.Sep Go.Ps
section
variable {N : Nat}
theorem field_f {p : Tree→Bool} {a : Tree} (h : fieldS p a=true) : ∃ s t,a = .mk 6 s 0 [t]∧p t=true:=by
 unfold fieldS at h
 rw [Bool.and_eq_true] at h
 obtain ⟨h1,h2,h3⟩:=of_f h.1
 obtain ⟨t,h4,h5⟩:=kids1 h.2
 obtain ⟨k,n,u,ks⟩:=a
 obtain rfl : k=6:=h1
 obtain rfl : u=0:=h2
 obtain rfl : ks=[t]:=h4
 exact ⟨n,t,rfl,h5⟩
theorem semis_eq (l : List Tree) : semis (l.map toks)=(l.map fun x=>toks x++[mk [59]]).flatten:=by
 unfold semis
 rw [List.map_map];rfl
theorem body_rd {kind : Int} {n0 : Str} {p : Tree→Bool} {member : Pp Tree} {l : List Tree} (hl : l.length < N) (h : ∀ x ∈ l,fieldS p x=true) (hm : ∀ x ∈ l, ∀ t ∈ x.kids,p t=true→Rd member (toks t) t fT) :
  Rd (bodyP N kind n0 member) (mk [123] :: (semis (l.map toks)++[mk [125]])) (.mk kind n0 0 l) yes:=by
 rw [semis_eq]
 refine Rd.need rfl (Rd.bret (g:=fun l=>Tree.mk kind n0 0 l) (Rd.upto (S':=yes) rfl N l hl fun x hx => ?_))
 obtain ⟨s,t,e,ht⟩:=field_f (h x hx)
 have hmt:=hm x hx t (by rw [e];simp [Tree.kids]) ht
 have et : toks x++[mk [59]]=nm s :: (toks t++[mk [59]]):=by rw [e,toks_eq];rfl
 rw [et]
 refine ⟨?_,fun o=>⟨rfl,rfl⟩⟩
 rw [e]
 exact Rd.name (Rd.bind hmt (Rd.need rfl Rd.ret) fun o _=>rfl)
theorem decl_rd {a : Tree} (hd' : declS lim a=true) (hN : a.size ≤ N) {n : Nat} (hn : 4 * a.deep ≤ n) : Rd (declG N n) (toks a) a yes ∧ ∃ t l,toks a=t :: l:=by
 have hlen:=len_size a
 have K : ∀ x ∈ a.kids,x.size ≤ N∧x.deep < a.deep∧RT N x:=fun x hx=>⟨by have:=kid_size hx;omega,deep_of_kid hx,rt_all x (by have:=kid_size hx;omega)⟩
 obtain ⟨k,n0,u,ks⟩:=a
 simp only [Tree.kids] at K hlen
 unfold declG declP
 by_cases e : k=2
 ·subst e
  have hf : (ofB (.mk 2 n0 u ks) 2 && ks.all (fieldS Tree.isType))=true:=hd'
  rw [Bool.and_eq_true] at hf
  obtain rfl : u=0:=(of_f hf.1).2.1
  have et : toks (.mk 2 n0 0 ks)=wd [116,121,112,101] :: nm n0 :: wd [115,116,114,117,99,116] :: mk [123] :: (semis (ks.map toks)++[mk [125]]):=by rw [toks_eq];rfl
  rw [et]
  refine ⟨Rd.tokT rfl (Rd.name (Rd.tokF (fun o _=>rfl) (Rd.need rfl (body_rd (by omega) (fun x hx=>List.all_eq_true.1 hf.2 x hx) fun x hx t ht hp => ?_)))),_,_,rfl⟩
  have h1:=K x hx
  exact typ_rd hp (by have:=kid_size ht;omega) (by have:=deep_of_kid ht;omega)
 by_cases e : k=3
 ·subst e
  have hf : (ofB (.mk 3 n0 u ks) 3 && ks.all (fieldS Tree.isSig))=true:=hd'
  rw [Bool.and_eq_true] at hf
  obtain rfl : u=0:=(of_f hf.1).2.1
  have et : toks (.mk 3 n0 0 ks)=wd [116,121,112,101] :: nm n0 :: wd [105,110,116,101,114,102,97,99,101] :: mk [123] :: (semis (ks.map toks)++[mk [125]]):=by rw [toks_eq];rfl
  rw [et]
  refine ⟨Rd.tokT rfl (Rd.name (Rd.tokT rfl (body_rd (by omega) (fun x hx=>List.all_eq_true.1 hf.2 x hx) fun x hx t ht hp => ?_))),_,_,rfl⟩
  have h1:=K x hx
  exact sig_rd hp (by have:=kid_size ht;omega) (by have:=deep_of_kid ht;omega)
 by_cases e : k=4
 ·subst e
  have hf : (ofB (.mk 4 n0 u ks) 4 && kidsR [Tree.isSig,lim.block] none ks)=true:=hd'
  rw [Bool.and_eq_true] at hf
  obtain rfl : u=0:=(of_f hf.1).2.1
  obtain ⟨s,b,rfl,hs,hb⟩:=kids2 hf.2
  have et : toks (.mk 4 n0 0 [s,b])=wd [102,117,110,99] :: nm n0 :: (toks s++toks b):=by rw [toks_eq];rfl
  rw [et]
  have k1:=K s (by simp)
  have k2:=K b (by simp)
  refine ⟨Rd.tokF (fun o _=>rfl) (Rd.need rfl (Rd.tokF (fun o _=>rfl) (Rd.name (Rd.bind (sig_rd hs k1.1 (by omega)) (Rd.bret (g:=fun b=>Tree.mk 4 n0 0 [s,b]) (k2.2.2.block hb n (by omega))) fun o _=>by rw [block_hd hb];decide)))),_,_,rfl⟩
 by_cases e : k=5
 ·subst e
  have hf : (ofB (.mk 5 n0 u ks) 5 && kidsR [recvS,Tree.isSig,lim.block] none ks)=true:=hd'
  rw [Bool.and_eq_true] at hf
  obtain rfl : u=0:=(of_f hf.1).2.1
  obtain ⟨r,s,b,rfl,hr,hs,hb⟩:=kids3 hf.2
  have hrf : ∃ rn ty,r=recvT rn ty:=by
   unfold recvS at hr
   simp only [Bool.and_eq_true,decide_eq_true_eq] at hr
   obtain ⟨hp,h11,h10⟩:=hr
   unfold Tree.isParam at hp
   simp only [Bool.and_eq_true,decide_eq_true_eq] at hp
   obtain ⟨p1,p2,p3,p4,p5⟩:=hp
   obtain ⟨rk,rn,ru,rks⟩:=r
   obtain rfl : rk=8:=p1
   obtain rfl : ru=0:=p2
   obtain ⟨x,rfl⟩:=List.length_eq_one_iff.1 p4
   have hx : x.isType=true:=List.all_eq_true.1 p5 x (by simp [Tree.kids])
   have hx11 : x.kind=11:=h11
   rw [isType_eq,if_neg (by omega),if_pos (.inl hx11)] at hx
   simp only [Bool.and_eq_true,decide_eq_true_eq] at hx
   obtain ⟨xk,xn,xu,xks⟩:=x
   obtain rfl : xk=11:=hx11
   obtain rfl : xn=[]:=hx.1
   obtain rfl : xu=0:=hx.2.1
   obtain ⟨y,rfl⟩:=List.length_eq_one_iff.1 hx.2.2.1
   have hy : y.isType=true:=List.all_eq_true.1 hx.2.2.2 y (by simp [Tree.kids])
   have hy10 : y.kind=10:=h10
   rw [isType_eq,if_pos hy10] at hy
   simp only [Bool.and_eq_true,decide_eq_true_eq] at hy
   obtain ⟨yk,yn,yu,yks⟩:=y
   obtain rfl : yk=10:=hy10
   obtain rfl : yu=0:=hy.1
   obtain rfl : yks=[]:=List.length_eq_zero_iff.1 hy.2.2
   exact ⟨rn,yn,rfl⟩
  obtain ⟨rn,ty,rfl⟩:=hrf
  have et : toks (.mk 5 n0 0 [recvT rn ty,s,b])=wd [102,117,110,99] :: mk [40] :: nm rn :: mk [42] :: nm ty :: mk [41] :: nm n0 :: (toks s++toks b):=by rw [toks_eq];rfl
  rw [et]
  have k1:=K s (by simp)
  have k2:=K b (by simp)
  refine ⟨Rd.tokF (fun o _=>rfl) (Rd.need rfl (Rd.tokT rfl (Rd.name (Rd.need rfl (Rd.name (Rd.need rfl (Rd.name (Rd.bind (sig_rd hs k1.1 (by omega)) (Rd.bret (g:=fun b=>Tree.mk 5 n0 0 [recvT rn ty,s,b]) (k2.2.2.block hb n (by omega))) fun o _=>by rw [block_hd hb];decide)))))))),_,_,rfl⟩
 exfalso
 unfold declS at hd'
 simp only [Tree.kind] at hd'
 simp [*] at hd'
theorem prog_rd {decl : Pp Tree} : ∀ (j : Nat) (ds : List Tree),ds.length < j→(∀ d ∈ ds,Rd decl (toks d) d yes ∧ ∃ t l,toks d=t :: l) → ∀ (f : F) (k : Nat),seg f k (ds.map toks).flatten→f (k + (ds.map toks).flatten.length)=none →
  progL decl j f k = .ok ds (k + (ds.map toks).flatten.length)
 | 0,ds,h,_,f,k,_,_=>by omega
 | j + 1,[],_,_,f,k,_,hn=>by
  have hn' : f k=none:=hn
  unfold progL
  simp only [hn',Option.isNone_none,cond_true]
  rfl
 | j + 1,d :: ds,hj,hd',f,k,hseg,hn=>by
  obtain ⟨h1,t,l,ht⟩:=hd' d (by simp)
  rw [List.map_cons,List.flatten_cons] at hseg hn ⊢
  obtain ⟨s1,s2⟩:=seg_append.1 hseg
  rw [List.length_append,← Nat.add_assoc] at hn ⊢
  have hf : f k=some t:=by rw [ht] at s1;exact s1.1
  have q1:=h1 f k s1 rfl
  have q2:=prog_rd j ds (by simpa using hj) (fun x hx=>hd' x (by simp [hx])) f _ s2 hn
  unfold progL
  simp only [hf,Option.isNone_some,cond_false]
  rw [bind_ok q1,bind_ok q2]
  rfl
end
theorem seg_get (l : List Tk) : seg (fun i=>l[i]?) 0 l:=by
 have : ∀ (r l : List Tk),seg (fun i=>(r++l)[i]?) r.length l:=by
  intro r l
  induction l generalizing r with
  | nil=>trivial
  | cons t l ih =>
   refine ⟨by simp, ?_⟩
   have:=ih (r++[t])
   rw [List.length_append,List.append_assoc] at this
   exact this
 exact this [] l
theorem soundB_f {a : Tree} (h : soundB a=true) : ∃ ds,a = .mk 1 [] 0 ds∧a.size ≤ 20000∧a.deep ≤ 100 ∧ ∀ d ∈ ds,declS lim d=true:=by
 unfold soundB at h
 simp only [Bool.and_eq_true,decide_eq_true_eq] at h
 obtain ⟨⟨h1,h2⟩,h3,h4⟩:=h
 have h5:=bare_f h3
 obtain ⟨k,n,u,ks⟩:=a
 obtain rfl : k=1:=of_decide_eq_true h5.1
 obtain rfl : n=[]:=h5.2.1 rfl
 obtain rfl : u=0:=h5.2.2 rfl
 refine ⟨ks,rfl,h1,h2,fun d hd => ?_⟩
 have:=List.all_eq_true.1 h4 d hd
 rwa [declS_lim (by have:=deep_of_kid (a := .mk 1 [] 0 ks) hd;omega)] at this
theorem program_toks {ds : List Tree} (h : soundB (.mk 1 [] 0 ds)=true) : Ps.program (ds.map toks).flatten.length (fun i=>(ds.map toks).flatten[i]?) 0 = .ok ds (ds.map toks).flatten.length:=by
 obtain ⟨ds',e,h1,h2,h3⟩:=soundB_f h
 injection e with _ _ _ e
 subst e
 have hlen:=len_size (.mk 1 [] 0 ds)
 simp only [Tree.kids] at hlen
 generalize hl : (ds.map toks).flatten=l
 have q:=prog_rd (decl:=declG (max l.length 20000 + 1) (3 * max l.length 20000 + 4)) (max l.length 20000 + 1) ds (by omega) (fun d hd=>by
  have k1:=kid_size (a := .mk 1 [] 0 ds) hd
  have k2:=deep_of_kid (a := .mk 1 [] 0 ds) hd
  exact decl_rd (h3 d hd) (by omega) (by omega)) (fun i=>l[i]?) 0 (by rw [hl];exact seg_get l) (by rw [hl];simp)
 rw [hl,Nat.zero_add] at q
 have q' : Ps.program (max l.length 20000) (fun i=>l[i]?) 0 = .ok ds l.length:=q
 have hr : Run l.length (fun i=>l[i]?) false 0 (Ps.program l.length):=Run.program (fun i hi=>by simp [hi])
 rw [← Le.program (Nat.le_max_left l.length 20000) (fun i=>l[i]?) 0 (hr.out 0 (Nat.le_refl _) (Nat.zero_le _))]
 exact q'
end Go.Pt


/- ScLit0 -/
set_option linter.unusedVariables false
set_option linter.unusedSimpArgs false
namespace Go.Sep
def hexB (a b : UInt8) : Option UInt8:=(pU 16 255 [a,b] 0).map UInt8.ofNat
def escX : Str→Option (UInt8 × Nat)
 | a :: b :: _=>(hexB a b).map fun x=>(x,3)
 | _=>none
def escB : Str→Option (UInt8 × Nat)
 | []=>none
 | c :: r=>if c.toNat=110 then some (10,1) else if c.toNat=116 then some (9,1) else if c.toNat=34 ∨ c.toNat=92 then some (c,1) else if c.toNat=120 then escX r else none
def litF : Nat→Str→Option (Str × Nat)
 | 0,_=>none
 | _ + 1,[]=>none
 | f + 1,c :: r=>if c.toNat=34 then some ([],1) else if c.toNat=10 then none else if c.toNat=92 then (match escB r with
  | none=>none
  | some (b,n)=>(litF f (r.drop n)).map fun p=>(b :: p.1,p.2 + 1 + n)) else (litF f r).map fun p=>(c :: p.1,p.2 + 1)
def lit (r : Str) : Option (Str × Nat):=litF (r.length + 1) r
theorem escX_pos {r : Str} {b : UInt8} {n : Nat} (h : escX r=some (b,n)) : 1 ≤ n∧n ≤ r.length + 1:=by
 match r,h with
 | a :: b' :: r',h =>
  replace h : (hexB a b').map (fun x=>(x,3))=some (b,n):=h
  cases hx : hexB a b' with
  | none=>rw [hx] at h;cases h
  | some x=>rw [hx] at h;cases h;simp
theorem escB_pos {r : Str} {b : UInt8} {n : Nat} (h : escB r=some (b,n)) : 1 ≤ n∧n ≤ r.length:=by
 cases r with
 | nil=>cases h
 | cons c r =>
  rw [escB] at h
  by_cases h1 : c.toNat=110
  ·rw [if_pos h1] at h;cases h;simp
  ·rw [if_neg h1] at h
   by_cases h2 : c.toNat=116
   ·rw [if_pos h2] at h;cases h;simp
   ·rw [if_neg h2] at h
    by_cases h3 : c.toNat=34 ∨ c.toNat=92
    ·rw [if_pos h3] at h;cases h;simp
    ·rw [if_neg h3] at h
     by_cases h4 : c.toNat=120
     ·rw [if_pos h4] at h;exact escX_pos h
     ·rw [if_neg h4] at h;cases h
theorem litF_fuel : ∀ (f g : Nat) (r : Str),r.length < f→r.length < g→litF f r=litF g r
 | 0,_,_,h,_=>by omega
 | _,0,_,_,h=>by omega
 | f + 1,g + 1,[],_,_=>rfl
 | f + 1,g + 1,c :: r,h1,h2=>by
  simp only [List.length_cons] at h1 h2
  rw [litF,litF]
  split
  ·rfl
  ·split
   ·rfl
   ·split
    ·cases he : escB r with
     | none=>rfl
     | some p =>
      obtain ⟨b,n⟩:=p
      have hl : (r.drop n).length ≤ r.length:=by simp
      simp only
      rw [litF_fuel f g (r.drop n) (by omega) (by omega)]
    ·rw [litF_fuel f g r (by omega) (by omega)]
theorem litF_lit {f : Nat} {r : Str} (h : r.length < f) : litF f r=lit r:=litF_fuel _ _ _ h (by omega)
theorem lit_quote {c : UInt8} {r : Str} (h : c.toNat=34) : lit (c :: r)=some ([],1):=by rw [lit,litF,if_pos h]
theorem lit_nl {c : UInt8} {r : Str} (h : c.toNat=10) : lit (c :: r)=none:=by rw [lit,litF,if_neg (by omega),if_pos h]
theorem lit_esc {c : UInt8} {r : Str} (h : c.toNat=92) : lit (c :: r)=match escB r with
  | none=>none
  | some (b,n)=>(lit (r.drop n)).map fun p=>(b :: p.1,p.2 + 1 + n):=by
 rw [lit,litF,if_neg (by omega),if_neg (by omega),if_pos h]
 cases he : escB r with
 | none=>rfl
 | some p =>
  obtain ⟨b,n⟩:=p
  simp only
  rw [litF_lit (by simp;omega)]
theorem lit_esc_none {c : UInt8} {r : Str} (h : c.toNat=92) (h2 : escB r=none) : lit (c :: r)=none:=by
 rw [lit_esc h,h2]
theorem lit_esc_some {c : UInt8} {r : Str} {b : UInt8} {n : Nat} (h : c.toNat=92) (h2 : escB r=some (b,n)) : lit (c :: r)=(lit (r.drop n)).map fun p=>(b :: p.1,p.2 + 1 + n):=by
 rw [lit_esc h,h2]
theorem lit_one {c : UInt8} {r : Str} (h1 : c.toNat ≠ 34) (h2 : c.toNat ≠ 10) (h3 : c.toNat ≠ 92) : lit (c :: r)=(lit r).map fun p=>(c :: p.1,p.2 + 1):=by
 rw [lit,litF,if_neg h1,if_neg h2,if_neg h3,litF_lit (by simp)]
theorem esc_n {c : UInt8} {r : Str} (h : c.toNat=110) : escB (c :: r)=some (10,1):=by rw [escB,if_pos h]
theorem esc_t {c : UInt8} {r : Str} (h : c.toNat=116) : escB (c :: r)=some (9,1):=by rw [escB,if_neg (by omega),if_pos h]
theorem esc_self {c : UInt8} {r : Str} (h : c.toNat=34 ∨ c.toNat=92) : escB (c :: r)=some (c,1):=by rw [escB,if_neg (by omega),if_neg (by omega),if_pos h]
theorem esc_x {c a b : UInt8} {r : Str} (h : c.toNat=120) : escB (c :: a :: b :: r)=(hexB a b).map fun x=>(x,3):=by rw [escB,if_neg (by omega),if_neg (by omega),if_neg (by omega),if_pos h,escX]
theorem esc_xs {c : UInt8} {r : Str} (h : c.toNat=120) (h2 : r.length < 2) : escB (c :: r)=none:=by
 rw [escB,if_neg (by omega),if_neg (by omega),if_neg (by omega),if_pos h]
 match r,h2 with
 | [],_=>rfl
 | [_],_=>rfl
theorem esc_no {c : UInt8} {r : Str} (h1 : c.toNat ≠ 110) (h2 : c.toNat ≠ 116) (h3 : c.toNat ≠ 34) (h4 : c.toNat ≠ 92) (h5 : c.toNat ≠ 120) : escB (c :: r)=none:=by
 rw [escB,if_neg h1,if_neg h2,if_neg (by omega),if_neg h5]
def LitAt (s : Str) (j i : Nat) (acc : Str) (res : Option (Str × Nat)) : Prop:=res=(lit (s.drop i)).map fun p=>(acc++p.1,i - j + p.2)
theorem LitAt.start (s : Str) (i : Nat) : LitAt s i i [] (lit (s.drop i)):=by
 unfold LitAt
 cases lit (s.drop i) <;> simp
theorem LitAt.end_ {s : Str} {j i : Nat} {acc : Str} {res : Option (Str × Nat)} (h : LitAt s j i acc res) (hi : s.length ≤ i) : res=none:=by
 rw [h,List.drop_eq_nil_of_le hi];rfl
theorem LitAt.quote {s : Str} {j i : Nat} {acc : Str} {res : Option (Str × Nat)} (h : LitAt s j i acc res) (hi : i < s.length) (hc : s[i].toNat=34) : res=some (acc,i - j + 1):=by
 rw [h,List.drop_eq_getElem_cons hi,lit_quote hc];simp
theorem LitAt.nl {s : Str} {j i : Nat} {acc : Str} {res : Option (Str × Nat)} (h : LitAt s j i acc res) (hi : i < s.length) (hc : s[i].toNat=10) : res=none:=by
 rw [h,List.drop_eq_getElem_cons hi,lit_nl hc];rfl
theorem LitAt.bad {s : Str} {j i : Nat} {acc : Str} {res : Option (Str × Nat)} (h : LitAt s j i acc res) (hi : i < s.length) (hc : s[i].toNat=92) (he : escB (s.drop (i + 1))=none) : res=none:=by
 rw [h,List.drop_eq_getElem_cons hi,lit_esc_none hc he];rfl
theorem LitAt.esc {s : Str} {j i : Nat} {acc : Str} {res : Option (Str × Nat)} {b : UInt8} {n : Nat} (h : LitAt s j i acc res) (hj : j ≤ i) (hi : i < s.length) (hc : s[i].toNat=92) (he : escB (s.drop (i + 1))=some (b,n)) : LitAt s j (i + 1 + n) (acc++[b]) res:=by
 unfold LitAt at h ⊢
 rw [h,List.drop_eq_getElem_cons hi,lit_esc_some hc he,List.drop_drop,Option.map_map]
 congr 1
 funext p
 simp only [Function.comp,List.append_assoc,List.singleton_append,Prod.mk.injEq,true_and]
 omega
theorem LitAt.one {s : Str} {j i : Nat} {acc : Str} {res : Option (Str × Nat)} (h : LitAt s j i acc res) (hj : j ≤ i) (hi : i < s.length) (h1 : s[i].toNat ≠ 34) (h2 : s[i].toNat ≠ 10) (h3 : s[i].toNat ≠ 92) : LitAt s j (i + 1) (acc++[s[i]]) res:=by
 unfold LitAt at h ⊢
 rw [h,List.drop_eq_getElem_cons hi,lit_one h1 h2 h3,Option.map_map]
 congr 1
 funext p
 simp only [Function.comp,List.append_assoc,List.singleton_append,Prod.mk.injEq,true_and]
 omega
theorem pU_le {base maxV : Nat} : ∀ (s : Str) (n v : Nat),n ≤ maxV→pU base maxV s n=some v→v ≤ maxV
 | [],n,v,h,e=>by cases e;exact h
 | c :: cs,n,v,h,e=>by
  rw [pU] at e
  split at e
  ·cases e
  ·split at e
   ·rename_i hc
    exact pU_le cs _ v hc.2 e
   ·cases e
end Go.Sep


/- ScLit -/
set_option linter.unusedVariables false
set_option linter.unusedSimpArgs false
namespace Go.Sep
open Go.Proofs
attribute [local irreducible] TC TO OT TCallX TCall DO DOt thenQ blockQ retQ At
structure LitS where
 m : Mem
 q : Option Addr
 sl : Sl
 i : Nat
 acc : Str
def litR (o : Option (Str × Nat)) : Value:=match o with
 | some (t,n) => .tuple ⟨[strV t, .int .i64 ((n + 1 : Nat) : Int)]⟩
 | none => .tuple ⟨[strV [], .int .i64 0]⟩
set_option maxHeartbeats 2000000 in
theorem literal_law (m : Mem) (L : List Item) (s : Str) (h0 : 0 < s.length) (hl : s.length ≤ 70000) (hE : Errs m) : TCall Tryz.prog 108 ⟨[strV s]⟩ m L (Made m L fun r _=>r=litR (lit (s.drop 1))):=by
 unfold TCall
 refine TCallX.enter Tryz.func108 rfl 76 rfl ?_
 repeat (first|refine q1 ?_|refine q3 ?_|refine q4 tab rfl rfl ?_|refine q5 ?_|refine q6 ?_)
 refine TO.step rfl (OT.allocT tab rfl rfl rfl rfl (fun bd m1 hm1 ht1 => ?_))
 repeat (first|refine q1 ?_|refine q2 ?_|refine q3 ?_|refine q4 tab rfl rfl ?_|refine q5 ?_|refine q6 ?_)
 refine TC.grow0 (size:=1) ?_
 refine TC.perm pf1 ?_
 refine TC.loopK (ι:=LitS) [0,4] rfl (fun x=>[(5, .int .i64 (x.i : Int))]) (fun x=>x.m) (fun x => .cells bd 0 [.pointer x.q,x.sl.v] :: tok x.sl 1 :: L) (fun x=>m ≤ x.m∧1 ≤ x.i∧x.i ≤ s.length∧BOk x.m bd x.q x.sl x.acc∧x.acc.length ≤ x.i∧LitAt s 1 x.i x.acc (lit (s.drop 1))) (fun x=>s.length - x.i) ⟨m1,none,⟨none,0,0⟩,1,[]⟩ (by repeat (first|exact trivial|refine And.intro rfl ?_)) rfl (by repeat (exact List.Sublist.refl _)) ⟨hm1,Nat.le_refl _,h0,⟨⟨_,ht1,by kernel_rfl⟩, .inl rfl,SlRep.nil _ _,Own.nil,fun _ _ e=>(by cases e),fun _=>rfl⟩,Nat.zero_le _,LitAt.start s 1⟩ ?_
 rintro ⟨m1,q,sl,i,acc⟩ ⟨hm,hi1,hi,hB,hacc,hI⟩
 replace hm : m ≤ m1:=hm
 replace hi1 : 1 ≤ i:=hi1
 replace hi : i ≤ s.length:=hi
 replace hB : BOk m1 bd q sl acc:=hB
 replace hacc : acc.length ≤ i:=hacc
 replace hI : LitAt s 1 i acc (lit (s.drop 1)):=hI
 show TC _ _ _ ((5, .int .i64 (i : Int)) :: _) _ m1 (.cells bd 0 [.pointer q,sl.v] :: tok sl 1 :: L) _
 repeat (first|refine q1 ?_|refine q3 ?_|refine q4 tab rfl rfl ?_|refine q5 ?_|refine q6 ?_)
 refine TC.condP rfl (fun g1 => ?_) (fun g1 => ?_)
 ·have hlt : i < s.length:=by omega
  have hx : s[i]? = some s[i]:=by simp [hlt]
  repeat (first|refine q1 ?_|refine q2 ?_|refine q3 ?_|refine q4 tab rfl rfl ?_|refine q6 ?_|refine q13 ?_)
  refine TO.step rfl (OT.sidx tab i rfl rfl rfl rfl rfl rfl rfl hx ?_)
  repeat (first|refine q1 ?_|refine q2 ?_|refine q3 ?_|refine q4 tab rfl rfl ?_|refine q5 ?_|refine q6 ?_)
  refine TC.condP rfl (fun c1 => ?_) (fun c1 => ?_)
  ·repeat (first|refine q1 ?_|refine q3 ?_)
   refine TO.step rfl (OT.call rfl rfl rfl rfl rfl rfl goes70 ((string_law _ _ bd q sl acc hB).x ?_));
   rintro _ _ _ ⟨rfl,rfl,rfl⟩
   repeat (refine q4 tab rfl rfl ?_)
   refine TO.step rfl (OT.arith (r':=((i + 1 : Nat) : Int)) rfl rfl rfl rfl rfl rfl rfl (by omega) ?_)
   repeat (first|refine q4 tab rfl rfl ?_|refine q5 ?_|refine q6 ?_|refine q8 ?_|refine q9 ?_|refine q15 ?_)
   refine retQ_ret rfl (by repeat (exact List.Sublist.refl _)) ⟨hm,rfl, ?_⟩
   rw [hI.quote hlt (by omega)]
   show Value.tuple ⟨[strV acc, .int .i64 ((i + 1 : Nat) : Int)]⟩ = .tuple ⟨[strV acc, .int .i64 ((i - 1 + 1 + 1 : Nat) : Int)]⟩
   rw [show i - 1 + 1 + 1=i + 1 by omega]
  repeat (first|refine q1 ?_|refine q3 ?_|refine q4 tab rfl rfl ?_|refine q5 ?_|refine q6 ?_)
  refine TC.condP rfl (fun c2 => ?_) (fun c2 => ?_)
  ·repeat (first|refine q1 ?_|refine q3 ?_|refine q4 tab rfl rfl ?_|refine q5 ?_|refine q6 ?_|refine q8 ?_|refine q9 ?_|refine q15 ?_)
   refine retQ_ret rfl (by repeat (first|exact List.Sublist.refl _|refine List.Sublist.cons _ ?_)) ⟨hm,rfl, ?_⟩
   rw [hI.nl hlt (by omega)];rfl
  repeat (first|refine q1 ?_|refine q3 ?_|refine q4 tab rfl rfl ?_|refine q5 ?_|refine q6 ?_)
  refine TC.condP rfl (fun c3 => ?_) (fun c3 => ?_)
  ·repeat (first|refine q1 ?_|refine q3 ?_|refine q4 tab rfl rfl ?_)
   refine TO.step rfl (OT.arith (r':=((i + 1 : Nat) : Int)) rfl rfl rfl rfl rfl rfl rfl (by omega) ?_)
   repeat (first|refine q1 ?_|refine q3 ?_|refine q4 tab rfl rfl ?_|refine q5 ?_|refine q6 ?_)
   refine TC.condP rfl (fun c4 => ?_) (fun c4 => ?_)
   ·repeat (first|refine q1 ?_|refine q3 ?_|refine q4 tab rfl rfl ?_|refine q5 ?_|refine q6 ?_|refine q8 ?_|refine q9 ?_|refine q15 ?_)
    refine retQ_ret rfl (by repeat (first|exact List.Sublist.refl _|refine List.Sublist.cons _ ?_)) ⟨hm,rfl, ?_⟩
    rw [hI.bad hlt (by omega) (by rw [List.drop_eq_nil_of_le (by omega)];rfl)];rfl
   have hlt2 : i + 1 < s.length:=by omega
   have hx2 : s[i + 1]? = some s[i + 1]:=by simp [hlt2]
   have hd2:=List.drop_eq_getElem_cons hlt2
   repeat (first|refine q1 ?_|refine q3 ?_|refine q4 tab rfl rfl ?_|refine q6 ?_|refine q13 ?_)
   refine TO.step rfl (OT.sidx tab (i + 1) rfl rfl rfl rfl rfl rfl rfl hx2 ?_)
   repeat (first|refine q1 ?_|refine q2 ?_|refine q3 ?_|refine q4 tab rfl rfl ?_|refine q5 ?_|refine q6 ?_)
   refine TC.condP rfl (fun d1 => ?_) (fun d1 => ?_)
   ·have he : escB (s.drop (i + 1))=some (10,1):=by rw [hd2];exact esc_n (by omega)
    repeat (refine q3 ?_)
    refine TO.step rfl (OT.call rfl rfl rfl rfl rfl rfl goes119 ((writeByte_law _ _ bd q sl acc 10 hB (by omega)).x ?_));
    rintro _ m2 _ ⟨hm2,sl2,q2,rfl,hB2⟩
    repeat (first|refine q3 ?_|refine q4 tab rfl rfl ?_|refine q5 ?_|refine q6 ?_|refine q7 ?_)
    refine TO.step rfl (OT.arith (r':=(((i + 1) + 1 : Nat) : Int)) rfl rfl rfl rfl rfl rfl rfl (by omega) ?_)
    repeat (first|refine q4 tab rfl rfl ?_|refine q5 ?_|refine q6 ?_)
    exact ⟨⟨m2,q2,sl2,(i + 1) + 1,acc++[10]⟩,(by repeat (first|exact trivial|refine And.intro rfl ?_)),(by repeat (first|exact trivial|refine And.intro rfl ?_)),rfl,rfl,(by repeat (exact List.Sublist.refl _)),⟨Mem.le_trans hm hm2,by show _ ≤ (i + 1) + 1;omega,by show (i + 1) + 1 ≤ _;omega,hB2,by show (acc++[_]).length ≤ (i + 1) + 1;rw [List.length_append];simp only [List.length_cons,List.length_nil];omega,(hI.esc hi1 hlt (by omega) he)⟩,by show s.length - ((i + 1) + 1) < s.length - i;omega⟩
   repeat (first|refine q1 ?_|refine q3 ?_|refine q4 tab rfl rfl ?_|refine q5 ?_|refine q6 ?_)
   refine TC.condP rfl (fun d2 => ?_) (fun d2 => ?_)
   ·have he : escB (s.drop (i + 1))=some (9,1):=by rw [hd2];exact esc_t (by omega)
    repeat (refine q3 ?_)
    refine TO.step rfl (OT.call rfl rfl rfl rfl rfl rfl goes119 ((writeByte_law _ _ bd q sl acc 9 hB (by omega)).x ?_));
    rintro _ m2 _ ⟨hm2,sl2,q2,rfl,hB2⟩
    repeat (first|refine q3 ?_|refine q4 tab rfl rfl ?_|refine q5 ?_|refine q6 ?_|refine q7 ?_)
    refine TO.step rfl (OT.arith (r':=(((i + 1) + 1 : Nat) : Int)) rfl rfl rfl rfl rfl rfl rfl (by omega) ?_)
    repeat (first|refine q4 tab rfl rfl ?_|refine q5 ?_|refine q6 ?_)
    exact ⟨⟨m2,q2,sl2,(i + 1) + 1,acc++[9]⟩,(by repeat (first|exact trivial|refine And.intro rfl ?_)),(by repeat (first|exact trivial|refine And.intro rfl ?_)),rfl,rfl,(by repeat (exact List.Sublist.refl _)),⟨Mem.le_trans hm hm2,by show _ ≤ (i + 1) + 1;omega,by show (i + 1) + 1 ≤ _;omega,hB2,by show (acc++[_]).length ≤ (i + 1) + 1;rw [List.length_append];simp only [List.length_cons,List.length_nil];omega,(hI.esc hi1 hlt (by omega) he)⟩,by show s.length - ((i + 1) + 1) < s.length - i;omega⟩
   repeat (first|refine q1 ?_|refine q3 ?_|refine q4 tab rfl rfl ?_|refine q5 ?_|refine q6 ?_)
   refine TC.condP rfl (fun d3 => ?_) (fun d3 => ?_)
   ·have he : escB (s.drop (i + 1))=some (s[i + 1],1):=by rw [hd2];exact esc_self (by omega)
    repeat (first|refine q6 ?_|refine q13 ?_)
    refine TC.condP rfl (fun _ => ?_) (fun h=>absurd d3 h)
    repeat (first|refine q3 ?_|refine q4 tab rfl rfl ?_)
    refine TO.step rfl (OT.sidx tab (i + 1) rfl rfl rfl rfl rfl rfl rfl hx2 ?_)
    skip
    refine TO.step rfl (OT.call rfl rfl rfl rfl rfl rfl goes119 ((writeByte_law _ _ bd q sl acc s[i + 1] hB (by omega)).x ?_));
    rintro _ m2 _ ⟨hm2,sl2,q2,rfl,hB2⟩
    repeat (first|refine q3 ?_|refine q4 tab rfl rfl ?_|refine q5 ?_|refine q6 ?_|refine q7 ?_)
    refine TO.step rfl (OT.arith (r':=(((i + 1) + 1 : Nat) : Int)) rfl rfl rfl rfl rfl rfl rfl (by omega) ?_)
    repeat (first|refine q4 tab rfl rfl ?_|refine q5 ?_|refine q6 ?_)
    exact ⟨⟨m2,q2,sl2,(i + 1) + 1,acc++[s[i + 1]]⟩,(by repeat (first|exact trivial|refine And.intro rfl ?_)),(by repeat (first|exact trivial|refine And.intro rfl ?_)),rfl,rfl,(by repeat (exact List.Sublist.refl _)),⟨Mem.le_trans hm hm2,by show _ ≤ (i + 1) + 1;omega,by show (i + 1) + 1 ≤ _;omega,hB2,by show (acc++[_]).length ≤ (i + 1) + 1;rw [List.length_append];simp only [List.length_cons,List.length_nil];omega,(hI.esc hi1 hlt (by omega) he)⟩,by show s.length - ((i + 1) + 1) < s.length - i;omega⟩
   repeat (first|refine q3 ?_|refine q4 tab rfl rfl ?_|refine q5 ?_|refine q6 ?_)
   refine TC.condP rfl (fun d4 => ?_) (fun d4 => ?_)
   ·have he : escB (s.drop (i + 1))=some (s[i + 1],1):=by rw [hd2];exact esc_self (by omega)
    repeat (first|refine q3 ?_|refine q4 tab rfl rfl ?_)
    refine TO.step rfl (OT.sidx tab (i + 1) rfl rfl rfl rfl rfl rfl rfl hx2 ?_)
    skip
    refine TO.step rfl (OT.call rfl rfl rfl rfl rfl rfl goes119 ((writeByte_law _ _ bd q sl acc s[i + 1] hB (by omega)).x ?_));
    rintro _ m2 _ ⟨hm2,sl2,q2,rfl,hB2⟩
    repeat (first|refine q3 ?_|refine q4 tab rfl rfl ?_|refine q5 ?_|refine q6 ?_|refine q7 ?_)
    refine TO.step rfl (OT.arith (r':=(((i + 1) + 1 : Nat) : Int)) rfl rfl rfl rfl rfl rfl rfl (by omega) ?_)
    repeat (first|refine q4 tab rfl rfl ?_|refine q5 ?_|refine q6 ?_)
    exact ⟨⟨m2,q2,sl2,(i + 1) + 1,acc++[s[i + 1]]⟩,(by repeat (first|exact trivial|refine And.intro rfl ?_)),(by repeat (first|exact trivial|refine And.intro rfl ?_)),rfl,rfl,(by repeat (exact List.Sublist.refl _)),⟨Mem.le_trans hm hm2,by show _ ≤ (i + 1) + 1;omega,by show (i + 1) + 1 ≤ _;omega,hB2,by show (acc++[_]).length ≤ (i + 1) + 1;rw [List.length_append];simp only [List.length_cons,List.length_nil];omega,(hI.esc hi1 hlt (by omega) he)⟩,by show s.length - ((i + 1) + 1) < s.length - i;omega⟩
   repeat (first|refine q1 ?_|refine q3 ?_|refine q4 tab rfl rfl ?_|refine q5 ?_|refine q6 ?_)
   refine TC.condP rfl (fun d5 => ?_) (fun d5 => ?_)
   ·repeat (first|refine q1 ?_|refine q3 ?_|refine q4 tab rfl rfl ?_)
    refine TO.step rfl (OT.arith (r':=((i + 3 : Nat) : Int)) rfl rfl rfl rfl rfl rfl rfl (by omega) ?_)
    repeat (first|refine q4 tab rfl rfl ?_|refine q5 ?_|refine q6 ?_)
    refine TC.condP rfl (fun d6 => ?_) (fun d6 => ?_)
    ·repeat (first|refine q1 ?_|refine q3 ?_|refine q4 tab rfl rfl ?_|refine q5 ?_|refine q6 ?_|refine q8 ?_|refine q9 ?_|refine q15 ?_)
     refine retQ_ret rfl (by repeat (first|exact List.Sublist.refl _|refine List.Sublist.cons _ ?_)) ⟨hm,rfl, ?_⟩
     rw [hI.bad hlt (by omega) (by rw [hd2];exact esc_xs (by omega) (by rw [List.length_drop];omega))];rfl
    have hl3 : i + 2 < s.length:=by omega
    have hl4 : i + 3 < s.length:=by omega
    have hcut : (s.take (i + 4)).drop (i + 2)=[s[i + 2],s[i + 3]]:=by
     rw [List.take_succ_eq_append_getElem hl4,List.take_succ_eq_append_getElem hl3,List.append_assoc,List.drop_append,List.drop_eq_nil_of_le (by simp;omega)]
     simp [Nat.min_eq_left (show i + 2 ≤ s.length by omega)]
    have hd3 : s.drop (i + 1)=s[i + 1] :: s[i + 2] :: s[i + 3] :: s.drop (i + 4):=by
     rw [hd2,List.drop_eq_getElem_cons hl3,List.drop_eq_getElem_cons hl4]
    repeat (first|refine q1 ?_|refine q3 ?_|refine q4 tab rfl rfl ?_|refine q6 ?_|refine q13 ?_)
    refine TO.step rfl (OT.arith (r':=((i + 2 : Nat) : Int)) rfl rfl rfl rfl rfl rfl rfl (by omega) ?_)
    repeat (refine q4 tab rfl rfl ?_)
    refine TO.step rfl (OT.arith (r':=((i + 4 : Nat) : Int)) rfl rfl rfl rfl rfl rfl rfl (by omega) ?_)
    refine TO.step rfl (OT.sub tab (i + 2) (i + 4) rfl rfl rfl rfl rfl rfl rfl (.inr rfl) (.inr rfl) (by omega) (by omega) ?_)
    rw [hcut]
    refine TO.step rfl (OT.call rfl rfl rfl rfl rfl rfl goes141 ((parseUint_law _ _ [s[i + 2],s[i + 3]] (by simp) (by simp) (hE.mono hm)).x ?_));
    rintro _ m3 _ ⟨hm3,rfl,⟨v,e1,rfl⟩ | ⟨e1,v,a,b,rfl⟩⟩
    ·have hv:=pU_le _ _ _ (Nat.zero_le _) e1
     have he : escB (s.drop (i + 1))=some (UInt8.ofNat v,3):=by rw [hd3,esc_x (by omega),hexB,e1];rfl
     repeat (first|refine q1 ?_|refine q3 ?_|refine q4 tab rfl rfl ?_|refine q5 ?_|refine q6 ?_)
     refine TO.step rfl (OT.errNe tab rfl rfl rfl rfl (.inl rfl) rfl rfl ?_)
     repeat (first|refine q1 ?_|refine q3 ?_|refine q4 tab rfl rfl ?_|refine q5 ?_|refine q6 ?_|refine q13 ?_|refine q17 rfl ?_)
     refine TO.step rfl (OT.conv tab rfl rfl rfl rfl rfl rfl (r:=((UInt8.ofNat v).toNat : Int)) (by rw [u8_in (by omega) (by omega),UInt8.toNat_ofNat',Nat.mod_eq_of_lt (by omega)]) ?_)
     replace hB:=hB.mono hm3
     refine TO.step rfl (OT.call rfl rfl rfl rfl rfl rfl goes119 ((writeByte_law _ _ bd q sl acc (UInt8.ofNat v) hB (by omega)).x ?_));
     rintro _ m2 _ ⟨hm2,sl2,q2,rfl,hB2⟩
     repeat (first|refine q3 ?_|refine q4 tab rfl rfl ?_|refine q5 ?_|refine q6 ?_)
     refine TO.step rfl (OT.arith (r':=((i + 3 : Nat) : Int)) rfl rfl rfl rfl rfl rfl rfl (by omega) ?_)
     repeat (first|refine q3 ?_|refine q4 tab rfl rfl ?_|refine q5 ?_|refine q6 ?_|refine q7 ?_)
     refine TO.step rfl (OT.arith (r':=(((i + 3) + 1 : Nat) : Int)) rfl rfl rfl rfl rfl rfl rfl (by omega) ?_)
     repeat (first|refine q4 tab rfl rfl ?_|refine q5 ?_|refine q6 ?_)
     exact ⟨⟨m2,q2,sl2,(i + 3) + 1,acc++[(UInt8.ofNat v)]⟩,(by repeat (first|exact trivial|refine And.intro rfl ?_)),(by repeat (first|exact trivial|refine And.intro rfl ?_)),rfl,rfl,(by repeat (exact List.Sublist.refl _)),⟨Mem.le_trans hm (Mem.le_trans hm3 hm2),by show _ ≤ (i + 3) + 1;omega,by show (i + 3) + 1 ≤ _;omega,hB2,by show (acc++[_]).length ≤ (i + 3) + 1;rw [List.length_append];simp only [List.length_cons,List.length_nil];omega,(hI.esc hi1 hlt (by omega) he)⟩,by show s.length - ((i + 3) + 1) < s.length - i;omega⟩
    ·repeat (first|refine q1 ?_|refine q3 ?_|refine q4 tab rfl rfl ?_|refine q5 ?_|refine q6 ?_)
     refine TO.step rfl (OT.errNe tab rfl rfl rfl rfl (.inr ⟨_,_,rfl⟩) rfl rfl ?_)
     repeat (first|refine q1 ?_|refine q3 ?_|refine q4 tab rfl rfl ?_|refine q5 ?_|refine q6 ?_|refine q8 ?_|refine q9 ?_|refine q15 ?_|refine q16 rfl ?_)
     refine retQ_ret rfl (by repeat (first|exact List.Sublist.refl _|refine List.Sublist.cons _ ?_)) ⟨Mem.le_trans hm hm3,rfl, ?_⟩
     rw [hI.bad hlt (by omega) (by rw [hd3,esc_x (by omega),hexB,e1];rfl)];rfl
   ·repeat (first|refine q1 ?_|refine q3 ?_|refine q4 tab rfl rfl ?_|refine q5 ?_|refine q6 ?_|refine q8 ?_|refine q9 ?_|refine q15 ?_)
    refine retQ_ret rfl (by repeat (first|exact List.Sublist.refl _|refine List.Sublist.cons _ ?_)) ⟨hm,rfl, ?_⟩
    rw [hI.bad hlt (by omega) (by rw [hd2];exact esc_no (by omega) (by omega) (by omega) (by omega) (by omega))];rfl
  ·repeat (first|refine q3 ?_|refine q4 tab rfl rfl ?_)
   refine TO.step rfl (OT.sidx tab i rfl rfl rfl rfl rfl rfl rfl hx ?_)
   refine TO.step rfl (OT.call rfl rfl rfl rfl rfl rfl goes119 ((writeByte_law _ _ bd q sl acc s[i] hB (by omega)).x ?_));
   rintro _ m2 _ ⟨hm2,sl2,q2,rfl,hB2⟩
   repeat (first|refine q3 ?_|refine q4 tab rfl rfl ?_|refine q5 ?_|refine q6 ?_|refine q7 ?_)
   refine TO.step rfl (OT.arith (r':=((i + 1 : Nat) : Int)) rfl rfl rfl rfl rfl rfl rfl (by omega) ?_)
   repeat (first|refine q4 tab rfl rfl ?_|refine q5 ?_|refine q6 ?_)
   exact ⟨⟨m2,q2,sl2,i + 1,acc++[s[i]]⟩,(by repeat (first|exact trivial|refine And.intro rfl ?_)),(by repeat (first|exact trivial|refine And.intro rfl ?_)),rfl,rfl,(by repeat (exact List.Sublist.refl _)),⟨Mem.le_trans hm hm2,by show _ ≤ i + 1;omega,by show i + 1 ≤ _;omega,hB2,by show (acc++[_]).length ≤ i + 1;rw [List.length_append];simp only [List.length_cons,List.length_nil];omega,(hI.one hi1 hlt (by omega) (by omega) (by omega))⟩,by show s.length - (i + 1) < s.length - i;omega⟩
 ·repeat (first|refine q1 ?_|refine q3 ?_|refine q4 tab rfl rfl ?_|refine q5 ?_|refine q6 ?_|refine q10 ?_|refine q11 ?_|refine q14 ?_|refine q15 ?_)
  refine retQ_ret rfl (by repeat (first|exact List.Sublist.refl _|refine List.Sublist.cons _ ?_)) ⟨hm,rfl, ?_⟩
  rw [hI.end_ (by omega)];rfl
end Go.Sep


/- ScTok0 -/
set_option linter.unusedVariables false
set_option linter.unusedSimpArgs false
namespace Go.Sep
def isSp (c : UInt8) : Bool:=decide (c.toNat=9) || (decide (c.toNat=10) || (decide (c.toNat=13) || decide (c.toNat=32)))
def blk : Bool→Str→Nat
 | _,[]=>0
 | true,c :: r=>if c.toNat=10 then 1 + blk false r else 1 + blk true r
 | false,c :: r=>if isSp c=true then 1 + blk false r else if c.toNat=47∧r.head? = some 47 then 1 + blk true r else 0
theorem blk_le : ∀ (b : Bool) (s : Str),blk b s ≤ s.length
 | _,[]=>by simp [blk]
 | true,c :: r=>by
  have h1:=blk_le false r
  have h2:=blk_le true r
  rw [blk,List.length_cons]
  split <;> omega
 | false,c :: r=>by
  have h1:=blk_le false r
  have h2:=blk_le true r
  rw [blk,List.length_cons]
  split
  ·omega
  ·split <;> omega
theorem isSp_ix_all : ∀ n : Fin 256,decide (0 ≤ Lib.indexByte [9,10,13,32] (UInt8.ofNat n.val))=isSp (UInt8.ofNat n.val):=by decide +kernel
theorem isSp_ix (c : UInt8) : decide (0 ≤ Lib.indexByte [9,10,13,32] c)=isSp c:=by
 have:=isSp_ix_all ⟨c.toNat,c.toNat_lt⟩
 simpa using this
theorem blk_line : ∀ l : Str,(Lib.indexByte l 10 = -1∧blk true l=l.length) ∨ ∃ k : Nat,k < l.length∧Lib.indexByte l 10=(k : Int)∧blk true l=k + blk false (l.drop k)∧(l.drop k).head? = some 10
 | [] => .inl ⟨rfl,rfl⟩
 | c :: r=>by
  by_cases hc : c=10
  ·subst hc
   refine .inr ⟨0,by simp,rfl, ?_,rfl⟩
   rw [List.drop_zero,Nat.zero_add,blk,blk,if_pos (by decide),if_pos (by decide)]
  ·have hn : c.toNat ≠ 10:=fun e=>hc (UInt8.toNat_inj.1 e)
   have hb : (c == 10)=false:=by simpa using hc
   rw [Lib.indexByte,blk,if_neg hn,hb]
   simp only [Bool.false_eq_true,if_false]
   rcases blk_line r with ⟨h1,h2⟩ | ⟨k,h1,h2,h3,h4⟩
   ·refine .inl ⟨?_, ?_⟩
    ·rw [h1];rfl
    ·rw [h2,List.length_cons];omega
   ·refine .inr ⟨k + 1,by simpa using h1, ?_, ?_,by simpa using h4⟩
    ·rw [h2]
     have : ((k : Int) == -1)=false:=by
      simp only [beq_eq_false_iff_ne];omega
     rw [this];simp
    ·rw [h3];simp;omega
theorem blk_rem {c : UInt8} {r : Str} (h1 : c.toNat=47) (h2 : r.head? = some 47) : blk false (c :: r)=blk true (c :: r):=by
 rw [blk,blk,if_neg (by unfold isSp;simp [h1]),if_pos ⟨h1,h2⟩,if_neg (by omega)]
structure Tok where
 kind : Int
 text : Str
 num : Int
 at_ : Int
 deriving DecidableEq
def markL : List Str:=[[58,61],[61,61],[33,61],[60,61],[62,61],[38,38],[124,124],[40],[41],[123],[125],[91],[93],[44],[59],[46],[58],[61],[60],[62],[43],[45],[42],[47],[37],[38],[33]]
def tokD : Str→Option (Tok × Nat)
 | []=>none
 | c :: r =>
  if ltr c=true then (if 64 < spanOf lod (c :: r) then none else some (⟨if (c :: r).take (spanOf lod (c :: r)) ∈ wordL then 5 else 1,(c :: r).take (spanOf lod (c :: r)),0,0⟩,spanOf lod (c :: r)))
  else if dgt c=true then (match numOf ((c :: r).take (spanOf lod (c :: r))) with
   | none=>none
   | some v=>if (c.toNat=48∧1 < spanOf lod (c :: r)) ∨ spanOf dgt (c :: r) ≠ spanOf lod (c :: r) then none else some (⟨2,[],v,0⟩,spanOf lod (c :: r)))
  else if c.toNat=34 then (match lit r with
   | none=>none
   | some (t,n)=>if 1024 < t.length then none else some (⟨3,t,0,0⟩,n + 1))
  else match markL.find? (fun p=>prefixB p (c :: r)) with
   | none=>none
   | some p=>some (⟨4,p,0,0⟩,p.length)
theorem span_pos {p : UInt8→Bool} {c : UInt8} {r : Str} (h : p c=true) : 0 < spanOf p (c :: r):=by
 rw [spanOf,List.takeWhile_cons_of_pos h];simp
theorem span_le (p : UInt8→Bool) (s : Str) : spanOf p s ≤ s.length:=by
 unfold spanOf
 induction s with
 | nil=>simp
 | cons x xs ih =>
  rw [List.takeWhile_cons]
  split <;> simp
  exact ih
theorem litF_le : ∀ (f : Nat) (r t : Str) (n : Nat),litF f r=some (t,n)→1 ≤ n∧n ≤ r.length
 | 0,_,_,_,h=>by cases h
 | f + 1,[],_,_,h=>by cases h
 | f + 1,c :: r,t,n,h=>by
  rw [litF] at h
  split at h
  ·cases h;simp
  ·split at h
   ·cases h
   ·split at h
    ·cases he : escB r with
     | none=>rw [he] at h;cases h
     | some p =>
      obtain ⟨b,k⟩:=p
      rw [he] at h
      simp only at h
      cases hl : litF f (r.drop k) with
      | none=>rw [hl] at h;cases h
      | some q =>
       obtain ⟨t',n'⟩:=q
       rw [hl] at h
       simp only [Option.map_some,Option.some.injEq,Prod.mk.injEq] at h
       have h1:=litF_le f _ _ _ hl
       have h2:=escB_pos he
       have h3 : (r.drop k).length=r.length - k:=by simp
       simp only [List.length_cons]
       omega
    ·cases hl : litF f r with
     | none=>rw [hl] at h;cases h
     | some q =>
      obtain ⟨t',n'⟩:=q
      rw [hl] at h
      simp only [Option.map_some,Option.some.injEq,Prod.mk.injEq] at h
      have h1:=litF_le f _ _ _ hl
      simp only [List.length_cons]
      omega
theorem lit_le {r t : Str} {n : Nat} (h : lit r=some (t,n)) : 1 ≤ n∧n ≤ r.length:=litF_le _ _ _ _ h
theorem prefixB_len {p s : Str} (h : prefixB p s=true) : p.length ≤ s.length∧s.take p.length=p:=by
 unfold prefixB at h
 rw [Bool.and_eq_true] at h
 exact ⟨of_decide_eq_true h.1,of_decide_eq_true h.2⟩
theorem markL_len : ∀ p ∈ markL,1 ≤ p.length:=by decide
theorem tokD_le {s : Str} {t : Tok} {n : Nat} (h : tokD s=some (t,n)) : 1 ≤ n∧n ≤ s.length:=by
 cases s with
 | nil=>cases h
 | cons c r =>
  have hs:=span_le lod (c :: r)
  rw [tokD] at h
  by_cases h1 : ltr c=true
  ·rw [if_pos h1] at h
   have : lod c=true:=by unfold lod;rw [h1];rfl
   have:=span_pos (r:=r) this
   split at h
   ·cases h
   ·cases h;omega
  ·rw [if_neg h1] at h
   by_cases h2 : dgt c=true
   ·rw [if_pos h2] at h
    have : lod c=true:=by unfold lod;rw [h2];simp
    have:=span_pos (r:=r) this
    split at h
    ·cases h
    ·split at h
     ·cases h
     ·cases h;omega
   ·rw [if_neg h2] at h
    by_cases h3 : c.toNat=34
    ·rw [if_pos h3] at h
     cases hl : lit r with
     | none=>rw [hl] at h;cases h
     | some p =>
      obtain ⟨t',n'⟩:=p
      rw [hl] at h
      simp only at h
      have:=lit_le hl
      split at h
      ·cases h
      ·cases h;simp;omega
    ·rw [if_neg h3] at h
     cases hf : markL.find? (fun p=>prefixB p (c :: r)) with
     | none=>rw [hf] at h;cases h
     | some p =>
      rw [hf] at h
      cases h
      have:=prefixB_len (p:=p) (s:=c :: r) (List.find?_some (p:=fun p=>prefixB p (c :: r)) hf)
      exact ⟨markL_len p (List.mem_of_find?_eq_some hf),this.1⟩
def cutF : Nat→Str→Nat→Nat→Except (Nat × Int) (List Tok)
 | 0,_,_,_ => .error (0,0)
 | f + 1,r,at_,k=>if r.drop (blk false r)=[] then .ok [] else if k=20000 then .error (at_ + blk false r,4) else match tokD (r.drop (blk false r)) with
  | none => .error (at_ + blk false r,3)
  | some (t,n)=>match cutF f ((r.drop (blk false r)).drop n) (at_ + blk false r + n) (k + 1) with
   | .error e => .error e
   | .ok l => .ok (⟨t.kind,t.text,t.num,((at_ + blk false r : Nat) : Int)⟩ :: l)
structure Cut where
 list : List Tok
 at_ : Nat
 e : Int
 deriving DecidableEq
def Cut.of : Except (Nat × Int) (List Tok)→Cut
 | .ok l=>⟨l,0,0⟩
 | .error (a,e)=>⟨[],a,e⟩
def scanD (s : Str) : Cut:=if 65536 < s.length then ⟨[],0,13⟩ else .of (cutF (s.length + 1) s 0 0)
end Go.Sep


/- ScBlank -/
set_option linter.unusedVariables false
set_option linter.unusedSimpArgs false
namespace Go.Sep
open Go.Proofs
attribute [local irreducible] TC TO OT TCallX TCall DO DOt thenQ blockQ retQ At
theorem prefix_2 (l : Str) : prefixB [47,47] l=true ↔ ∃ r,l=47 :: 47 :: r:=by
 constructor
 ·intro h
  obtain ⟨h1,h2⟩:=prefixB_len h
  match l,h1,h2 with
  | a :: b :: r,_,h2 =>
   simp at h2
   exact ⟨r,by rw [h2.1,h2.2]⟩
  | [a],h1,_=>simp at h1
  | [],h1,_=>simp at h1
 ·rintro ⟨r,rfl⟩
  rfl
set_option maxHeartbeats 800000 in
theorem blank_law (m : Mem) (L : List Item) (s : Str) (hl : s.length ≤ 70000) : TCall Tryz.prog 59 ⟨[strV s]⟩ m L (Ret (.int .i64 ((blk false s : Nat) : Int)) m L):=by
 unfold TCall
 refine TCallX.enter Tryz.func59 rfl 35 rfl ?_
 repeat (first|refine q1 ?_|refine q2 ?_|refine q3 ?_|refine q4 tab rfl rfl ?_|refine q5 ?_|refine q6 ?_)
 refine TC.loopK (ι:=Nat) [0] rfl (fun n=>[(3, .int .i64 (n : Int))]) (fun _=>m) (fun _=>L) (fun n=>n ≤ s.length∧blk false s=n + blk false (s.drop n)) (fun n=>s.length - n) 0 (by repeat (first|exact trivial|refine And.intro rfl ?_)) rfl (by repeat (exact List.Sublist.refl _)) ⟨Nat.zero_le _,by simp⟩ ?_
 rintro n ⟨hn,hI⟩
 repeat (first|refine q1 ?_|refine q3 ?_|refine q4 tab rfl rfl ?_|refine q5 ?_|refine q6 ?_)
 refine TC.condP rfl (fun g1 => ?_) (fun g1 => ?_)
 ·have hlt : n < s.length:=by omega
  have hx : s[n]? = some s[n]:=by simp [hlt]
  have hd:=List.drop_eq_getElem_cons hlt
  repeat (first|refine q1 ?_|refine q2 ?_|refine q3 ?_|refine q4 tab rfl rfl ?_|refine q6 ?_|refine q13 ?_)
  refine TO.step rfl (OT.sidx tab n rfl rfl rfl rfl rfl rfl rfl hx ?_)
  refine TO.step rfl (OT.call rfl rfl rfl rfl rfl rfl goes105 ((indexByte_law _ _ [9,10,13,32] s[n]).x ?_));
  rintro _ _ _ ⟨rfl,rfl,rfl⟩
  repeat (first|refine q4 tab rfl rfl ?_|refine q5 ?_|refine q6 ?_)
  rw [isSp_ix]
  refine TC.cond rfl (fun c1 => ?_) (fun c1 => ?_)
  ·repeat (first|refine q3 ?_|refine q4 tab rfl rfl ?_)
   refine TO.step rfl (OT.arith (r':=((n + 1 : Nat) : Int)) rfl rfl rfl rfl rfl rfl rfl (by omega) ?_)
   repeat (first|refine q4 tab rfl rfl ?_|refine q5 ?_|refine q6 ?_|refine q7 ?_)
   exact ⟨n + 1,(by repeat (first|exact trivial|refine And.intro rfl ?_)),(by repeat (first|exact trivial|refine And.intro rfl ?_)),rfl,rfl,(by repeat (exact List.Sublist.refl _)),⟨by omega,by rw [hI,hd,blk,if_pos c1];omega⟩,by omega⟩
  ·repeat (first|refine q1 ?_|refine q3 ?_|refine q4 tab rfl rfl ?_)
   refine TO.step rfl (OT.sub tab n s.length rfl rfl rfl rfl rfl rfl rfl (.inr rfl) (.inl ⟨rfl,rfl⟩) (by omega) (by omega) ?_)
   rw [List.take_length]
   refine TO.step rfl (OT.call rfl rfl rfl rfl rfl rfl goes106 ((prefix_law _ _ (s.drop n) [47,47]).x ?_));
   rintro _ _ _ ⟨rfl,rfl,rfl⟩
   repeat (first|refine q4 tab rfl rfl ?_|refine q5 ?_|refine q6 ?_)
   refine TC.cond rfl (fun c2 => ?_) (fun c2 => ?_)
   ·obtain ⟨r,hr⟩:=(prefix_2 _).1 c2
    have hb : blk false (s.drop n)=blk true (s.drop n):=by rw [hr];exact blk_rem rfl rfl
    repeat (first|refine q1 ?_|refine q3 ?_|refine q4 tab rfl rfl ?_)
    refine TO.step rfl (OT.sub tab n s.length rfl rfl rfl rfl rfl rfl rfl (.inr rfl) (.inl ⟨rfl,rfl⟩) (by omega) (by omega) ?_)
    rw [List.take_length]
    refine TO.step rfl (OT.call rfl rfl rfl rfl rfl rfl goes105 ((indexByte_law _ _ (s.drop n) 10).x ?_));
    rintro _ _ _ ⟨rfl,rfl,rfl⟩
    rcases blk_line (s.drop n) with ⟨k1,k2⟩ | ⟨k,k0,k1,k2,k3⟩
    ·rw [k1]
     repeat (first|refine q1 ?_|refine q3 ?_|refine q4 tab rfl rfl ?_|refine q5 ?_|refine q6 ?_|refine q8 ?_|refine q9 ?_|refine q15 ?_|refine q16 rfl ?_)
     refine retQ_ret rfl (by repeat (exact List.Sublist.refl _)) ⟨rfl,rfl, ?_⟩
     rw [hI,hb,k2,List.length_drop]
     congr 1;omega
    ·rw [k1]
     have hk : k ≠ 0:=fun e=>by rw [e,hr] at k3;simp at k3
     rw [List.length_drop] at k0
     repeat (first|refine q1 ?_|refine q3 ?_|refine q4 tab rfl rfl ?_|refine q5 ?_|refine q6 ?_|refine q13 ?_|refine q17 rfl ?_)
     refine TO.step rfl (OT.arith (r':=((n + k : Nat) : Int)) rfl rfl rfl rfl rfl rfl rfl (by omega) ?_)
     repeat (first|refine q4 tab rfl rfl ?_|refine q5 ?_|refine q6 ?_|refine q7 ?_)
     exact ⟨n + k,(by repeat (first|exact trivial|refine And.intro rfl ?_)),(by repeat (first|exact trivial|refine And.intro rfl ?_)),rfl,rfl,(by repeat (exact List.Sublist.refl _)),⟨by omega,by rw [hI,hb,k2,List.drop_drop];omega⟩,by omega⟩
   ·repeat (first|refine q1 ?_|refine q3 ?_|refine q4 tab rfl rfl ?_|refine q5 ?_|refine q6 ?_|refine q8 ?_|refine q9 ?_|refine q15 ?_)
    refine retQ_ret rfl (by repeat (exact List.Sublist.refl _)) ⟨rfl,rfl, ?_⟩
    have hb : blk false (s.drop n)=0:=by
     rw [hd,blk,if_neg (by rw [c1];decide),if_neg]
     rintro ⟨h1,h2⟩
     refine Bool.eq_false_iff.1 c2 ((prefix_2 _).2 ?_)
     rw [hd]
     have h3 : s[n]=47:=UInt8.toNat_inj.1 h1
     cases hr : s.drop (n + 1) with
     | nil=>rw [hr] at h2;cases h2
     | cons x r =>
      rw [hr] at h2
      simp at h2
      exact ⟨r,by rw [h3,h2]⟩
    rw [hI,hb];rfl
 ·repeat (first|refine q1 ?_|refine q3 ?_|refine q4 tab rfl rfl ?_|refine q5 ?_|refine q6 ?_|refine q10 ?_|refine q11 ?_|refine q14 ?_|refine q15 ?_)
  refine retQ_ret rfl (by repeat (exact List.Sublist.refl _)) ⟨rfl,rfl, ?_⟩
  rw [hI,List.drop_eq_nil_of_le (by omega),blk]
  congr 1
theorem marks_rep {m : Mem} {b : Nat} (h : At m b 0 (encs rStr markL)) : SlRep rStr m ⟨some ⟨b,0,none⟩,27,27⟩ markL :=
 ⟨rfl,Nat.le_refl _,(by show 27 * 16 ≤ _;decide),markL,all_refl2 markL, .inr ⟨b,0,rfl,h⟩⟩
set_option maxHeartbeats 400000 in
theorem marks_law (m : Mem) (L : List Item) : TCall Tryz.prog 109 ⟨[]⟩ m L (Made m L fun r m' => ∃ s : Sl,r=s.v∧SlRep rStr m' s markL):=by
 unfold TCall
 refine TCallX.enter Tryz.func109 rfl 2 rfl ?_
 repeat (first|refine q1 ?_|refine q3 ?_|refine q4 tab rfl rfl ?_|refine q5 ?_|refine q6 ?_)
 refine TO.step rfl (OT.lit tab rfl rfl rfl rfl (fun b => ?_))
 refine TO.freeze fun m1 hm1 hA1 => ?_
 repeat (first|refine q4 tab rfl rfl ?_|refine q5 ?_|refine q6 ?_|refine q15 ?_)
 exact retQ_ret rfl (by repeat (exact List.Sublist.refl _)) ⟨hm1,rfl,_,rfl,marks_rep hA1⟩
end Go.Sep


/- ScNext -/
set_option linter.unusedVariables false
set_option linter.unusedSimpArgs false
namespace Go.Sep
open Go.Proofs
attribute [local irreducible] TC TO OT TCallX TCall DO DOt thenQ blockQ retQ At
def tokC (t : Tok) : List Value:=[.int .i64 t.kind,strV t.text, .int .i64 t.num, .int .i64 t.at_]
@[reducible] def tokV (t : Tok) : Value := .agg ⟨tokC t⟩
def NextR (o : Option (Tok × Nat)) (r : Value) : Prop := ∃ t n,r = .tuple ⟨[tokV t, .int .i64 ((n : Nat) : Int)]⟩ ∧ (o=some (t,n) ∨ (o=none∧n=0))
set_option maxHeartbeats 1000000 in
theorem next_law (m : Mem) (L : List Item) (s : Str) (h0 : 0 < s.length) (hl : s.length ≤ 70000) (hE : Errs m) : TCall Tryz.prog 60 ⟨[strV s]⟩ m L (Made m L fun r _=>NextR (tokD s) r):=by
 obtain ⟨c,r,rfl⟩ : ∃ c r,s=c :: r:=by
  cases s with
  | nil=>simp at h0
  | cons c r=>exact ⟨c,r,rfl⟩
 have hx : (c :: r)[0]? = some c:=rfl
 have hsl:=span_le lod (c :: r)
 unfold TCall
 refine TCallX.enter Tryz.func60 rfl 99 rfl ?_
 repeat (first|refine q1 ?_|refine q3 ?_)
 refine TO.step rfl (OT.alloc tab rfl rfl rfl rfl (fun b2 => ?_))
 repeat (first|refine q1 ?_|refine q2 ?_|refine q3 ?_|refine q4 tab rfl rfl ?_|refine q5 ?_|refine q6 ?_)
 refine TO.step rfl (OT.sidx tab 0 rfl rfl rfl rfl rfl rfl rfl hx ?_)
 refine TO.step rfl (OT.call rfl rfl rfl rfl rfl rfl goes95 ((letter_law _ _ c).x ?_));
 rintro _ _ _ ⟨rfl,rfl,rfl⟩
 repeat (first|refine q4 tab rfl rfl ?_|refine q5 ?_|refine q6 ?_)
 refine TC.cond rfl (fun c1 => ?_) (fun c1 => ?_)
 ·repeat (first|refine q1 ?_|refine q3 ?_|refine q4 tab rfl rfl ?_)
  refine TO.step rfl (OT.call rfl rfl rfl rfl rfl rfl goes97 ((either_law _ _).x ?_));
  rintro _ m1 _ ⟨hm1,rfl,e1,e2,rfl,hA1,hA2⟩
  skip
  refine TO.step rfl (OT.call rfl rfl rfl rfl rfl rfl goes96 ((span_law m1 _ (c :: r) (by omega) lod 134 _ ⟨goes134,fun b=>either_cl m1 _ b e1 e2 hA1 hA2⟩).x ?_));
  rintro _ _ _ ⟨rfl,rfl,rfl⟩
  repeat (first|refine q1 ?_|refine q3 ?_|refine q4 tab rfl rfl ?_|refine q5 ?_|refine q6 ?_)
  refine TC.draw0 [] mixed 5 rfl ?_
  refine DO.pure tab (by repeat (first|exact Calm.ret|refine Calm.then ?_|refine Calm.block ?_)) (by kernel_rfl) [1,2] (by kernel_rfl) rfl ?_
  refine DO.fork 0 [3] (by kernel_rfl) ⟨⟨_,rfl,rfl,rfl, ?_⟩,⟨_,rfl,rfl,rfl, ?_⟩,trivial⟩
  ·refine OT.call rfl rfl rfl rfl rfl rfl goes100 ((words_law _ _).x ?_)
   rintro _ m2 _ ⟨hm2,rfl,w,rfl,hw⟩
   refine ⟨hm2,_,List.Perm.refl _, ?_⟩
   refine DO.run 3 rfl rfl (by kernel_rfl) rfl ?_
   refine OT.sub tab 0 (spanOf lod (c :: r)) rfl rfl rfl rfl rfl rfl rfl (.inl ⟨rfl,rfl⟩) (.inr rfl) (Nat.zero_le _) hsl ?_
   refine ⟨Mem.le_refl _,_,List.Perm.refl _, ?_⟩
   refine DO.run 4 rfl rfl (by kernel_rfl) rfl ?_
   refine OT.call rfl rfl rfl rfl rfl rfl goes99 ((contains_str m2 _ w wordL _ hw).x ?_)
   rintro _ _ _ ⟨rfl,rfl,rfl⟩
   refine ⟨Mem.le_refl _,_,List.Perm.refl _, ?_⟩
   refine DO.nil0 (by kernel_rfl) ?_
   refine thenQ_n ?_
   refine (fun (hm12 : m ≤ m2) => ?_) (Mem.le_trans hm1 hm2)
   skip
   refine TC.condP rfl (fun k1 => ?_) (fun k1 => ?_)
   ·repeat (first|refine q1 ?_|refine q3 ?_|refine q4 tab rfl rfl ?_|refine q5 ?_|refine q6 ?_)
    refine TC.condP rfl (fun k2 => ?_) (fun k2 => ?_)
    ·skip
     repeat (first|refine q1 ?_|refine q3 ?_|refine q4 tab rfl rfl ?_)
     (refine TO.step rfl (OT.storeL0 tab 0 rfl rfl rfl rfl rfl rfl rfl rfl ?_))
     repeat (first|refine q4 tab rfl rfl ?_|refine q5 ?_|refine q6 ?_|refine q8 ?_|refine q9 ?_|refine q15 ?_)
     refine retQ_ret_c tab 0 rfl rfl rfl rfl rfl (L':=L) (by repeat (first|exact List.Sublist.refl _|refine List.Sublist.cons _ ?_)) ⟨hm12,rfl, ?_⟩
     refine ⟨⟨0,[],0,0⟩,0,rfl, .inr ⟨?_,rfl⟩⟩
     rw [tokD,if_pos c1,if_pos (by omega)]
    ·repeat (first|refine q1 ?_|refine q3 ?_|refine q4 tab rfl rfl ?_|refine q6 ?_|refine q13 ?_)
     refine TO.step rfl (OT.sub tab 0 (spanOf lod (c :: r)) rfl rfl rfl rfl rfl rfl rfl (.inl ⟨rfl,rfl⟩) (.inr rfl) (Nat.zero_le _) hsl ?_)
     repeat (refine q4 tab rfl rfl ?_)
     (refine TO.step rfl (OT.storeL0 tab 0 rfl rfl rfl rfl rfl rfl rfl rfl ?_))
     repeat (first|refine q4 tab rfl rfl ?_|refine q5 ?_|refine q6 ?_|refine q8 ?_|refine q9 ?_|refine q15 ?_)
     refine retQ_ret_c tab 0 rfl rfl rfl rfl rfl (L':=L) (by repeat (first|exact List.Sublist.refl _|refine List.Sublist.cons _ ?_)) ⟨hm12,rfl, ?_⟩
     refine ⟨⟨5,(c :: r).take (spanOf lod (c :: r)),0,0⟩,spanOf lod (c :: r),rfl, .inl ?_⟩
     rw [List.drop_zero] at k1
     rw [tokD,if_pos c1,if_neg (by omega),if_pos k1]
   ·repeat (first|refine q1 ?_|refine q3 ?_|refine q4 tab rfl rfl ?_|refine q5 ?_|refine q6 ?_|refine q13 ?_)
    refine TC.condP rfl (fun k2 => ?_) (fun k2 => ?_)
    ·skip
     repeat (first|refine q1 ?_|refine q3 ?_|refine q4 tab rfl rfl ?_)
     (refine TO.step rfl (OT.storeL0 tab 0 rfl rfl rfl rfl rfl rfl rfl rfl ?_))
     repeat (first|refine q4 tab rfl rfl ?_|refine q5 ?_|refine q6 ?_|refine q8 ?_|refine q9 ?_|refine q15 ?_)
     refine retQ_ret_c tab 0 rfl rfl rfl rfl rfl (L':=L) (by repeat (first|exact List.Sublist.refl _|refine List.Sublist.cons _ ?_)) ⟨hm12,rfl, ?_⟩
     refine ⟨⟨0,[],0,0⟩,0,rfl, .inr ⟨?_,rfl⟩⟩
     rw [tokD,if_pos c1,if_pos (by omega)]
    ·repeat (first|refine q1 ?_|refine q3 ?_|refine q4 tab rfl rfl ?_|refine q6 ?_|refine q13 ?_)
     refine TO.step rfl (OT.sub tab 0 (spanOf lod (c :: r)) rfl rfl rfl rfl rfl rfl rfl (.inl ⟨rfl,rfl⟩) (.inr rfl) (Nat.zero_le _) hsl ?_)
     repeat (refine q4 tab rfl rfl ?_)
     (refine TO.step rfl (OT.storeL0 tab 0 rfl rfl rfl rfl rfl rfl rfl rfl ?_))
     repeat (first|refine q4 tab rfl rfl ?_|refine q5 ?_|refine q6 ?_|refine q8 ?_|refine q9 ?_|refine q15 ?_)
     refine retQ_ret_c tab 0 rfl rfl rfl rfl rfl (L':=L) (by repeat (first|exact List.Sublist.refl _|refine List.Sublist.cons _ ?_)) ⟨hm12,rfl, ?_⟩
     refine ⟨⟨1,(c :: r).take (spanOf lod (c :: r)),0,0⟩,spanOf lod (c :: r),rfl, .inl ?_⟩
     rw [List.drop_zero] at k1
     rw [tokD,if_pos c1,if_neg (by omega),if_neg k1]
  ·refine OT.sub tab 0 (spanOf lod (c :: r)) rfl rfl rfl rfl rfl rfl rfl (.inl ⟨rfl,rfl⟩) (.inr rfl) (Nat.zero_le _) hsl ?_
   refine ⟨Mem.le_refl _,_,List.Perm.refl _, ?_⟩
   refine DO.run 0 rfl rfl (by kernel_rfl) rfl ?_
   refine OT.call rfl rfl rfl rfl rfl rfl goes100 ((words_law _ _).x ?_)
   rintro _ m2 _ ⟨hm2,rfl,w,rfl,hw⟩
   refine ⟨hm2,_,List.Perm.refl _, ?_⟩
   refine DO.run 4 rfl rfl (by kernel_rfl) rfl ?_
   refine OT.call rfl rfl rfl rfl rfl rfl goes99 ((contains_str m2 _ w wordL _ hw).x ?_)
   rintro _ _ _ ⟨rfl,rfl,rfl⟩
   refine ⟨Mem.le_refl _,_,List.Perm.refl _, ?_⟩
   refine DO.nil0 (by kernel_rfl) ?_
   refine thenQ_n ?_
   refine (fun (hm12 : m ≤ m2) => ?_) (Mem.le_trans hm1 hm2)
   skip
   refine TC.condP rfl (fun k1 => ?_) (fun k1 => ?_)
   ·repeat (first|refine q1 ?_|refine q3 ?_|refine q4 tab rfl rfl ?_|refine q5 ?_|refine q6 ?_)
    refine TC.condP rfl (fun k2 => ?_) (fun k2 => ?_)
    ·skip
     repeat (first|refine q1 ?_|refine q3 ?_|refine q4 tab rfl rfl ?_)
     (refine TO.step rfl (OT.storeL0 tab 0 rfl rfl rfl rfl rfl rfl rfl rfl ?_))
     repeat (first|refine q4 tab rfl rfl ?_|refine q5 ?_|refine q6 ?_|refine q8 ?_|refine q9 ?_|refine q15 ?_)
     refine retQ_ret_c tab 0 rfl rfl rfl rfl rfl (L':=L) (by repeat (first|exact List.Sublist.refl _|refine List.Sublist.cons _ ?_)) ⟨hm12,rfl, ?_⟩
     refine ⟨⟨0,[],0,0⟩,0,rfl, .inr ⟨?_,rfl⟩⟩
     rw [tokD,if_pos c1,if_pos (by omega)]
    ·repeat (first|refine q1 ?_|refine q3 ?_|refine q4 tab rfl rfl ?_|refine q6 ?_|refine q13 ?_)
     refine TO.step rfl (OT.sub tab 0 (spanOf lod (c :: r)) rfl rfl rfl rfl rfl rfl rfl (.inl ⟨rfl,rfl⟩) (.inr rfl) (Nat.zero_le _) hsl ?_)
     repeat (refine q4 tab rfl rfl ?_)
     (refine TO.step rfl (OT.storeL0 tab 0 rfl rfl rfl rfl rfl rfl rfl rfl ?_))
     repeat (first|refine q4 tab rfl rfl ?_|refine q5 ?_|refine q6 ?_|refine q8 ?_|refine q9 ?_|refine q15 ?_)
     refine retQ_ret_c tab 0 rfl rfl rfl rfl rfl (L':=L) (by repeat (first|exact List.Sublist.refl _|refine List.Sublist.cons _ ?_)) ⟨hm12,rfl, ?_⟩
     refine ⟨⟨5,(c :: r).take (spanOf lod (c :: r)),0,0⟩,spanOf lod (c :: r),rfl, .inl ?_⟩
     rw [List.drop_zero] at k1
     rw [tokD,if_pos c1,if_neg (by omega),if_pos k1]
   ·repeat (first|refine q1 ?_|refine q3 ?_|refine q4 tab rfl rfl ?_|refine q5 ?_|refine q6 ?_|refine q13 ?_)
    refine TC.condP rfl (fun k2 => ?_) (fun k2 => ?_)
    ·skip
     repeat (first|refine q1 ?_|refine q3 ?_|refine q4 tab rfl rfl ?_)
     (refine TO.step rfl (OT.storeL0 tab 0 rfl rfl rfl rfl rfl rfl rfl rfl ?_))
     repeat (first|refine q4 tab rfl rfl ?_|refine q5 ?_|refine q6 ?_|refine q8 ?_|refine q9 ?_|refine q15 ?_)
     refine retQ_ret_c tab 0 rfl rfl rfl rfl rfl (L':=L) (by repeat (first|exact List.Sublist.refl _|refine List.Sublist.cons _ ?_)) ⟨hm12,rfl, ?_⟩
     refine ⟨⟨0,[],0,0⟩,0,rfl, .inr ⟨?_,rfl⟩⟩
     rw [tokD,if_pos c1,if_pos (by omega)]
    ·repeat (first|refine q1 ?_|refine q3 ?_|refine q4 tab rfl rfl ?_|refine q6 ?_|refine q13 ?_)
     refine TO.step rfl (OT.sub tab 0 (spanOf lod (c :: r)) rfl rfl rfl rfl rfl rfl rfl (.inl ⟨rfl,rfl⟩) (.inr rfl) (Nat.zero_le _) hsl ?_)
     repeat (refine q4 tab rfl rfl ?_)
     (refine TO.step rfl (OT.storeL0 tab 0 rfl rfl rfl rfl rfl rfl rfl rfl ?_))
     repeat (first|refine q4 tab rfl rfl ?_|refine q5 ?_|refine q6 ?_|refine q8 ?_|refine q9 ?_|refine q15 ?_)
     refine retQ_ret_c tab 0 rfl rfl rfl rfl rfl (L':=L) (by repeat (first|exact List.Sublist.refl _|refine List.Sublist.cons _ ?_)) ⟨hm12,rfl, ?_⟩
     refine ⟨⟨1,(c :: r).take (spanOf lod (c :: r)),0,0⟩,spanOf lod (c :: r),rfl, .inl ?_⟩
     rw [List.drop_zero] at k1
     rw [tokD,if_pos c1,if_neg (by omega),if_neg k1]
 ·repeat (first|refine q1 ?_|refine q3 ?_|refine q4 tab rfl rfl ?_)
  refine TO.step rfl (OT.sidx tab 0 rfl rfl rfl rfl rfl rfl rfl hx ?_)
  refine TO.step rfl (OT.call rfl rfl rfl rfl rfl rfl goes98 ((digit_law _ _ c).x ?_));
  rintro _ _ _ ⟨rfl,rfl,rfl⟩
  repeat (first|refine q4 tab rfl rfl ?_|refine q5 ?_|refine q6 ?_)
  refine TC.cond rfl (fun c2 => ?_) (fun c2 => ?_)
  ·repeat (first|refine q1 ?_|refine q3 ?_|refine q4 tab rfl rfl ?_)
   refine TO.step rfl (OT.call rfl rfl rfl rfl rfl rfl goes97 ((either_law _ _).x ?_));
   rintro _ m1 _ ⟨hm1,rfl,e1,e2,rfl,hA1,hA2⟩
   skip
   refine TO.step rfl (OT.call rfl rfl rfl rfl rfl rfl goes96 ((span_law m1 _ (c :: r) (by omega) lod 134 _ ⟨goes134,fun b=>either_cl m1 _ b e1 e2 hA1 hA2⟩).x ?_));
   rintro _ _ _ ⟨rfl,rfl,rfl⟩
   repeat (first|refine q1 ?_|refine q3 ?_|refine q4 tab rfl rfl ?_|refine q5 ?_|refine q6 ?_)
   refine TO.step rfl (OT.sub tab 0 (spanOf lod (c :: r)) rfl rfl rfl rfl rfl rfl rfl (.inl ⟨rfl,rfl⟩) (.inr rfl) (Nat.zero_le _) hsl ?_)
   have hp : 0 < spanOf lod (c :: r):=span_pos (by unfold lod;rw [c2];simp)
   have htk : (c :: r).take (spanOf lod (c :: r))=c :: r.take (spanOf lod (c :: r) - 1):=by
    obtain ⟨k,hk⟩ : ∃ k,spanOf lod (c :: r)=k + 1:=⟨spanOf lod (c :: r) - 1,by omega⟩
    rw [hk];rfl
   rw [List.drop_zero]
   have c1' : ¬ ltr c=true:=by rw [c1];decide
   refine TO.step rfl (OT.call rfl rfl rfl rfl rfl rfl goes107 ((parseInt_law _ _ ((c :: r).take (spanOf lod (c :: r))) (by rw [htk];simp) (fun x hx=>by rw [htk] at hx;cases hx;exact c2) (by rw [List.length_take];omega) (hE.mono hm1)).x ?_));
   rintro _ m2 _ ⟨hm2,rfl,⟨v,e1,rfl⟩ | ⟨e1,v,a,b,rfl⟩⟩
   ·repeat (first|refine q1 ?_|refine q3 ?_|refine q4 tab rfl rfl ?_|refine q5 ?_|refine q6 ?_)
    refine TO.step rfl (OT.errNe tab rfl rfl rfl rfl (.inl rfl) rfl rfl ?_)
    repeat (refine q4 tab rfl rfl ?_)
    refine TO.step rfl (OT.sidx tab 0 rfl rfl rfl rfl rfl rfl rfl hx ?_)
    repeat (refine q4 tab rfl rfl ?_)
    (refine TO.splitP rfl rfl (fun c3 => ?_) (fun c3 => ?_))
    ·repeat (refine q4 tab rfl rfl ?_)
     (refine TO.splitP rfl rfl (fun c5 => ?_) (fun c5 => ?_))
     ·skip
      repeat (first|refine q1 ?_|refine q3 ?_|refine q4 tab rfl rfl ?_|refine q5 ?_|refine q6 ?_|refine q16 rfl ?_)
      (refine TO.step rfl (OT.storeL0 tab 0 rfl rfl rfl rfl rfl rfl rfl rfl ?_))
      repeat (first|refine q4 tab rfl rfl ?_|refine q5 ?_|refine q6 ?_|refine q8 ?_|refine q9 ?_|refine q15 ?_)
      refine retQ_ret_c tab 0 rfl rfl rfl rfl rfl (L':=L) (by repeat (first|exact List.Sublist.refl _|refine List.Sublist.cons _ ?_)) ⟨(Mem.le_trans hm1 hm2),rfl, ?_⟩
      refine ⟨⟨0,[],0,0⟩,0,rfl, .inr ⟨?_,rfl⟩⟩
      rw [tokD,if_neg c1',if_pos c2,e1]
      simp only
      rw [if_pos (.inl (by omega))]
     ·skip
      repeat (refine q4 tab rfl rfl ?_)
      refine TO.step rfl (OT.call rfl rfl rfl rfl rfl rfl goes96 ((span_law _ _ (c :: r) (by omega) dgt 98 [] ⟨goes98,fun b=>digit_law _ _ b⟩).x ?_));
      rintro _ _ _ ⟨rfl,rfl,rfl⟩
      repeat (first|refine q4 tab rfl rfl ?_|refine q5 ?_|refine q6 ?_)
      refine TC.condN rfl (fun c4 => ?_) (fun c4 => ?_)
      ·skip
       repeat (first|refine q1 ?_|refine q3 ?_|refine q4 tab rfl rfl ?_)
       (refine TO.step rfl (OT.storeL0 tab 0 rfl rfl rfl rfl rfl rfl rfl rfl ?_))
       repeat (first|refine q4 tab rfl rfl ?_|refine q5 ?_|refine q6 ?_|refine q8 ?_|refine q9 ?_|refine q15 ?_)
       refine retQ_ret_c tab 0 rfl rfl rfl rfl rfl (L':=L) (by repeat (first|exact List.Sublist.refl _|refine List.Sublist.cons _ ?_)) ⟨(Mem.le_trans hm1 hm2),rfl, ?_⟩
       refine ⟨⟨0,[],0,0⟩,0,rfl, .inr ⟨?_,rfl⟩⟩
       rw [tokD,if_neg c1',if_pos c2,e1]
       simp only
       rw [if_pos (.inr (by omega))]
      ·repeat (first|refine q1 ?_|refine q3 ?_|refine q4 tab rfl rfl ?_|refine q6 ?_|refine q13 ?_)
       (refine TO.step rfl (OT.storeL0 tab 0 rfl rfl rfl rfl rfl rfl rfl rfl ?_))
       repeat (first|refine q4 tab rfl rfl ?_|refine q5 ?_|refine q6 ?_|refine q8 ?_|refine q9 ?_|refine q15 ?_)
       refine retQ_ret_c tab 0 rfl rfl rfl rfl rfl (L':=L) (by repeat (first|exact List.Sublist.refl _|refine List.Sublist.cons _ ?_)) ⟨Mem.le_trans hm1 hm2,rfl, ?_⟩
       refine ⟨⟨2,[],v,0⟩,spanOf lod (c :: r),rfl, .inl ?_⟩
       rw [tokD,if_neg c1',if_pos c2,e1]
       simp only
       rw [if_neg (by omega)]
    ·skip
     repeat (refine q4 tab rfl rfl ?_)
     refine TO.step rfl (OT.call rfl rfl rfl rfl rfl rfl goes96 ((span_law _ _ (c :: r) (by omega) dgt 98 [] ⟨goes98,fun b=>digit_law _ _ b⟩).x ?_));
     rintro _ _ _ ⟨rfl,rfl,rfl⟩
     repeat (first|refine q4 tab rfl rfl ?_|refine q5 ?_|refine q6 ?_)
     refine TC.condN rfl (fun c4 => ?_) (fun c4 => ?_)
     ·skip
      repeat (first|refine q1 ?_|refine q3 ?_|refine q4 tab rfl rfl ?_)
      (refine TO.step rfl (OT.storeL0 tab 0 rfl rfl rfl rfl rfl rfl rfl rfl ?_))
      repeat (first|refine q4 tab rfl rfl ?_|refine q5 ?_|refine q6 ?_|refine q8 ?_|refine q9 ?_|refine q15 ?_)
      refine retQ_ret_c tab 0 rfl rfl rfl rfl rfl (L':=L) (by repeat (first|exact List.Sublist.refl _|refine List.Sublist.cons _ ?_)) ⟨(Mem.le_trans hm1 hm2),rfl, ?_⟩
      refine ⟨⟨0,[],0,0⟩,0,rfl, .inr ⟨?_,rfl⟩⟩
      rw [tokD,if_neg c1',if_pos c2,e1]
      simp only
      rw [if_pos (.inr (by omega))]
     ·repeat (first|refine q1 ?_|refine q3 ?_|refine q4 tab rfl rfl ?_|refine q6 ?_|refine q13 ?_)
      (refine TO.step rfl (OT.storeL0 tab 0 rfl rfl rfl rfl rfl rfl rfl rfl ?_))
      repeat (first|refine q4 tab rfl rfl ?_|refine q5 ?_|refine q6 ?_|refine q8 ?_|refine q9 ?_|refine q15 ?_)
      refine retQ_ret_c tab 0 rfl rfl rfl rfl rfl (L':=L) (by repeat (first|exact List.Sublist.refl _|refine List.Sublist.cons _ ?_)) ⟨Mem.le_trans hm1 hm2,rfl, ?_⟩
      refine ⟨⟨2,[],v,0⟩,spanOf lod (c :: r),rfl, .inl ?_⟩
      rw [tokD,if_neg c1',if_pos c2,e1]
      simp only
      rw [if_neg (by omega)]
   ·repeat (first|refine q1 ?_|refine q3 ?_|refine q4 tab rfl rfl ?_|refine q5 ?_|refine q6 ?_)
    refine TO.step rfl (OT.errNe tab rfl rfl rfl rfl (.inr ⟨_,_,rfl⟩) rfl rfl ?_)
    repeat (first|refine q1 ?_|refine q3 ?_|refine q4 tab rfl rfl ?_|refine q5 ?_|refine q6 ?_|refine q16 rfl ?_)
    (refine TO.step rfl (OT.storeL0 tab 0 rfl rfl rfl rfl rfl rfl rfl rfl ?_))
    repeat (first|refine q4 tab rfl rfl ?_|refine q5 ?_|refine q6 ?_|refine q8 ?_|refine q9 ?_|refine q15 ?_)
    refine retQ_ret_c tab 0 rfl rfl rfl rfl rfl (L':=L) (by repeat (first|exact List.Sublist.refl _|refine List.Sublist.cons _ ?_)) ⟨(Mem.le_trans hm1 hm2),rfl, ?_⟩
    refine ⟨⟨0,[],0,0⟩,0,rfl, .inr ⟨?_,rfl⟩⟩
    rw [tokD,if_neg c1',if_pos c2,e1]
  ·repeat (first|refine q1 ?_|refine q3 ?_|refine q4 tab rfl rfl ?_)
   refine TO.step rfl (OT.sidx tab 0 rfl rfl rfl rfl rfl rfl rfl hx ?_)
   repeat (first|refine q4 tab rfl rfl ?_|refine q5 ?_|refine q6 ?_)
   have c1' : ¬ ltr c=true:=by rw [c1];decide
   have c2' : ¬ dgt c=true:=by rw [c2];decide
   refine TC.condP rfl (fun c3 => ?_) (fun c3 => ?_)
   ·repeat (first|refine q1 ?_|refine q3 ?_|refine q4 tab rfl rfl ?_)
    refine TO.step rfl (OT.call rfl rfl rfl rfl rfl rfl goes108 ((literal_law _ _ (c :: r) h0 hl hE).x ?_));
    rintro _ m1 _ ⟨hm1,rfl,rfl⟩
    show TO _ _ _ _ ((_,litR (lit r)) :: _) _ _ _ _
    have hD : tokD (c :: r)=(match lit r with
     | none=>none
     | some (t,n)=>if 1024 < t.length then none else some (⟨3,t,0,0⟩,n + 1)):=by
     rw [tokD,if_neg c1',if_neg c2',if_pos (by omega)]
     try rfl
    rcases hlit : lit r with _ | ⟨t,n⟩
    ·rw [hlit] at hD
     show TO _ _ _ _ ((_, .tuple ⟨[strV [], .int .i64 0]⟩) :: _) _ _ _ _
     repeat (first|refine q1 ?_|refine q3 ?_|refine q4 tab rfl rfl ?_|refine q5 ?_|refine q6 ?_|refine q13 ?_|refine q17 rfl ?_)
     (refine TO.step rfl (OT.storeL0 tab 0 rfl rfl rfl rfl rfl rfl rfl rfl ?_))
     repeat (first|refine q4 tab rfl rfl ?_|refine q5 ?_|refine q6 ?_|refine q8 ?_|refine q9 ?_|refine q15 ?_)
     refine retQ_ret_c tab 0 rfl rfl rfl rfl rfl (L':=L) (by repeat (first|exact List.Sublist.refl _|refine List.Sublist.cons _ ?_)) ⟨hm1,rfl, ?_⟩
     refine ⟨⟨3,[],0,0⟩,0,rfl, .inr ⟨?_,rfl⟩⟩
     rw [hD]
    ·rw [hlit] at hD
     show TO _ _ _ _ ((_, .tuple ⟨[strV t, .int .i64 ((n + 1 : Nat) : Int)]⟩) :: _) _ _ _ _
     repeat (first|refine q1 ?_|refine q3 ?_|refine q4 tab rfl rfl ?_|refine q5 ?_|refine q6 ?_)
     refine TC.condP rfl (fun c4 => ?_) (fun c4 => ?_)
     ·repeat (first|refine q1 ?_|refine q3 ?_|refine q4 tab rfl rfl ?_|refine q5 ?_|refine q6 ?_)
      (refine TO.step rfl (OT.storeL0 tab 0 rfl rfl rfl rfl rfl rfl rfl rfl ?_))
      repeat (first|refine q4 tab rfl rfl ?_|refine q5 ?_|refine q6 ?_|refine q8 ?_|refine q9 ?_|refine q15 ?_)
      refine retQ_ret_c tab 0 rfl rfl rfl rfl rfl (L':=L) (by repeat (first|exact List.Sublist.refl _|refine List.Sublist.cons _ ?_)) ⟨hm1,rfl, ?_⟩
      refine ⟨⟨3,t,0,0⟩,0,rfl, .inr ⟨?_,rfl⟩⟩
      rw [hD]
      simp only
      rw [if_pos (by omega)]
     ·repeat (first|refine q1 ?_|refine q3 ?_|refine q4 tab rfl rfl ?_|refine q6 ?_|refine q13 ?_)
      (refine TO.step rfl (OT.storeL0 tab 0 rfl rfl rfl rfl rfl rfl rfl rfl ?_))
      repeat (first|refine q4 tab rfl rfl ?_|refine q5 ?_|refine q6 ?_|refine q8 ?_|refine q9 ?_|refine q15 ?_)
      refine retQ_ret_c tab 0 rfl rfl rfl rfl rfl (L':=L) (by repeat (first|exact List.Sublist.refl _|refine List.Sublist.cons _ ?_)) ⟨hm1,rfl, ?_⟩
      refine ⟨⟨3,t,0,0⟩,n + 1,rfl, .inl ?_⟩
      rw [hD]
      simp only
      rw [if_neg (by omega)]
   ·repeat (first|refine q1 ?_|refine q3 ?_|refine q6 ?_|refine q7 ?_|refine q13 ?_)
    refine TO.step rfl (OT.call rfl rfl rfl rfl rfl rfl goes109 ((marks_law _ _).x ?_));
    rintro _ m1 _ ⟨hm1,rfl,w,rfl,hw⟩
    repeat (first|refine q2 ?_|refine q4 tab rfl rfl ?_|refine q5 ?_|refine q6 ?_)
    have hwl : w.len=27:=hw.len
    rw [hwl]
    have hD : tokD (c :: r)=(match markL.find? (fun p=>prefixB p (c :: r)) with
     | none=>none
     | some p=>some (⟨4,p,0,0⟩,p.length)):=by
     rw [tokD,if_neg c1',if_neg c2',if_neg (by omega)]
     try rfl
    refine TC.loopK (ι:=Nat) [0,2,84,85] rfl (fun k=>[(86, .int .i64 (k : Int))]) (fun _=>m1) (fun _ => .cells b2 0 (tokC ⟨0,[],0,0⟩) :: L) (fun k=>k ≤ 27∧markL.find? (fun p=>prefixB p (c :: r))=(markL.drop k).find? (fun p=>prefixB p (c :: r))) (fun k=>27 - k) 0 (by repeat (first|exact trivial|refine And.intro rfl ?_)) rfl (by repeat (exact List.Sublist.refl _)) ⟨Nat.zero_le _,rfl⟩ ?_
    rintro k ⟨hk,hI⟩
    have hml : markL.length=27:=rfl
    repeat (first|refine q1 ?_|refine q3 ?_|refine q4 tab rfl rfl ?_|refine q5 ?_|refine q6 ?_)
    refine TC.condP rfl (fun g1 => ?_) (fun g1 => ?_)
    ·have hlt : k < markL.length:=by omega
     have hx : markL[k]? = some markL[k]:=by simp [hlt]
     repeat (first|refine q1 ?_|refine q2 ?_|refine q3 ?_|refine q6 ?_|refine q13 ?_)
     refine TO.step rfl (OT.index tab rStr k hw rfl rfl rfl rfl rfl (by first | rfl | omega | (simp only;omega)) rfl hx ?_)
     rintro b i hd rfl hA
     (refine TO.step rfl (OT.loadA0 tab hA rfl rfl rfl rfl rfl ?_))
     repeat (first|refine q1 ?_|refine q3 ?_|refine q4 tab rfl rfl ?_|refine q5 ?_|refine q6 ?_)
     refine TO.step rfl (OT.call rfl rfl rfl rfl rfl rfl goes106 ((prefix_law _ _ (c :: r) markL[k]).x ?_));
     rintro _ _ _ ⟨rfl,rfl,rfl⟩
     repeat (first|refine q5 ?_|refine q6 ?_)
     refine TC.cond rfl (fun g2 => ?_) (fun g2 => ?_)
     ·repeat (first|refine q1 ?_|refine q3 ?_|refine q4 tab rfl rfl ?_)
      (refine TO.step rfl (OT.storeL0 tab 0 rfl rfl rfl rfl rfl rfl rfl rfl ?_))
      repeat (first|refine q4 tab rfl rfl ?_|refine q5 ?_|refine q6 ?_|refine q8 ?_|refine q9 ?_|refine q15 ?_)
      refine retQ_ret_c tab 0 rfl rfl rfl rfl rfl (L':=L) (by repeat (first|exact List.Sublist.refl _|refine List.Sublist.cons _ ?_)) ⟨hm1,rfl, ?_⟩
      refine ⟨⟨4,markL[k],0,0⟩,markL[k].length,rfl, .inl ?_⟩
      rw [hD,hI,List.drop_eq_getElem_cons hlt,List.find?_cons_of_pos (p:=fun p=>prefixB p (c :: r)) g2]
     ·repeat (first|refine q3 ?_|refine q6 ?_|refine q7 ?_|refine q13 ?_)
      refine TO.step rfl (OT.arith (r':=((k + 1 : Nat) : Int)) rfl rfl rfl rfl rfl rfl rfl (by omega) ?_)
      repeat (first|refine q4 tab rfl rfl ?_|refine q5 ?_|refine q6 ?_)
      exact ⟨k + 1,(by repeat (first|exact trivial|refine And.intro rfl ?_)),(by repeat (first|exact trivial|refine And.intro rfl ?_)),rfl,rfl,(by repeat (exact List.Sublist.refl _)),⟨by omega,by rw [hI,List.drop_eq_getElem_cons hlt,List.find?_cons_of_neg (p:=fun p=>prefixB p (c :: r)) (by show ¬ prefixB markL[k] (c :: r)=true;rw [g2];decide)]⟩,by omega⟩
    ·skip
     repeat (first|refine q1 ?_|refine q3 ?_|refine q4 tab rfl rfl ?_|refine q6 ?_|refine q10 ?_|refine q11 ?_|refine q14 ?_)
     (refine TO.step rfl (OT.storeL0 tab 0 rfl rfl rfl rfl rfl rfl rfl rfl ?_))
     repeat (first|refine q4 tab rfl rfl ?_|refine q5 ?_|refine q6 ?_|refine q15 ?_)
     refine retQ_ret_c tab 0 rfl rfl rfl rfl rfl (L':=L) (by repeat (first|exact List.Sublist.refl _|refine List.Sublist.cons _ ?_)) ⟨hm1,rfl, ?_⟩
     refine ⟨⟨0,[],0,0⟩,0,rfl, .inr ⟨?_,rfl⟩⟩
     rw [hD,hI,List.drop_eq_nil_of_le (by omega)]
     rfl
end Go.Sep


/- ScScanW -/
set_option linter.unusedVariables false
set_option linter.unusedSimpArgs false
namespace Go.Sep
open Go.Proofs
attribute [local irreducible] TC TO OT TCallX TCall DO DOt thenQ blockQ retQ At
def rTok : R Tok Tok where
 size:=4
 bytes:=40
 enc t:=tokC t
 rep _ h a:=h=a
 enc_len _:=rfl
 one _:=rfl
 mono _ h:=h
def joinE (l : List Tok) : Except (Nat × Int) (List Tok)→Except (Nat × Int) (List Tok)
 | .error e => .error e
 | .ok l' => .ok (l++l')
def CutAt (s : Str) (at_ : Nat) (l : List Tok) (res : Except (Nat × Int) (List Tok)) : Prop := ∃ f,s.length < at_ + f∧res=joinE l (cutF f (s.drop at_) at_ l.length)
theorem CutAt.start (s : Str) : CutAt s 0 [] (cutF (s.length + 1) s 0 0):=by
 refine ⟨s.length + 1,by omega, ?_⟩
 rw [List.drop_zero]
 show _=joinE [] (cutF (s.length + 1) s 0 0)
 cases cutF (s.length + 1) s 0 0 <;> rfl
section
variable {s : Str} {a : Nat} {l : List Tok} {res : Except (Nat × Int) (List Tok)}
theorem CutAt.pos (h : CutAt s a l res) (ha : a ≤ s.length) : ∃ f,s.length < a + (f + 1)∧res=joinE l (cutF (f + 1) (s.drop a) a l.length):=by
 obtain ⟨f,h1,h2⟩:=h
 cases f with
 | zero=>omega
 | succ f=>exact ⟨f,h1,h2⟩
theorem CutAt.end_ (h : CutAt s a l res) (ha : a ≤ s.length) (hb : a + blk false (s.drop a)=s.length) : res = .ok l:=by
 obtain ⟨f,h1,h2⟩:=h.pos ha
 rw [h2,cutF,List.drop_drop,List.drop_eq_nil_of_le (by omega),if_pos rfl]
 simp [joinE]
theorem drop_ne {s : Str} {k : Nat} (h : k < s.length) : s.drop k ≠ []:=fun e=>by
 have:=congrArg List.length e
 simp at this
 omega
theorem CutAt.large (h : CutAt s a l res) (ha : a ≤ s.length) (hb : a + blk false (s.drop a) < s.length) (hl : l.length=20000) : res = .error (a + blk false (s.drop a),4):=by
 obtain ⟨f,h1,h2⟩:=h.pos ha
 rw [h2,cutF,List.drop_drop,if_neg (drop_ne hb),if_pos hl];rfl
theorem CutAt.text (h : CutAt s a l res) (ha : a ≤ s.length) (hb : a + blk false (s.drop a) < s.length) (hl : l.length ≠ 20000) (ht : tokD (s.drop (a + blk false (s.drop a)))=none) : res = .error (a + blk false (s.drop a),3):=by
 obtain ⟨f,h1,h2⟩:=h.pos ha
 rw [h2,cutF,List.drop_drop,if_neg (drop_ne hb),if_neg hl,ht];rfl
theorem CutAt.go (h : CutAt s a l res) (ha : a ≤ s.length) (hb : a + blk false (s.drop a) < s.length) (hl : l.length ≠ 20000) {t : Tok} {n : Nat} (ht : tokD (s.drop (a + blk false (s.drop a)))=some (t,n)) :
  CutAt s (a + blk false (s.drop a) + n) (l++[⟨t.kind,t.text,t.num,((a + blk false (s.drop a) : Nat) : Int)⟩]) res:=by
 obtain ⟨f,h1,h2⟩:=h.pos ha
 have hn:=(tokD_le ht).1
 refine ⟨f,by omega, ?_⟩
 rw [h2,cutF,List.drop_drop,if_neg (drop_ne hb),if_neg hl,ht]
 simp only [List.drop_drop,List.length_append,List.length_cons,List.length_nil]
 cases cutF f (s.drop (a + blk false (s.drop a) + n)) (a + blk false (s.drop a) + n) (l.length + 1) with
 | error e=>rfl
 | ok l'=>simp [joinE]
end
structure ScanS where
 m : Mem
 sl : Sl
 l : List Tok
 a : Nat
def ScanR (c : Cut) (r : Value) (m' : Mem) : Prop := ∃ sl : Sl,r = .tuple ⟨[sl.v, .int .i64 ((c.at_ : Nat) : Int), .int .i64 c.e]⟩ ∧ SlRep rTok m' sl c.list
set_option maxHeartbeats 1000000 in
theorem scan_law (m : Mem) (L : List Item) (s : Str) (hE : Errs m) : TCall Tryz.prog 29 ⟨[strV s]⟩ m L (Made m L fun r m'=>ScanR (scanD s) r m'):=by
 unfold TCall
 refine TCallX.enter Tryz.func29 rfl 44 rfl ?_
 repeat (first|refine q1 ?_|refine q3 ?_|refine q4 tab rfl rfl ?_|refine q5 ?_|refine q6 ?_)
 refine TC.condP rfl (fun c0 => ?_) (fun c0 => ?_)
 ·repeat (first|refine q1 ?_|refine q3 ?_|refine q4 tab rfl rfl ?_|refine q5 ?_|refine q6 ?_|refine q8 ?_|refine q15 ?_)
  refine retQ_ret rfl (by repeat (exact List.Sublist.refl _)) ⟨Mem.le_refl _,rfl, ?_⟩
  rw [scanD,if_pos (by omega)]
  exact ⟨⟨none,0,0⟩,rfl,SlRep.nil _ _⟩
 have hl : s.length ≤ 65536:=by omega
 have hD : scanD s = .of (cutF (s.length + 1) s 0 0):=by rw [scanD,if_neg (by omega)]
 repeat (first|refine q2 ?_|refine q6 ?_|refine q13 ?_)
 refine TC.grow0 (size:=4) ?_
 refine TC.loopK (ι:=ScanS) [0] rfl (fun x=>[(2,x.sl.v),(3, .int .i64 (x.a : Int))]) (fun x=>x.m) (fun x=>tok x.sl 4 :: L) (fun x=>m ≤ x.m∧x.a ≤ s.length∧SlRep rTok x.m x.sl x.l∧Own x.sl∧x.l.length ≤ 20000∧CutAt s x.a x.l (cutF (s.length + 1) s 0 0)) (fun x=>s.length - x.a) ⟨m,⟨none,0,0⟩,[],0⟩ (by repeat (first|exact trivial|refine And.intro rfl ?_)) rfl (by repeat (exact List.Sublist.refl _)) ⟨Mem.le_refl _,Nat.zero_le _,SlRep.nil _ _,Own.nil,Nat.zero_le _,CutAt.start s⟩ ?_
 rintro ⟨m1,sl,l,a⟩ ⟨hm,ha,hsl,hown,hll,hI⟩
 replace hm : m ≤ m1:=hm
 replace ha : a ≤ s.length:=ha
 replace hsl : SlRep rTok m1 sl l:=hsl
 replace hown : Own sl:=hown
 replace hll : l.length ≤ 20000:=hll
 replace hI : CutAt s a l (cutF (s.length + 1) s 0 0):=hI
 show TC _ _ _ ((2,sl.v) :: (3, .int .i64 (a : Int)) :: _) _ m1 (tok sl 4 :: L) _
 have hlen:=hsl.len
 have hb:=blk_le false (s.drop a)
 rw [List.length_drop] at hb
 repeat (first|refine q1 ?_|refine q2 ?_|refine q3 ?_|refine q4 tab rfl rfl ?_)
 refine TO.step rfl (OT.sub tab a s.length rfl rfl rfl rfl rfl rfl rfl (.inr rfl) (.inl ⟨rfl,rfl⟩) (by omega) (by omega) ?_)
 rw [List.take_length]
 refine TO.step rfl (OT.call rfl rfl rfl rfl rfl rfl goes59 ((blank_law _ _ (s.drop a) (by rw [List.length_drop];omega)).x ?_));
 rintro _ _ _ ⟨rfl,rfl,rfl⟩
 skip
 refine TO.step rfl (OT.arith (r':=((a + blk false (s.drop a) : Nat) : Int)) rfl rfl rfl rfl rfl rfl rfl (by omega) ?_)
 repeat (first|refine q1 ?_|refine q3 ?_|refine q4 tab rfl rfl ?_|refine q5 ?_|refine q6 ?_)
 refine TC.condP rfl (fun c1 => ?_) (fun c1 => ?_)
 ·repeat (first|refine q1 ?_|refine q3 ?_|refine q4 tab rfl rfl ?_|refine q5 ?_|refine q6 ?_|refine q8 ?_|refine q9 ?_|refine q15 ?_)
  refine retQ_ret rfl (by repeat (first|exact List.Sublist.refl _|refine List.Sublist.cons _ ?_)) ⟨hm,rfl, ?_⟩
  rw [hD,hI.end_ ha (by omega)]
  exact ⟨sl,rfl,hsl⟩
 repeat (first|refine q1 ?_|refine q3 ?_|refine q4 tab rfl rfl ?_|refine q5 ?_|refine q6 ?_|refine q13 ?_)
 refine TC.condP rfl (fun c2 => ?_) (fun c2 => ?_)
 ·repeat (first|refine q1 ?_|refine q3 ?_|refine q4 tab rfl rfl ?_|refine q5 ?_|refine q6 ?_|refine q8 ?_|refine q9 ?_|refine q15 ?_)
  refine retQ_ret rfl (by repeat (first|exact List.Sublist.refl _|refine List.Sublist.cons _ ?_)) ⟨hm,rfl, ?_⟩
  rw [hD,hI.large ha (by omega) (by omega)]
  exact ⟨⟨none,0,0⟩,rfl,SlRep.nil _ _⟩
 repeat (first|refine q1 ?_|refine q3 ?_|refine q4 tab rfl rfl ?_|refine q6 ?_|refine q13 ?_)
 refine TO.step rfl (OT.sub tab (a + blk false (s.drop a)) s.length rfl rfl rfl rfl rfl rfl rfl (.inr rfl) (.inl ⟨rfl,rfl⟩) (by omega) (by omega) ?_)
 rw [List.take_length]
 refine TO.step rfl (OT.call rfl rfl rfl rfl rfl rfl goes60 ((next_law _ _ (s.drop (a + blk false (s.drop a))) (by rw [List.length_drop];omega) (by rw [List.length_drop];omega) (hE.mono hm)).x ?_));
 rintro _ m2 _ ⟨hm2,rfl,t,n,rfl,hn⟩
 repeat (refine q4 tab rfl rfl ?_)
 refine TO.step rfl (OT.alloc tab rfl rfl rfl rfl (fun b5 => ?_))
 skip
 (refine TO.step rfl (OT.storeL0 tab 0 rfl rfl rfl rfl rfl rfl rfl rfl ?_))
 repeat (first|refine q1 ?_|refine q3 ?_|refine q4 tab rfl rfl ?_|refine q5 ?_|refine q6 ?_)
 rcases hn with hn | ⟨hn,rfl⟩
 ·have hnl:=tokD_le hn
  rw [List.length_drop] at hnl
  refine TC.condP rfl (fun c3 => ?_) (fun c3 => ?_)
  ·omega
  repeat (first|refine q1 ?_|refine q3 ?_|refine q4 tab rfl rfl ?_|refine q6 ?_|refine q13 ?_)
  (refine TO.step rfl (OT.storeL tab 0 rfl rfl rfl rfl rfl rfl rfl rfl ?_))
  repeat (first|refine q1 ?_|refine q3 ?_|refine q4 tab rfl rfl ?_|refine q5 ?_|refine q6 ?_)
  (refine qs rfl (qz tab 0 rfl rfl rfl rfl rfl rfl ?_))
  skip
  refine TO.step rfl (OT.lit tab rfl rfl rfl rfl (fun b => ?_))
  refine TO.step rfl (OT.append1 tab rTok 1 (hd':=⟨t.kind,t.text,t.num,((a + blk false (s.drop a) : Nat) : Int)⟩) (a:=⟨t.kind,t.text,t.num,((a + blk false (s.drop a) : Nat) : Int)⟩) (hsl.mono hm2) hown rfl rfl rfl rfl rfl rfl rfl rfl (by show (l.length + 1) * 40 ≤ _;omega) (fun s' m3 hm3 hs3 ho3 => ?_))
  repeat (first|refine q3 ?_|refine q4 tab rfl rfl ?_|refine q5 ?_|refine q6 ?_)
  refine TO.step rfl (OT.arith (r':=((a + blk false (s.drop a) + n : Nat) : Int)) rfl rfl rfl rfl rfl rfl rfl (by omega) ?_)
  repeat (first|refine q4 tab rfl rfl ?_|refine q5 ?_|refine q6 ?_|refine q7 ?_)
  exact ⟨⟨m3,s',l++[⟨t.kind,t.text,t.num,((a + blk false (s.drop a) : Nat) : Int)⟩],a + blk false (s.drop a) + n⟩,(by repeat (first|exact trivial|refine And.intro rfl ?_)),(by repeat (first|exact trivial|refine And.intro rfl ?_)),rfl,rfl,(by repeat (first|exact List.Sublist.refl _|refine List.Sublist.cons _ ?_)),⟨Mem.le_trans hm (Mem.le_trans hm2 hm3),by show _ + n ≤ _;omega,hs3,ho3,by show (l++[_]).length ≤ _;rw [List.length_append];simp only [List.length_cons,List.length_nil];omega,hI.go ha (by omega) (by omega) hn⟩,by show s.length - (_ + n) < s.length - a;omega⟩
 ·repeat (first|refine q1 ?_|refine q3 ?_|refine q4 tab rfl rfl ?_|refine q5 ?_|refine q6 ?_|refine q8 ?_|refine q9 ?_|refine q15 ?_|refine q16 rfl ?_)
  refine retQ_ret rfl (by repeat (first|exact List.Sublist.refl _|refine List.Sublist.cons _ ?_)) ⟨Mem.le_trans hm hm2,rfl, ?_⟩
  rw [hD,hI.text ha (by omega) (by omega) hn]
  exact ⟨⟨none,0,0⟩,rfl,SlRep.nil _ _⟩
end Go.Sep


/- ScAhead -/
set_option linter.unusedVariables false
set_option linter.unusedSimpArgs false
namespace Go.Sep
theorem blk_take : ∀ (b : Bool) (r : Str) (j : Nat),blk b r ≤ j→blk b (r.take j)=blk b r
 | _,[],j,_=>by simp [blk]
 | true,c :: r,0,h=>by
  rw [blk] at h
  split at h <;> omega
 | true,c :: r,j + 1,h=>by
  rw [List.take_succ_cons,blk,blk]
  rw [blk] at h
  split at h
  ·rename_i hc
   rw [if_pos hc,if_pos hc,blk_take false r j (by omega)]
  ·rename_i hc
   rw [if_neg hc,if_neg hc,blk_take true r j (by omega)]
 | false,c :: r,0,h=>by
  have : blk false (c :: r)=0:=by omega
  rw [this];rfl
 | false,c :: r,j + 1,h=>by
  rw [List.take_succ_cons,blk,blk]
  rw [blk] at h
  split at h
  ·rename_i hc
   rw [if_pos hc,if_pos hc,blk_take false r j (by omega)]
  ·rename_i hc
   rw [if_neg hc,if_neg hc]
   split at h
   ·rename_i h2
    have hj : 1 ≤ j:=by
     cases r with
     | nil=>cases h2.2
     | cons x r =>
      have hx : x=47:=by have:=h2.2;simpa using this
      subst hx
      rw [blk,if_neg (by decide)] at h
      omega
    have hh : (r.take j).head? = r.head?:=by
     cases r with
     | nil=>simp
     | cons x r =>
      obtain ⟨i,rfl⟩ : ∃ i,j=i + 1:=⟨j - 1,by omega⟩
      simp
    rw [hh,if_pos h2,if_pos h2,blk_take true r j (by omega)]
   ·rename_i h2
    rw [if_neg h2,if_neg]
    rintro ⟨h3,h4⟩
    refine h2 ⟨h3, ?_⟩
    cases j with
    | zero=>simp at h4
    | succ i =>
     cases r with
     | nil=>simp at h4
     | cons x r=>simpa using h4
theorem takeWhile_take (p : UInt8→Bool) : ∀ (s : Str) (j : Nat),(s.takeWhile p).length ≤ j→((s.take j).takeWhile p).length=(s.takeWhile p).length
 | [],j,_=>by simp
 | c :: r,0,h=>by
  rw [List.takeWhile_cons] at h ⊢
  split at h
  ·simp at h
  ·rename_i hc
   rw [if_neg hc];rfl
 | c :: r,j + 1,h=>by
  rw [List.take_succ_cons,List.takeWhile_cons,List.takeWhile_cons]
  rw [List.takeWhile_cons] at h
  split
  ·rename_i hc
   rw [if_pos hc] at h
   simp only [List.length_cons] at h ⊢
   rw [takeWhile_take p r j (by omega)]
  ·rfl
theorem span_take {p : UInt8→Bool} {s : Str} {j : Nat} (h : spanOf p s ≤ j) : spanOf p (s.take j)=spanOf p s:=takeWhile_take p s j h
theorem escX_take {r : Str} {b : UInt8} {n j : Nat} (h : escX r=some (b,n)) (hj : n ≤ j + 1) : escX (r.take j)=some (b,n):=by
 match r,h with
 | x :: y :: r',h =>
  have h' : (hexB x y).map (fun z=>(z,3))=some (b,n):=h
  have hn : n=3:=by
   cases hx : hexB x y with
   | none=>rw [hx] at h';cases h'
   | some z=>rw [hx] at h';cases h';rfl
  obtain ⟨i,rfl⟩ : ∃ i,j=i + 2:=⟨j - 2,by omega⟩
  exact h
theorem escB_take {r : Str} {b : UInt8} {n j : Nat} (h : escB r=some (b,n)) (hj : n ≤ j) : escB (r.take j)=some (b,n):=by
 have hp:=escB_pos h
 cases r with
 | nil=>cases h
 | cons c r =>
  obtain ⟨i,rfl⟩ : ∃ i,j=i + 1:=⟨j - 1,by omega⟩
  rw [List.take_succ_cons]
  rw [escB] at h ⊢
  by_cases h1 : c.toNat=110
  ·rw [if_pos h1] at h ⊢;exact h
  ·rw [if_neg h1] at h ⊢
   by_cases h2 : c.toNat=116
   ·rw [if_pos h2] at h ⊢;exact h
   ·rw [if_neg h2] at h ⊢
    by_cases h3 : c.toNat=34 ∨ c.toNat=92
    ·rw [if_pos h3] at h ⊢;exact h
    ·rw [if_neg h3] at h ⊢
     by_cases h4 : c.toNat=120
     ·rw [if_pos h4] at h ⊢;exact escX_take h hj
     ·rw [if_neg h4] at h;cases h
theorem lit_take : ∀ (N : Nat) (r t : Str) (n j : Nat),r.length < N→lit r=some (t,n)→n ≤ j→lit (r.take j)=some (t,n)
 | 0,_,_,_,_,h,_,_=>by omega
 | N + 1,[],_,_,_,_,h,_=>by cases h
 | N + 1,c :: r,t,n,j,hN,h,hj=>by
  have hp:=lit_le h
  simp only [List.length_cons] at hN
  obtain ⟨i,rfl⟩ : ∃ i,j=i + 1:=⟨j - 1,by omega⟩
  rw [List.take_succ_cons]
  by_cases h1 : c.toNat=34
  ·rw [lit_quote h1] at h ⊢;exact h
  by_cases h2 : c.toNat=10
  ·rw [lit_nl h2] at h;cases h
  by_cases h3 : c.toNat=92
  ·cases he : escB r with
   | none=>rw [lit_esc_none h3 he] at h;cases h
   | some p =>
    obtain ⟨b,k⟩:=p
    rw [lit_esc_some h3 he] at h
    cases hl : lit (r.drop k) with
    | none=>rw [hl] at h;cases h
    | some q =>
     obtain ⟨t',n'⟩:=q
     rw [hl] at h
     simp only [Option.map_some,Option.some.injEq,Prod.mk.injEq] at h
     have hk:=escB_pos he
     have he':=escB_take (j:=i) he (by omega)
     rw [lit_esc_some h3 he',List.drop_take,lit_take N (r.drop k) t' n' (i - k) (by rw [List.length_drop];omega) hl (by omega)]
     simp only [Option.map_some,Option.some.injEq,Prod.mk.injEq]
     exact h
  ·cases hl : lit r with
   | none=>rw [lit_one h1 h2 h3,hl] at h;cases h
   | some q =>
    obtain ⟨t',n'⟩:=q
    rw [lit_one h1 h2 h3,hl] at h
    simp only [Option.map_some,Option.some.injEq,Prod.mk.injEq] at h
    rw [lit_one h1 h2 h3,lit_take N r t' n' i (by omega) hl (by omega)]
    simp only [Option.map_some,Option.some.injEq,Prod.mk.injEq]
    exact h
theorem prefixB_iff {p s : Str} : prefixB p s=true ↔ p.length ≤ s.length∧s.take p.length=p:=by
 unfold prefixB
 rw [Bool.and_eq_true,decide_eq_true_iff,decide_eq_true_iff]
theorem find_take {s p : Str} {j : Nat} (hj : p.length ≤ j) : ∀ l : List Str,l.find? (fun q=>prefixB q s)=some p→l.find? (fun q=>prefixB q (s.take j))=some p
 | [],h=>by cases h
 | q :: l,h=>by
  by_cases hq : prefixB q s=true
  ·rw [List.find?_cons_of_pos (p:=fun q=>prefixB q s) hq] at h
   cases h
   refine List.find?_cons_of_pos (p:=fun q=>prefixB q (s.take j)) (prefixB_iff.2 ?_)
   obtain ⟨h1,h2⟩:=prefixB_iff.1 hq
   refine ⟨by rw [List.length_take];omega, ?_⟩
   rw [List.take_take,Nat.min_eq_left hj];exact h2
  ·rw [List.find?_cons_of_neg (p:=fun q=>prefixB q s) hq] at h
   rw [List.find?_cons_of_neg (p:=fun q=>prefixB q (s.take j))]
   ·exact find_take hj l h
   ·intro h3
    obtain ⟨h1,h2⟩:=prefixB_iff.1 h3
    rw [List.length_take] at h1
    rw [List.take_take,Nat.min_eq_left (by omega)] at h2
    exact hq (prefixB_iff.2 ⟨by omega,h2⟩)
theorem tokD_take {s : Str} {t : Tok} {n j : Nat} (h : tokD s=some (t,n)) (hj : n ≤ j) : tokD (s.take j)=some (t,n):=by
 have hp:=tokD_le h
 cases s with
 | nil=>cases h
 | cons c r =>
  obtain ⟨i,rfl⟩ : ∃ i,j=i + 1:=⟨j - 1,by omega⟩
  have hts : (c :: r).take (i + 1)=c :: r.take i:=rfl
  by_cases h1 : ltr c=true
  ·have hn : n=spanOf lod (c :: r):=by
    rw [tokD,if_pos h1] at h
    split at h
    ·cases h
    ·cases h;rfl
   have hsp : spanOf lod ((c :: r).take (i + 1))=spanOf lod (c :: r):=span_take (by omega)
   have htt : ((c :: r).take (i + 1)).take (spanOf lod (c :: r))=(c :: r).take (spanOf lod (c :: r)):=by rw [List.take_take,Nat.min_eq_left (by omega)]
   rw [hts] at hsp htt ⊢
   rw [tokD,if_pos h1] at h ⊢
   rw [hsp,htt];exact h
  ·by_cases h2 : dgt c=true
   ·have hn : n=spanOf lod (c :: r)∧spanOf dgt (c :: r)=spanOf lod (c :: r):=by
     rw [tokD,if_neg h1,if_pos h2] at h
     split at h
     ·cases h
     ·split at h
      ·cases h
      ·rename_i h3
       cases h;exact ⟨rfl,by omega⟩
    have hsp : spanOf lod ((c :: r).take (i + 1))=spanOf lod (c :: r):=span_take (by omega)
    have hsd : spanOf dgt ((c :: r).take (i + 1))=spanOf dgt (c :: r):=span_take (by omega)
    have htt : ((c :: r).take (i + 1)).take (spanOf lod (c :: r))=(c :: r).take (spanOf lod (c :: r)):=by rw [List.take_take,Nat.min_eq_left (by omega)]
    rw [hts] at hsp hsd htt ⊢
    rw [tokD,if_neg h1,if_pos h2] at h ⊢
    rw [hsp,hsd,htt];exact h
   ·by_cases h3 : c.toNat=34
    ·rw [hts]
     rw [tokD,if_neg h1,if_neg h2,if_pos h3] at h ⊢
     cases hl : lit r with
     | none=>rw [hl] at h;cases h
     | some q =>
      obtain ⟨t',n'⟩:=q
      rw [hl] at h
      simp only at h
      have hn : n=n' + 1:=by
       split at h
       ·cases h
       ·cases h;rfl
      rw [lit_take (r.length + 1) r t' n' i (by omega) hl (by omega)]
      exact h
    ·rw [tokD,if_neg h1,if_neg h2,if_neg h3] at h
     cases hf : markL.find? (fun p=>prefixB p (c :: r)) with
     | none=>rw [hf] at h;cases h
     | some p =>
      rw [hf] at h
      have hn : n=p.length:=by cases h;rfl
      have:=find_take (s:=c :: r) (p:=p) (j:=i + 1) (by omega) markL hf
      rw [hts] at this ⊢
      rw [tokD,if_neg h1,if_neg h2,if_neg h3,this]
      exact h
theorem cutF_take : ∀ (f : Nat) (r : Str) (at_ k a : Nat),cutF f r at_ k = .error (a,3)→r.length < f→at_ ≤ a∧a - at_ < r.length ∧ ∀ g,a - at_ < g → ∃ l,cutF g (r.take (a - at_)) at_ k = .ok l
 | 0,r,at_,k,a,h,hf=>by omega
 | f + 1,r,at_,k,a,h,hf=>by
  have hb:=blk_le false r
  rw [cutF] at h
  by_cases h1 : r.drop (blk false r)=[]
  ·rw [if_pos h1] at h;cases h
  ·rw [if_neg h1] at h
   have hlt : blk false r < r.length:=by
    refine Nat.lt_of_not_le fun hge=>h1 (List.drop_eq_nil_of_le hge)
   by_cases h2 : k=20000
   ·rw [if_pos h2] at h
    cases h
   ·rw [if_neg h2] at h
    cases ht : tokD (r.drop (blk false r)) with
    | none =>
     rw [ht] at h
     simp only [Except.error.injEq,Prod.mk.injEq,and_true] at h
     subst h
     refine ⟨by omega,by omega,fun g hg => ?_⟩
     rw [show at_ + blk false r - at_=blk false r by omega]
     cases g with
     | zero=>omega
     | succ g =>
      refine ⟨[], ?_⟩
      rw [cutF,blk_take false r _ (Nat.le_refl _),List.drop_eq_nil_of_le (by rw [List.length_take];omega),if_pos rfl]
    | some p =>
     obtain ⟨t,n⟩:=p
     rw [ht] at h
     simp only at h
     have hn:=tokD_le ht
     rw [List.length_drop] at hn
     cases hc : cutF f ((r.drop (blk false r)).drop n) (at_ + blk false r + n) (k + 1) with
     | ok l=>rw [hc] at h;cases h
     | error e =>
      rw [hc] at h
      simp only [Except.error.injEq] at h
      subst h
      obtain ⟨g1,g2,g3⟩:=cutF_take f _ _ _ _ hc (by rw [List.length_drop,List.length_drop];omega)
      rw [List.length_drop,List.length_drop] at g2
      refine ⟨by omega,by omega,fun g hg => ?_⟩
      cases g with
      | zero=>omega
      | succ g =>
       have hd : (r.take (a - at_)).drop (blk false r)=(r.drop (blk false r)).take (a - at_ - blk false r):=List.drop_take ..
       obtain ⟨l,hl⟩:=g3 g (by omega)
       have ht':=tokD_take (j:=a - at_ - blk false r) ht (by omega)
       refine ⟨⟨t.kind,t.text,t.num,((at_ + blk false r : Nat) : Int)⟩ :: l, ?_⟩
       rw [cutF,blk_take false r _ (by omega),hd,if_neg,if_neg h2,ht']
       ·simp only
        rw [List.drop_take,show a - at_ - blk false r - n=a - (at_ + blk false r + n) by omega,hl]
       ·intro e
        rw [e] at ht'
        cases ht'
end Go.Sep


/- SepZb -/
set_option linter.unusedVariables false
set_option linter.unusedSimpArgs false
namespace Go.Sep
section
variable {P : Program} {N : Nat} {ρ : Env} {D : List Deferred} {m : Mem} {L : List Item} {Q : EPost} {full : List Oper} {o : Oper} {K : Env→Mem→List Item→Prop}
theorem OT.freeze {b off : Nat} {vs : List Value} (h : ∀ m',m ≤ m' → At m' b off vs→OT P N o ρ D m' L Q K) : OT P N o ρ D m (.cells b off vs :: L) Q K:=by
 intro a w ha
 obtain ⟨h1,h2,h3⟩:=ha.st.freeze
 exact h _ h1 h2 a w ⟨ha.size,ha.env,ha.defers,h3⟩
theorem u8_and15 (a : Nat) (ha : a < 256) : IntKind.wrap .u8 (((BitVec.ofInt 8 (a : Int)) &&& (BitVec.ofInt 8 15)).toNat : Int)=((a % 16 : Nat) : Int):=by
 have:=(by decide +kernel : ∀ n : Fin 256,IntKind.wrap .u8 (((BitVec.ofInt 8 (n.val : Int)) &&& (BitVec.ofInt 8 15)).toNat : Int)=((n.val % 16 : Nat) : Int)) ⟨a,ha⟩
 exact this
theorem OT.and15 {t t' : TypeId} {x y : Operand} {a : Nat} {d : Nat} (ho : o.op = .binOp .and t x y t') (hd : o.dst=some d) (hN : Nat.blt d N=true)
  (hx : ev ρ x=some (.int .u8 (a : Int))) (hy : ev ρ y=some (.int .u8 15)) (ha' : a < 256) (hK : K ((d, .int .u8 ((a % 16 : Nat) : Int)) :: ρ) m L) : OT P N o ρ D m L Q K:=by
 refine OT.run hd hN (fun ac w ha=>⟨w, ?_,ha.st⟩) hK
 have hr:=u8_and15 a ha'
 simp only [execOp,ho,ha.env.eval hx,ha.env.eval hy,Sem.run_bind,eqGuard,binOp,Op.intBits]
 simp [IntKind.bits] at hr ⊢
 exact hr
theorem OT.sidxK (T : Tab P) {t : TypeId} {x y : Operand} {s : Str} {i : Int} {kd : IntKind} {b : UInt8} {d : Nat} (k : Nat) (ho : o.op = .index t x y) (hd : o.dst=some d) (hN : Nat.blt d N=true)
  (ht : T.isStr t=true) (hx : ev ρ x=some (strV s)) (hy : ev ρ y=some (.int kd i)) (hi : i=(k : Int)) (hb : s[k]? = some b) (hK : K ((d,byteV b) :: ρ) m L) : OT P N o ρ D m L Q K:=by
 obtain ⟨ti,h1,h2⟩:=isStr_get ht
 subst hi
 refine OT.run hd hN (fun a w ha=>⟨w, ?_,ha.st⟩) hK
 have hu:=T.run_underlying w h1
 rw [h2] at hu
 have hg:=getElem_data s k hb
 simp only [execOp,ho,ha.env.eval hx,ha.env.eval hy,Instr.index,asIntOf,Sem.run_bind,Sem.run_pure,Result.andThen_ok,hu,Int.toNat_natCast,Int.natCast_nonneg,if_true,hg]
theorem SlRep.bytes {b : Nat} {bs : List UInt8} {n : Nat} (hA : At m b 0 (bs.map byteV)) (hn : bs.length=n) (hfit : n ≤ 140737488355328) : SlRep rByte m ⟨some ⟨b,0,none⟩,n,n⟩ bs:=by
 subst hn
 exact ⟨rfl,Nat.le_refl _,by show bs.length * 1 ≤ _;omega,bs,byte_refl bs, .inr ⟨b,0,rfl,by rw [encs_byte];exact hA⟩⟩
theorem TC.tokFull {c : Code} (b n : Nat) (h : TC P N c ρ D m (tok ⟨some ⟨b,0,none⟩,n,n⟩ 1 :: L) Q) : TC P N c ρ D m L Q:=by
 rw [tok_full] at h
 exact TC.room0 b n h
end
end Go.Sep

