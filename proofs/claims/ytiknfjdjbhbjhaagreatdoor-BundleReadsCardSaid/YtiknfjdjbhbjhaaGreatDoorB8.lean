/-
  Part 8 of the proof: library, walks and plain laws.
-/
import Derived.Test.YtiknfjdjbhbjhaaGreatDoorB7
set_option linter.unusedVariables false
set_option linter.unusedSimpArgs false
namespace Go.Sep
open Go.Proofs
attribute [local irreducible] TC TO OT TCallX TCall DO DOt thenQ blockQ retQ At
def len8 : Str:=([0,1,2,2,3,3,3,3,4,4,4,4,4,4,4,4,5,5,5,5,5,5,5,5,5,5,5,5,5,5,5,5,6,6,6,6,6,6,6,6,6,6,6,6,6,6,6,6,6,6,6,6,6,6,6,6,6,6,6,6,6,6,6,6].append [7,7,7,7,7,7,7,7,7,7,7,7,7,7,7,7,7,7,7,7,7,7,7,7,7,7,7,7,7,7,7,7,7,7,7,7,7,7,7,7,7,7,7,7,7,7,7,7,7,7,7,7,7,7,7,7,7,7,7,7,7,7,7,7]).append ([8,8,8,8,8,8,8,8,8,8,8,8,8,8,8,8,8,8,8,8,8,8,8,8,8,8,8,8,8,8,8,8,8,8,8,8,8,8,8,8,8,8,8,8,8,8,8,8,8,8,8,8,8,8,8,8,8,8,8,8,8,8,8,8].append [8,8,8,8,8,8,8,8,8,8,8,8,8,8,8,8,8,8,8,8,8,8,8,8,8,8,8,8,8,8,8,8,8,8,8,8,8,8,8,8,8,8,8,8,8,8,8,8,8,8,8,8,8,8,8,8,8,8,8,8,8,8,8,8])
theorem len8_ok (x : Nat) (hx : x < 256) (h0 : 0 < x) : ∃ b : UInt8,len8[x]? = some b∧x < 2 ^ b.toNat∧2 ^ b.toNat ≤ 2 * x∧b.toNat ≤ 8:=by
 have:=(by decide +kernel : ∀ n : Fin 256,n.1=0 ∨ (match len8[n.1]? with | some b=>decide (n.1 < 2 ^ b.toNat∧2 ^ b.toNat ≤ 2 * n.1∧b.toNat ≤ 8) | none=>false)=true) ⟨x,hx⟩
 rcases this with h | h
 ·simp only at h;omega
 ·simp only at h
  split at h
  ·rename_i b hb
   exact ⟨b,hb,of_decide_eq_true h⟩
  ·cases h
theorem shr_u64 (n k K : Nat) (hk : k < 64) (hK : 2 ^ k=K) : (if BinOp.shr = .shl then IntKind.u64.wrap ((n : Int) * 2 ^ (min (Int.toNat (k : Int)) IntKind.u64.bits)) else Int.fdiv (n : Int) (2 ^ (min (Int.toNat (k : Int)) IntKind.u64.bits)))=((n / K : Nat) : Int):=by
 have : (min (Int.toNat (k : Int)) IntKind.u64.bits)=k:=by
  show min (Int.toNat (k : Int)) 64=k
  omega
 rw [this,if_neg (by decide),Int.fdiv_eq_ediv_of_nonneg _ (by exact Int.le_of_lt (Int.pow_pos (by decide)))]
 rw [← hK]
 simp
theorem shl1_u64 (k : Nat) (hk : k < 64) : (if BinOp.shl = .shl then IntKind.u64.wrap ((1 : Int) * 2 ^ (min (Int.toNat (k : Int)) IntKind.u64.bits)) else Int.fdiv (1 : Int) (2 ^ (min (Int.toNat (k : Int)) IntKind.u64.bits)))=((2 ^ k : Nat) : Int):=by
 have : (min (Int.toNat (k : Int)) IntKind.u64.bits)=k:=by
  show min (Int.toNat (k : Int)) 64=k
  omega
 rw [this,if_pos rfl,Int.one_mul]
 have h2 : (2 : Int) ^ k=((2 ^ k : Nat) : Int):=by simp
 rw [h2]
 have : 2 ^ k < 2 ^ 64:=Nat.pow_lt_pow_right (by decide) hk
 generalize 2 ^ k=T at this ⊢
 exact u64_in' (by omega) (by omega)
theorem u8_in' {n : Int} (h1 : 0 ≤ n) (h2 : n < 256) : IntKind.u8.wrap n=n:=by
 simp only [IntKind.wrap,IntKind.signed,IntKind.bits,Bool.false_and,Bool.false_eq_true,if_false]
 omega
theorem len64_law (m : Mem) (L : List Item) (n : Nat) (h0 : 0 < n) (hn : n ≤ 2000000) : TCall Tryz.prog 144 ⟨[.int .u64 (n : Int)]⟩ m L (fun r m' L'=>m=m' ∧ L=L' ∧ ∃ k : Nat,r = .int .i64 (k : Int)∧k ≤ 40∧n < 2 ^ k∧2 ^ k ≤ 2 * n):=by
 unfold TCall
 refine TCallX.enter Tryz.func144 rfl 25 rfl ?_
 refine uN ?_
 refine TC.condP rfl (fun hbig => ?_) (fun hbig => ?_)
 ·exact absurd hbig (by omega)
 ·refine uN ?_
  refine TC.cutT (ι:=Nat × Nat) [] rfl (fun x=>[(0, .int .u64 (x.1 : Int)),(2, .int .i64 (x.2 : Int))]) (fun _=>m) (fun _=>L) (fun x=>0 < x.1∧x.1 < 65536∧((x.1=n∧x.2=0) ∨ (x.1=n / 65536∧x.2=16∧65536 ≤ n))) ?_ (fun x hx => ?_)
  ·refine TC.condP rfl (fun h16 => ?_) (fun h16 => ?_)
   ·refine uA ?_
    refine TO.step rfl (OT.shK rfl (.inr rfl) rfl rfl rfl rfl (by decide) (shr_u64 n 16 65536 (by decide) (by decide)) ?_)
    refine uA ?_
    refine TO.step rfl (OT.arith (r':=((16 : Nat) : Int)) rfl rfl rfl rfl rfl rfl (by omega) (by omega) ?_)
    refine uA ?_
    exact ⟨(n / 65536,16),uH,uH,rfl,rfl,uS,by simp only;omega,by simp only;omega, .inr ⟨rfl,rfl,by omega⟩⟩
   ·refine uA ?_
    exact ⟨(n,0),uH,uH,rfl,rfl,uS,by simp only;omega,by simp only;omega, .inl ⟨rfl,rfl⟩⟩
  ·obtain ⟨x,k⟩:=x
   simp only at hx ⊢
   refine uN ?_
   refine TC.cutT (ι:=Nat × Nat) [] rfl (fun x=>[(0, .int .u64 (x.1 : Int)),(2, .int .i64 (x.2 : Int))]) (fun _=>m) (fun _=>L) (fun y=>0 < y.1∧y.1 < 256∧((y.1=x∧y.2=k) ∨ (y.1=x / 256∧y.2=k + 8∧256 ≤ x))) ?_ (fun y hy => ?_)
   ·refine TC.condP rfl (fun h8 => ?_) (fun h8 => ?_)
    ·refine uA ?_
     refine TO.step rfl (OT.shK rfl (.inr rfl) rfl rfl rfl rfl (by decide) (shr_u64 x 8 256 (by decide) (by decide)) ?_)
     refine uA ?_
     refine TO.step rfl (OT.arith (r':=((k + 8 : Nat) : Int)) rfl rfl rfl rfl rfl rfl (by omega) (by omega) ?_)
     refine uA ?_
     exact ⟨(x / 256,k + 8),uH,uH,rfl,rfl,uS,by simp only;omega,by simp only;omega, .inr ⟨rfl,rfl,by omega⟩⟩
    ·refine uA ?_
     exact ⟨(x,k),uH,uH,rfl,rfl,uS,by simp only;omega,by simp only;omega, .inl ⟨rfl,rfl⟩⟩
   ·obtain ⟨y,k2⟩:=y
    simp only at hy ⊢
    obtain ⟨b,hb,hb1,hb2,hb3⟩:=len8_ok y hy.2.1 hy.1
    refine uA ?_
    refine TO.step rfl (OT.conv tab (r:=(y : Int)) rfl rfl rfl rfl rfl rfl (by rw [u8_in' (by omega) (by omega)]) ?_)
    refine uA ?_
    refine TO.step rfl (OT.sidxK tab (s:=len8) y rfl rfl rfl rfl rfl rfl rfl hb ?_)
    refine uA ?_
    refine TO.step rfl (OT.conv tab (r:=(b.toNat : Int)) rfl rfl rfl rfl rfl rfl (wrap64_in (by omega) (by omega)) ?_)
    refine uA ?_
    refine TO.step rfl (OT.arith (r':=((k2 + b.toNat : Nat) : Int)) rfl rfl rfl rfl rfl rfl (by omega) (by omega) ?_)
    refine uA ?_
    refine retQ_ret rfl uS ⟨rfl,rfl,k2 + b.toNat,rfl,by omega, ?_⟩
    have e8 : 2 ^ (8 + b.toNat)=256 * 2 ^ b.toNat:=by rw [Nat.pow_add]
    have e16 : 2 ^ (16 + b.toNat)=65536 * 2 ^ b.toNat:=by rw [Nat.pow_add]
    have e24 : 2 ^ (24 + b.toNat)=16777216 * 2 ^ b.toNat:=by rw [Nat.pow_add]
    obtain ⟨hx1,hx2,hx3⟩:=hx
    obtain ⟨hy1,hy2,hy3⟩:=hy
    rcases hx3 with ⟨q1,q2⟩ | ⟨q1,q2,q3⟩ <;> rcases hy3 with ⟨q4,q5⟩ | ⟨q4,q5,q6⟩
    ·rw [q5,q2,Nat.zero_add]
     generalize 2 ^ b.toNat=T at *
     omega
    ·rw [q5,q2,Nat.zero_add,e8]
     generalize 2 ^ b.toNat=T at *
     omega
    ·rw [q5,q2,e16]
     generalize 2 ^ b.toNat=T at *
     omega
    ·rw [q5,q2,e24]
     generalize 2 ^ b.toNat=T at *
     omega
theorem len_law (m : Mem) (L : List Item) (n : Nat) (h0 : 0 < n) (hn : n ≤ 2000000) : TCall Tryz.prog 82 ⟨[.int .u64 (n : Int)]⟩ m L (fun r m' L'=>m=m' ∧ L=L' ∧ ∃ k : Nat,r = .int .i64 (k : Int)∧k ≤ 40∧n < 2 ^ k∧2 ^ k ≤ 2 * n):=by
 unfold TCall
 refine TCallX.enter Tryz.func82 rfl 8 rfl ?_
 refine uA ?_
 refine TO.step rfl (OT.call rfl rfl rfl rfl rfl rfl goes144 ((len64_law m L n h0 hn).x ?_));
 rintro r1 m1 L1 ⟨rfl,rfl,k,rfl,hk1,hk2,hk3⟩
 refine uA ?_
 refine retQ_ret rfl uS ⟨rfl,rfl,k,rfl,hk1,hk2,hk3⟩
theorem nextPow_law (m : Mem) (L : List Item) (n : Nat) (h0 : 0 < n) (hn : n ≤ 2000000) : TCall Tryz.prog 209 ⟨[.int .i64 (n : Int)]⟩ m L (fun r m' L'=>m=m' ∧ L=L' ∧ ∃ M : Nat,r = .int .u64 (M : Int)∧n < M∧M ≤ 2 * n):=by
 unfold TCall
 refine TCallX.enter Tryz.func209 rfl 7 rfl ?_
 refine uA ?_
 refine TO.step rfl (OT.conv tab (r:=(n : Int)) rfl rfl rfl rfl rfl rfl (u64_in' (by omega) (by omega)) ?_)
 refine uA ?_
 refine TO.step rfl (OT.call rfl rfl rfl rfl rfl rfl goes82 ((len_law m L n h0 hn).x ?_));
 rintro r1 m1 L1 ⟨rfl,rfl,k,rfl,hk1,hk2,hk3⟩
 refine uA ?_
 refine TO.step rfl (OT.shK rfl (.inl rfl) rfl rfl rfl rfl (by omega) (shl1_u64 k (by omega)) ?_)
 refine uA ?_
 refine retQ_ret rfl uS ⟨rfl,rfl,2 ^ k,rfl,hk2,hk3⟩
@[reducible] def rqI (bq : Nat) (v : Int) : Item := .cells bq 0 [.int .u64 v]
set_option maxHeartbeats 1000000 in
theorem nextB_law (m : Mem) (L0 : List Item) (bq : Nat) (v : Int) : TCall Tryz.prog 210 ⟨[pqV bq]⟩ m (rqI bq v :: L0) (fun r m' L'=>m=m' ∧ ∃ u : Int,r = .int .u64 u∧rqI bq u :: L0=L'):=by
 unfold TCall
 refine TCallX.enter Tryz.func210 rfl 33 rfl ?_
 refine uA ?_
 refine TC.cutT (ι:=Int) [0] rfl (fun _=>[]) (fun _=>m) (fun v=>rqI bq v :: L0) (fun _=>True) ?_ (fun v _ => ?_)
 ·refine TC.draw [9] mixed 10 rfl [rqI bq v] L0 uP ?_
  refine DO.pure tab uC (by kernel_rfl) [0,1] (by kernel_rfl) rfl ?_
  (refine DO.loadL (k:=0) tab 2 0 uC (by kernel_rfl) (by kernel_rfl) rfl rfl rfl rfl rfl rfl rfl rfl ?_)
  refine DO.pure tab uC (by kernel_rfl) [3,4] (by kernel_rfl) rfl ?_
  (refine DO.loadL (k:=0) tab 5 0 uC (by kernel_rfl) (by kernel_rfl) rfl rfl rfl rfl rfl rfl rfl rfl ?_)
  refine DO.shK (b:=13) 6 (.inl rfl) (by decide) uC (by kernel_rfl) (by kernel_rfl) rfl rfl rfl rfl rfl rfl rfl rfl ?_
  refine DO.xorK 7 uC (by kernel_rfl) (by kernel_rfl) rfl rfl rfl rfl rfl rfl rfl rfl ?_
  refine DO.pure tab uC (by kernel_rfl) [8] (by kernel_rfl) rfl ?_
  refine DO.tail ?_
  refine DOt.run 9 rfl rfl (by kernel_rfl) rfl ?_
  refine OT.storeL0 tab 0 rfl rfl rfl rfl rfl rfl rfl rfl ?_
  refine DOt.nil (by kernel_rfl) ?_
  rotate_left 1
  refine uA ?_
  exact ⟨_,uH,uH,rfl,rfl,uS,trivial⟩
 refine uA ?_
 refine TC.cutT (ι:=Int) [0] rfl (fun _=>[]) (fun _=>m) (fun v=>rqI bq v :: L0) (fun _=>True) ?_ (fun v _ => ?_)
 ·refine TC.draw [9] mixed 10 rfl [rqI bq v] L0 uP ?_
  refine DO.pure tab uC (by kernel_rfl) [0,1] (by kernel_rfl) rfl ?_
  (refine DO.loadL (k:=0) tab 2 0 uC (by kernel_rfl) (by kernel_rfl) rfl rfl rfl rfl rfl rfl rfl rfl ?_)
  refine DO.pure tab uC (by kernel_rfl) [3,4] (by kernel_rfl) rfl ?_
  (refine DO.loadL (k:=0) tab 5 0 uC (by kernel_rfl) (by kernel_rfl) rfl rfl rfl rfl rfl rfl rfl rfl ?_)
  refine DO.shK (b:=7) 6 (.inr rfl) (by decide) uC (by kernel_rfl) (by kernel_rfl) rfl rfl rfl rfl rfl rfl rfl rfl ?_
  refine DO.xorK 7 uC (by kernel_rfl) (by kernel_rfl) rfl rfl rfl rfl rfl rfl rfl rfl ?_
  refine DO.pure tab uC (by kernel_rfl) [8] (by kernel_rfl) rfl ?_
  refine DO.tail ?_
  refine DOt.run 9 rfl rfl (by kernel_rfl) rfl ?_
  refine OT.storeL0 tab 0 rfl rfl rfl rfl rfl rfl rfl rfl ?_
  refine DOt.nil (by kernel_rfl) ?_
  rotate_left 1
  refine uA ?_
  exact ⟨_,uH,uH,rfl,rfl,uS,trivial⟩
 refine uA ?_
 refine TC.cutT (ι:=Int) [0] rfl (fun _=>[]) (fun _=>m) (fun v=>rqI bq v :: L0) (fun _=>True) ?_ (fun v _ => ?_)
 ·refine TC.draw [9] mixed 10 rfl [rqI bq v] L0 uP ?_
  refine DO.pure tab uC (by kernel_rfl) [0,1] (by kernel_rfl) rfl ?_
  (refine DO.loadL (k:=0) tab 2 0 uC (by kernel_rfl) (by kernel_rfl) rfl rfl rfl rfl rfl rfl rfl rfl ?_)
  refine DO.pure tab uC (by kernel_rfl) [3,4] (by kernel_rfl) rfl ?_
  (refine DO.loadL (k:=0) tab 5 0 uC (by kernel_rfl) (by kernel_rfl) rfl rfl rfl rfl rfl rfl rfl rfl ?_)
  refine DO.shK (b:=17) 6 (.inl rfl) (by decide) uC (by kernel_rfl) (by kernel_rfl) rfl rfl rfl rfl rfl rfl rfl rfl ?_
  refine DO.xorK 7 uC (by kernel_rfl) (by kernel_rfl) rfl rfl rfl rfl rfl rfl rfl rfl ?_
  refine DO.pure tab uC (by kernel_rfl) [8] (by kernel_rfl) rfl ?_
  refine DO.tail ?_
  refine DOt.run 9 rfl rfl (by kernel_rfl) rfl ?_
  refine OT.storeL0 tab 0 rfl rfl rfl rfl rfl rfl rfl rfl ?_
  refine DOt.nil (by kernel_rfl) ?_
  rotate_left 1
  refine uA ?_
  exact ⟨_,uH,uH,rfl,rfl,uS,trivial⟩
 refine uA ?_
 refine uM ?_
 refine uA ?_
 refine retQ_ret rfl uS ⟨rfl,v,rfl,rfl⟩
set_option maxHeartbeats 2000000 in
theorem break_ch (m : Mem) (L0 : List Item) (bd c a b : Nat) (xs : List Ch) (hD0 : DomC xs) (hab : a < b) (hl : b ≤ xs.length) (hlim : xs.length ≤ 1000000) :
  TCall Tryz.prog 137 ⟨[.slice (some ⟨bd,0,none⟩) xs.length c, .int .i64 (a : Int), .int .i64 (b : Int),chF]⟩ m (chR bd xs :: L0) (fun r m' L'=>m=m' ∧ ∃ ys,Sg a b xs ys∧chR bd ys :: L0=L'):=by
 unfold TCall
 refine TCallX.enter Tryz.func137 rfl 67 rfl ?_
 refine uA ?_
 refine TO.step rfl (OT.arith (r':=((b - a : Nat) : Int)) rfl rfl rfl rfl rfl rfl (by omega) (by omega) ?_)
 refine uN ?_
 refine TC.condP rfl (fun h8 => ?_) (fun h8 => ?_)
 ·refine uA ?_
  refine TO.step rfl (OT.conv tab (r:=((b - a : Nat) : Int)) rfl rfl rfl rfl rfl rfl (u64_in' (by omega) (by omega)) ?_)
  refine uA ?_
  refine TO.step rfl (OT.alloc tab rfl rfl rfl rfl (fun bq => ?_))
  refine uT ?_
  refine uA ?_
  refine TO.step rfl (OT.call rfl rfl rfl rfl rfl rfl goes209 ((nextPow_law m (rqI bq ((b - a : Nat) : Int) :: chR bd xs :: L0) (b - a) (by omega) (by omega)).x ?_));
  rintro r1 m1 L1 ⟨rfl,rfl,M,rfl,hM1,hM2⟩
  refine uA ?_
  refine TO.step rfl (OT.quoK rfl rfl rfl rfl rfl (by decide) (quo4 (b - a) (by omega)) ?_)
  refine uA ?_
  refine TO.step rfl (OT.arith (r':=(((b - a) / 4 * 2 : Nat) : Int)) rfl rfl rfl rfl rfl rfl (by omega) (by omega) ?_)
  refine uA ?_
  refine TO.step rfl (OT.arith (r':=((a + (b - a) / 4 * 2 : Nat) : Int)) rfl rfl rfl rfl rfl rfl (by omega) (by omega) ?_)
  refine uA ?_
  refine TO.step rfl (OT.arith (r':=((a + (b - a) / 4 * 2 - 1 : Nat) : Int)) rfl rfl rfl rfl rfl rfl (by omega) (by omega) ?_)
  refine uA ?_
  refine TC.loopK (ι:=Nat × Int × List Ch) [0,1,2,3,8,9,10] rfl (fun x=>[(11, .int .i64 (x.1 : Int))]) (fun _=>m) (fun x=>rqI bq x.2.1 :: chR bd x.2.2 :: L0) (fun x=>a ≤ x.1∧Sg a b xs x.2.2) (fun x=>b + 1 - x.1) (a + (b - a) / 4 * 2 - 1,((b - a : Nat) : Int),xs) uH rfl uS ⟨by simp only;omega,Sg.refl _ _ _⟩ ?_
  rintro ⟨i,v,ys⟩ ⟨hi,hS⟩
  simp only at hi hS ⊢
  have hyl:=hS.len
  have hD : DomC ys:=hD0.perm hS.perm
  refine uA ?_
  refine TO.step rfl (OT.quoK rfl rfl rfl rfl rfl (by decide) (quo4 (b - a) (by omega)) ?_)
  refine uA ?_
  refine TO.step rfl (OT.arith (r':=(((b - a) / 4 * 2 : Nat) : Int)) rfl rfl rfl rfl rfl rfl (by omega) (by omega) ?_)
  refine uA ?_
  refine TO.step rfl (OT.arith (r':=((a + (b - a) / 4 * 2 : Nat) : Int)) rfl rfl rfl rfl rfl rfl (by omega) (by omega) ?_)
  refine uA ?_
  refine TO.step rfl (OT.arith (r':=((a + (b - a) / 4 * 2 + 1 : Nat) : Int)) rfl rfl rfl rfl rfl rfl (by omega) (by omega) ?_)
  refine uN ?_
  refine TC.condP rfl (fun hle => ?_) (fun hle => ?_)
  ·refine uA ?_
   refine TO.step rfl (OT.call rfl rfl rfl rfl rfl rfl goes210 ((nextB_law m (chR bd ys :: L0) bq v).x ?_));
   rintro r1 m1 L1 ⟨rfl,u,rfl,rfl⟩
   obtain ⟨z,hz,hzr⟩:=mask_u64 (P:=Tryz.prog) u M (by omega) (by omega)
   refine uA ?_
   refine TO.step rfl (OT.arithK (r':=((M - 1 : Nat) : Int)) rfl rfl rfl rfl rfl rfl (by rw [u64_in' (by omega) (by omega)];omega) ?_)
   refine uA ?_
   refine TO.step rfl (OT.andK rfl rfl rfl rfl rfl hzr ?_)
   refine uA ?_
   refine TO.step rfl (OT.conv tab (r:=(z : Int)) rfl rfl rfl rfl rfl rfl (wrap64_in (by omega) (by omega)) ?_)
   refine uA ?_
   refine TC.cutT (ι:=Nat) [0,1,2,3,8,9,10,11] rfl (fun o=>[(12, .int .i64 (o : Int))]) (fun _=>m) (fun _=>chR bd ys :: rqI bq u :: L0) (fun o=>o < b - a) ?_ (fun o ho => ?_)
   ·refine TC.perm (List.Perm.swap _ _ _) ?_
    refine TC.condP rfl (fun hge => ?_) (fun hge => ?_)
    ·refine uA ?_
     refine TO.step rfl (OT.arith (r':=((z - (b - a) : Nat) : Int)) rfl rfl rfl rfl rfl rfl (by omega) (by omega) ?_)
     refine uA ?_
     exact ⟨z - (b - a),uH,uH,rfl,rfl,uS,by omega⟩
    ·refine uA ?_
     exact ⟨z,uH,uH,rfl,rfl,uS,by omega⟩
   ·obtain ⟨L,hLq⟩ : ∃ L,L=rqI bq u :: L0:=⟨_,rfl⟩
    rw [← hLq]
    refine uA ?_
    refine TC.draw [17,18,19] mixed 20 rfl [chR bd ys] L uP ?_
    refine DO.pure tab uC (by kernel_rfl) [0,1,2,3,4] (by kernel_rfl) rfl ?_
    refine DO.arith 5 (r':=(((a + o) : Nat) : Int)) uC (by kernel_rfl) (by kernel_rfl) rfl rfl rfl rfl rfl rfl rfl rfl (by first | rfl | omega | (simp only;omega)) (by omega) ?_
    refine DO.pure tab uC (by kernel_rfl) [6,7,8] (by kernel_rfl) rfl ?_
    refine DO.arith 9 (r':=(((a + o) : Nat) : Int)) uC (by kernel_rfl) (by kernel_rfl) rfl rfl rfl rfl rfl rfl rfl rfl (by first | rfl | omega | (simp only;omega)) (by omega) ?_
    refine DO.indexP (sz:=2) tab 10 (a + o) uC (by kernel_rfl) (by kernel_rfl) rfl rfl rfl rfl rfl rfl rfl rfl rfl (by omega) ?_
    refine DO.loadE (jj:=0) tab 11 0 rCh (gk_get (xs:=ys) (k:=(a + o)) (by omega)) (by simp only [rCh];omega) (fun _=>rfl) uC (by kernel_rfl) (by kernel_rfl) rfl rfl rfl rfl rfl rfl rfl ?_
    refine DO.pure tab uC (by kernel_rfl) [12,13] (by kernel_rfl) rfl ?_
    refine DO.indexP (sz:=2) tab 14 i uC (by kernel_rfl) (by kernel_rfl) rfl rfl rfl rfl rfl rfl rfl rfl rfl (by omega) ?_
    refine DO.loadE (jj:=0) tab 15 0 rCh (gk_get (xs:=ys) (k:=i) (by omega)) (by simp only [rCh];omega) (fun _=>rfl) uC (by kernel_rfl) (by kernel_rfl) rfl rfl rfl rfl rfl rfl rfl ?_
    refine DO.indexP (sz:=2) tab 16 i uC (by kernel_rfl) (by kernel_rfl) rfl rfl rfl rfl rfl rfl rfl rfl rfl (by omega) ?_
    refine DO.tail ?_
    refine DOt.run 17 rfl rfl (by kernel_rfl) rfl ?_
    refine OT.storeE (h2:=gk ys (a + o)) tab 0 rCh (gk_get (xs:=ys) (k:=i) (by omega)) (j:=0) (by simp only [rCh];omega) (fun _=>rfl) (Nat.le_refl _) rfl rfl rfl rfl rfl rfl rfl ?_
    refine DOt.run 18 rfl rfl (by kernel_rfl) rfl ?_
    refine OT.indexP (sz:=2) tab (a + o) rfl rfl rfl rfl rfl rfl rfl (by omega) ?_
    refine DOt.run 19 rfl rfl (by kernel_rfl) rfl ?_
    refine OT.storeE (h2:=gk ys i) (h:=gk (List.set ys i (gk ys (a + o))) (a + o)) tab 0 rCh (k:=(a + o)) (gk_get (by simp;omega)) (j:=0) (by simp only [rCh];omega) (fun _=>rfl) (Nat.le_refl _) rfl rfl rfl rfl rfl rfl rfl ?_
    refine DOt.nil (by kernel_rfl) ?_
    rotate_left 1
    refine blockQ_n ?_
    refine thenQ_n ?_
    refine TC.drop (L':=chR bd (sw ys i (a + o)) :: rqI bq u :: L0) (by rw [hLq];exact List.Sublist.refl _) ?_
    refine TC.perm (List.Perm.swap _ _ _) ?_
    refine uA ?_
    refine TO.step rfl (OT.arith (r':=((i + 1 : Nat) : Int)) rfl rfl rfl rfl rfl rfl rfl (by omega) ?_)
    refine uA ?_
    exact ⟨(i + 1,u,sw ys i (a + o)),uH,uH,rfl,rfl,uS,⟨by simp only;omega,hS.trans (Sg.sw (by omega) (by omega) (by omega))⟩,by simp only;omega⟩
  ·refine uA ?_
   refine retQ_n rfl (L':=chR bd ys :: L0) uS ⟨rfl,ys,hS,rfl⟩
 ·refine uA ?_
  refine retQ_n rfl (L':=chR bd xs :: L0) uS ⟨rfl,xs,Sg.refl _ _ _,rfl⟩
end Go.Sep
set_option linter.unusedVariables false
set_option linter.unusedSimpArgs false
namespace Go.Sep
open Go.Proofs
attribute [local irreducible] TC TO OT TCallX TCall DO DOt thenQ blockQ retQ At
theorem Low.left {lt : Ch→Ch→Bool} {xs ys : List Ch} {a b mid : Nat} (h : Low lt xs a b) (p : Parted lt a b mid xs ys) : Low lt ys a mid:=fun h0 i h1 h2=>(h.seg p.seg) h0 i h1 (by have:=p.rng;omega)
theorem Low.right {lt : Ch→Ch→Bool} {xs ys : List Ch} {a b mid : Nat} (p : Parted lt a b mid xs ys) : Low lt ys (mid + 1) b:=fun _ i h1 h2=>by rw [Nat.add_sub_cancel];exact p.hi i (by omega) h2
theorem quo8 (n : Nat) (h : n ≤ 1000000) : IntKind.i64.wrap (Int.tdiv (n : Int) 8)=((n / 8 : Nat) : Int):=by
 rw [show Int.tdiv (n : Int) 8=((n / 8 : Nat) : Int) from (Int.ofNat_tdiv n 8).symm]
 exact wrap64_in (by omega) (by omega)
set_option maxHeartbeats 4000000 in
theorem pdq_ch (bd c : Nat) : ∀ (n : Nat) (m : Mem) (L : List Item) (a b lim : Nat) (xs : List Ch),b - a ≤ n→a ≤ b→b ≤ xs.length→DomC xs→xs.length ≤ 1000000∧lim ≤ 1000000→Low ltC xs a b →
  TCall Tryz.prog 81 ⟨[.slice (some ⟨bd,0,none⟩) xs.length c, .int .i64 (a : Int), .int .i64 (b : Int), .int .i64 (lim : Int),chF]⟩ m (chR bd xs :: L) (fun r m' L'=>m=m' ∧ ∃ ys,Sg a b xs ys∧Sn ltC ys a b∧chR bd ys :: L=L'):=by
 intro n
 induction n using Nat.strongRecOn with
 | _ n ih0 =>
 intro m L A B lim0 xs0 hn hAB hB hD0 hlim hL0
 have ih : ∀ (m : Mem) (L : List Item) (a b lim : Nat) (xs : List Ch),b - a < B - A→a ≤ b→b ≤ xs.length→DomC xs→xs.length ≤ 1000000∧lim ≤ 1000000→Low ltC xs a b →
  TCall Tryz.prog 81 ⟨[.slice (some ⟨bd,0,none⟩) xs.length c, .int .i64 (a : Int), .int .i64 (b : Int), .int .i64 (lim : Int),chF]⟩ m (chR bd xs :: L) (fun r m' L'=>m=m' ∧ ∃ ys,Sg a b xs ys∧Sn ltC ys a b∧chR bd ys :: L=L') :=
  fun m L a b lim xs h1=>ih0 (b - a) (by omega) m L a b lim xs (Nat.le_refl _)
 clear ih0
 unfold TCall
 refine TCallX.enter Tryz.func81 rfl 148 rfl ?_
 refine uA ?_
 refine TC.loopK (ι:=Nat × Nat × Nat × Bool × Bool × List Ch) [0,4] rfl (fun x=>[(1, .int .i64 (x.1 : Int)),(2, .int .i64 (x.2.1 : Int)),(3, .int .i64 (x.2.2.1 : Int)),(10, .bool x.2.2.2.1),(11, .bool x.2.2.2.2.1)]) (fun _=>m) (fun x=>chR bd x.2.2.2.2.2 :: L) (fun x=>A ≤ x.1∧x.1 ≤ x.2.1∧x.2.1 ≤ B∧x.2.2.1 ≤ 1000000∧Rest ltC A B xs0 x.2.2.2.2.2 x.1 x.2.1∧Low ltC x.2.2.2.2.2 x.1 x.2.1∧DomC x.2.2.2.2.2∧x.2.2.2.2.2.length=xs0.length) (fun x=>x.2.1 - x.1) (A,B,lim0,true,true,xs0) uH rfl uS ⟨Nat.le_refl _,hAB,Nat.le_refl _,hlim.2,Rest.start _ _ _,hL0,hD0,rfl⟩ ?_
 rintro ⟨a,b,lim,wb,wp,xs⟩ ⟨ha,hab,hb,hlm,hR,hLo,hD,hxl⟩
 simp only at ha hab hb hlm hR hLo hD hxl ⊢
 rw [← hxl] at hB hlim
 refine uA ?_
 refine TO.step rfl (OT.arith (r':=((b - a : Nat) : Int)) rfl rfl rfl rfl rfl rfl (by omega) (by omega) ?_)
 refine uN ?_
 refine TC.condP rfl (fun h12 => ?_) (fun h12 => ?_)
 ·refine uA ?_
  rw [← hxl]
  refine TO.step rfl (OT.call rfl rfl rfl rfl rfl rfl goes135 ((insort_ch m L bd c a b xs hD hab (by omega) (by omega)).x ?_));
  rintro r1 m1 L1 ⟨rfl,ys,hS,hO,rfl⟩
  obtain ⟨hS2,hO2⟩:=hR ys hS hO
  refine uA ?_
  refine retQ_ret rfl uS ⟨rfl,ys,hS2,hO2,rfl⟩
 ·refine uN ?_
  refine TC.condP rfl (fun hl0 => ?_) (fun hl0 => ?_)
  ·refine uA ?_
   rw [← hxl]
   refine TO.step rfl (OT.call rfl rfl rfl rfl rfl rfl goes136 ((heapsort_ch m L bd c a b xs hD (by omega) (by omega) (by omega)).x ?_));
   rintro r1 m1 L1 ⟨rfl,ys,hS,hO,rfl⟩
   obtain ⟨hS2,hO2⟩:=hR ys hS hO
   refine uA ?_
   refine retQ_ret rfl uS ⟨rfl,ys,hS2,hO2,rfl⟩
  ·refine uN ?_
   refine TC.cutT (ι:=Nat × List Ch) [0,1,2,4,10,11,12] rfl (fun x=>[(3, .int .i64 (x.1 : Int))]) (fun _=>m) (fun x=>chR bd x.2 :: L) (fun x=>x.1 ≤ 1000000∧Sg a b xs x.2) ?_ (fun x hx => ?_)
   ·cases wb with
    | true =>
     refine uA ?_
     exact ⟨(lim,xs),uH,uH,rfl,rfl,uS,hlm,Sg.refl _ _ _⟩
    | false =>
     refine uA ?_
     rw [← hxl]
     refine TO.step rfl (OT.call rfl rfl rfl rfl rfl rfl goes137 ((break_ch m L bd c a b xs hD (by omega) (by omega) (by omega)).x ?_));
     rintro r1 m1 L1 ⟨rfl,ys,hS,rfl⟩
     refine uA ?_
     refine TO.step rfl (OT.arith (r':=((lim - 1 : Nat) : Int)) rfl rfl rfl rfl rfl rfl (by omega) (by omega) ?_)
     refine uA ?_
     exact ⟨(lim - 1,ys),uH,uH,rfl,rfl,uS,by simp only;omega,hS⟩
   ·obtain ⟨lim,xs1⟩:=x
    obtain ⟨hlm,hS1⟩:=hx
    simp only at hlm hS1 ⊢
    have hx1:=hS1.len
    have hD1 : DomC xs1:=hD.perm hS1.perm
    have hR1:=hR.seg hS1
    have hLo1:=hLo.seg hS1
    refine uA ?_
    rw [← hxl,← hx1]
    refine TO.step rfl (OT.call rfl rfl rfl rfl rfl rfl goes138 ((choose_ch m L bd c a b xs1 hD1 (by omega) (by omega) (by omega)).x ?_));
    rintro r1 m1 L1 ⟨rfl,p,hint,rfl,hp,rfl⟩
    refine uN ?_
    refine TC.cutT (ι:=Nat × Int × List Ch) [0,1,2,3,4,10,11,12] rfl (fun x=>[(13, .int .i64 (x.1 : Int)),(14, .int .i64 x.2.1)]) (fun _=>m) (fun x=>chR bd x.2.2 :: L) (fun x=>(a ≤ x.1∧x.1 < b)∧Sg a b xs1 x.2.2) ?_ (fun x hx => ?_)
    ·refine TC.condP rfl (fun hh2 => ?_) (fun hh2 => ?_)
     ·refine uA ?_
      refine TO.step rfl (OT.call rfl rfl rfl rfl rfl rfl goes139 ((reverse_ch m L bd c a b xs1 (by omega) (by omega) (by omega)).x ?_));
      rintro r1 m1 L1 ⟨rfl,ys,hS,rfl⟩
      refine uA ?_
      refine TO.step rfl (OT.arith (r':=((b - 1 : Nat) : Int)) rfl rfl rfl rfl rfl rfl (by omega) (by omega) ?_)
      refine uA ?_
      refine TO.step rfl (OT.arith (r':=((p - a : Nat) : Int)) rfl rfl rfl rfl rfl rfl (by omega) (by omega) ?_)
      refine uA ?_
      refine TO.step rfl (OT.arith (r':=((b - 1 - (p - a) : Nat) : Int)) rfl rfl rfl rfl rfl rfl (by omega) (by omega) ?_)
      refine uA ?_
      exact ⟨(b - 1 - (p - a),1,ys),uH,uH,rfl,rfl,uS,by simp only;omega,hS⟩
     ·refine uA ?_
      exact ⟨(p,hint,xs1),uH,uH,rfl,rfl,uS,hp,Sg.refl _ _ _⟩
    ·clear hp
     obtain ⟨p,hint,xs2⟩:=x
     obtain ⟨hp,hS2⟩:=hx
     simp only at hp hS2 ⊢
     have hx2:=hS2.len
     have hD2 : DomC xs2:=hD1.perm hS2.perm
     have hR2:=hR1.seg hS2
     have hLo2:=hLo1.seg hS2
     rw [← hx2]
     refine TC.seq ?_
     refine TC.cutT (ι:=List Ch) [0,1,2,3,4,10,11,12,13] rfl (fun x=>[]) (fun _=>m) (fun x=>chR bd x :: L) (fun x=>Sg a b xs2 x) ?_ (fun zs hSz => ?_)
     ·cases wb with
      | false =>
       refine uA ?_
       exact ⟨xs2,uH,uH,rfl,rfl,uS,Sg.refl _ _ _⟩
      | true =>
       cases wp with
       | false =>
        refine uA ?_
        exact ⟨xs2,uH,uH,rfl,rfl,uS,Sg.refl _ _ _⟩
       | true =>
        refine uA ?_
        refine TC.condP rfl (fun hh1 => ?_) (fun hh1 => ?_)
        ·refine uA ?_
         refine TO.step rfl (OT.call rfl rfl rfl rfl rfl rfl goes140 ((partial_ch m L bd c a b xs2 hD2 (by omega) (by omega) (by omega) hLo2).x ?_));
         rintro r1 m1 L1 ⟨rfl,ys,bv,rfl,hS,hO,rfl⟩
         cases bv with
         | true =>
          obtain ⟨hS3,hO3⟩:=hR2 ys hS (hO rfl)
          refine uA ?_
          refine retQ_ret rfl uS ⟨rfl,ys,hS3,hO3,rfl⟩
         | false =>
          refine uA ?_
          exact ⟨ys,uH,uH,rfl,rfl,uS,hS⟩
        ·refine uA ?_
         exact ⟨xs2,uH,uH,rfl,rfl,uS,Sg.refl _ _ _⟩
     ·have hzl:=hSz.len
      have hDz : DomC zs:=hD2.perm hSz.perm
      have hRz:=hR2.seg hSz
      have hLz:=hLo2.seg hSz
      have hD:=hDz
      rw [← hzl]
      refine uA ?_
      refine TC.draw [] mixed 17 rfl [chR bd zs] L uP ?_
      refine DO.pure tab uC (by kernel_rfl) [0,1,2] (by kernel_rfl) rfl ?_
      (refine DO.splitP (d:=83) rfl (fun hg2 => ?_) (fun hg2 => ?_))
      refine DO.pure tab uC (by kernel_rfl) [3,4,5] (by kernel_rfl) rfl ?_
      refine DO.arith 6 (r':=(((a - 1) : Nat) : Int)) uC (by kernel_rfl) (by kernel_rfl) rfl rfl rfl rfl rfl rfl rfl rfl (by first | rfl | omega | (simp only;omega)) (by omega) ?_
      refine DO.indexP (sz:=2) tab 7 (a - 1) uC (by kernel_rfl) (by kernel_rfl) rfl rfl rfl rfl rfl rfl rfl rfl rfl (by omega) ?_
      refine DO.loadE (jj:=0) tab 8 0 rCh (gk_get (xs:=zs) (k:=(a - 1)) (by omega)) (by simp only [rCh];omega) (fun _=>rfl) uC (by kernel_rfl) (by kernel_rfl) rfl rfl rfl rfl rfl rfl rfl ?_
      refine DO.pure tab uC (by kernel_rfl) [9,10] (by kernel_rfl) rfl ?_
      refine DO.indexP (sz:=2) tab 11 p uC (by kernel_rfl) (by kernel_rfl) rfl rfl rfl rfl rfl rfl rfl rfl rfl (by omega) ?_
      refine DO.loadE (jj:=0) tab 12 0 rCh (gk_get (xs:=zs) (k:=p) (by omega)) (by simp only [rCh];omega) (fun _=>rfl) uC (by kernel_rfl) (by kernel_rfl) rfl rfl rfl rfl rfl rfl rfl ?_
      refine DO.run 13 rfl rfl (by kernel_rfl) rfl (OT.call rfl rfl rfl rfl rfl rfl goes43 ((chcmp_law m _ (gk zs (a - 1)) (gk zs p) (hD.gk (by omega)) (hD.gk (by omega))).x ?_))
      rintro _ _ _ ⟨rfl,rfl,rfl⟩;refine ⟨Mem.le_refl _,_,List.Perm.refl _, ?_⟩
      refine DO.pure tab uC (by kernel_rfl) [14,15,16] (by kernel_rfl) rfl ?_
      (refine DO.nil (by kernel_rfl) ?_)
      rotate_left 1
      refine DO.pure tab uC (by kernel_rfl) [3,4,5,6,7,8,9,10,11,12,13,14,15,16] (by kernel_rfl) rfl ?_
      (refine DO.nil (by kernel_rfl) ?_)
      rotate_left 1
      ·refine uA ?_
       simp only [ch_dec]
       cases hc : ltC (gk zs (a - 1)) (gk zs p) with
       | false =>
        refine uA ?_
        refine TO.step rfl (OT.call rfl rfl rfl rfl rfl rfl goes141 ((partitionEqual_ch m L bd c a b p zs hDz (by omega) hp (by omega) (by omega)).x ?_));
        rintro r1 m1 L1 ⟨rfl,ys,i,j,rfl,hP,hji,rfl⟩
        have hS0 : Sg a b zs (sw zs a p):=Sg.sw (by omega) hp (by omega)
        have hyl:=hP.seg.len
        have hsl:=hS0.len
        have e1 : gk (sw zs a p) (a - 1)=gk zs (a - 1):=hS0.out _ (by omega)
        have e2 : gk (sw zs a p) a=gk zs p:=by
         rw [gk_sw (by omega) (by omega)]
         by_cases e : a=p
         ·rw [if_pos e,e]
         ·rw [if_neg e,if_pos rfl]
        obtain ⟨hR3,hL3,hai,hib⟩:=(hRz.seg hS0).equal ltC_ord (hLz.seg hS0) (by omega) hP hji (by rw [e1,e2];exact hc)
        refine uA ?_
        exact ⟨(i,b,lim,wb,wp,ys),uH,uH,rfl,rfl,uS,⟨by simp only;omega,by simp only;omega,by simp only;omega,by simp only;omega,hR3,hL3,(hDz.perm hS0.perm).perm hP.seg.perm,by simp only;omega⟩,by simp only;omega⟩
       | true =>
        refine uA ?_
        refine TO.step rfl (OT.call rfl rfl rfl rfl rfl rfl goes142 ((partition_ch m L bd c a b p zs hDz (by omega) hp (by omega) (by omega)).x ?_));
        rintro r1 m1 L1 ⟨rfl,ys,mid,bv,rfl,hPa,rfl⟩
        have hyl:=hPa.seg.len
        have hmr:=hPa.rng
        have hDy : DomC ys:=hDz.perm hPa.seg.perm
        refine uA ?_
        refine TO.step rfl (OT.arith (r':=((mid - a : Nat) : Int)) rfl rfl rfl rfl rfl rfl (by omega) (by omega) ?_)
        refine uA ?_
        refine TO.step rfl (OT.arith (r':=((b - mid : Nat) : Int)) rfl rfl rfl rfl rfl rfl (by omega) (by omega) ?_)
        refine uA ?_
        refine TO.step rfl (OT.quoK rfl rfl rfl rfl rfl (by decide) (quo8 (b - a) (by omega)) ?_)
        refine uA ?_
        refine TC.condP rfl (fun hlr => ?_) (fun hlr => ?_)
        ·refine uA ?_
         rw [← hyl]
         refine TO.step rfl (OT.call rfl rfl rfl rfl rfl rfl goes81 ((ih m L a mid lim ys (by omega) (by omega) (by omega) hDy (by omega) (hLz.left hPa)).x ?_));
         rintro r1 m1 L1 ⟨rfl,us,hSu,hOu,rfl⟩
         have hul:=hSu.len
         obtain ⟨hR2,hL2⟩:=hRz.right ltC_ord hPa hSu hOu
         refine uA ?_
         refine TO.step rfl (OT.arith (r':=((mid + 1 : Nat) : Int)) rfl rfl rfl rfl rfl rfl rfl (by omega) ?_)
         refine uA ?_
         exact ⟨(mid + 1,b,lim,_,bv,us),uH,uH,rfl,rfl,uS,⟨by simp only;omega,by simp only;omega,by simp only;omega,by simp only;omega,hR2,hL2,hDy.perm hSu.perm,by simp only;omega⟩,by simp only;omega⟩
        ·refine uA ?_
         refine TO.step rfl (OT.arith (r':=((mid + 1 : Nat) : Int)) rfl rfl rfl rfl rfl rfl rfl (by omega) ?_)
         refine uA ?_
         rw [← hyl]
         refine TO.step rfl (OT.call rfl rfl rfl rfl rfl rfl goes81 ((ih m L (mid + 1) b lim ys (by omega) (by omega) (by omega) hDy (by omega) (Low.right hPa)).x ?_));
         rintro r1 m1 L1 ⟨rfl,us,hSu,hOu,rfl⟩
         have hul:=hSu.len
         obtain ⟨hR2,hL2⟩:=hRz.left ltC_ord hLz hPa hSu hOu
         refine uA ?_
         exact ⟨(a,mid,lim,_,bv,us),uH,uH,rfl,rfl,uS,⟨by simp only;omega,by simp only;omega,by simp only;omega,by simp only;omega,hR2,hL2,hDy.perm hSu.perm,by simp only;omega⟩,by simp only;omega⟩
      ·skip
       refine uA ?_
       refine TO.step rfl (OT.call rfl rfl rfl rfl rfl rfl goes142 ((partition_ch m L bd c a b p zs hDz (by omega) hp (by omega) (by omega)).x ?_));
       rintro r1 m1 L1 ⟨rfl,ys,mid,bv,rfl,hPa,rfl⟩
       have hyl:=hPa.seg.len
       have hmr:=hPa.rng
       have hDy : DomC ys:=hDz.perm hPa.seg.perm
       refine uA ?_
       refine TO.step rfl (OT.arith (r':=((mid - a : Nat) : Int)) rfl rfl rfl rfl rfl rfl (by omega) (by omega) ?_)
       refine uA ?_
       refine TO.step rfl (OT.arith (r':=((b - mid : Nat) : Int)) rfl rfl rfl rfl rfl rfl (by omega) (by omega) ?_)
       refine uA ?_
       refine TO.step rfl (OT.quoK rfl rfl rfl rfl rfl (by decide) (quo8 (b - a) (by omega)) ?_)
       refine uA ?_
       refine TC.condP rfl (fun hlr => ?_) (fun hlr => ?_)
       ·refine uA ?_
        rw [← hyl]
        refine TO.step rfl (OT.call rfl rfl rfl rfl rfl rfl goes81 ((ih m L a mid lim ys (by omega) (by omega) (by omega) hDy (by omega) (hLz.left hPa)).x ?_));
        rintro r1 m1 L1 ⟨rfl,us,hSu,hOu,rfl⟩
        have hul:=hSu.len
        obtain ⟨hR2,hL2⟩:=hRz.right ltC_ord hPa hSu hOu
        refine uA ?_
        refine TO.step rfl (OT.arith (r':=((mid + 1 : Nat) : Int)) rfl rfl rfl rfl rfl rfl rfl (by omega) ?_)
        refine uA ?_
        exact ⟨(mid + 1,b,lim,_,bv,us),uH,uH,rfl,rfl,uS,⟨by simp only;omega,by simp only;omega,by simp only;omega,by simp only;omega,hR2,hL2,hDy.perm hSu.perm,by simp only;omega⟩,by simp only;omega⟩
       ·refine uA ?_
        refine TO.step rfl (OT.arith (r':=((mid + 1 : Nat) : Int)) rfl rfl rfl rfl rfl rfl rfl (by omega) ?_)
        refine uA ?_
        rw [← hyl]
        refine TO.step rfl (OT.call rfl rfl rfl rfl rfl rfl goes81 ((ih m L (mid + 1) b lim ys (by omega) (by omega) (by omega) hDy (by omega) (Low.right hPa)).x ?_));
        rintro r1 m1 L1 ⟨rfl,us,hSu,hOu,rfl⟩
        have hul:=hSu.len
        obtain ⟨hR2,hL2⟩:=hRz.left ltC_ord hLz hPa hSu hOu
        refine uA ?_
        exact ⟨(a,mid,lim,_,bv,us),uH,uH,rfl,rfl,uS,⟨by simp only;omega,by simp only;omega,by simp only;omega,by simp only;omega,hR2,hL2,hDy.perm hSu.perm,by simp only;omega⟩,by simp only;omega⟩
theorem sortfunc_ch (m : Mem) (L : List Item) (bd c : Nat) (xs : List Ch) (hD : DomC xs) (hlim : xs.length ≤ 1000000) (h0 : 0 < xs.length) :
  TCall Tryz.prog 42 ⟨[.slice (some ⟨bd,0,none⟩) xs.length c,chF]⟩ m (chR bd xs :: L) (fun r m' L'=>m=m' ∧ ∃ ys,ys.Perm xs∧Sn ltC ys 0 ys.length∧chR bd ys :: L=L'):=by
 unfold TCall
 refine TCallX.enter Tryz.func42 rfl 14 rfl ?_
 refine uA ?_
 refine TO.step rfl (OT.conv tab (r:=(xs.length : Int)) rfl rfl rfl rfl rfl rfl (u64_in' (by omega) (by omega)) ?_)
 refine uA ?_
 refine TO.step rfl (OT.call rfl rfl rfl rfl rfl rfl goes82 ((len_law m _ xs.length h0 (by omega)).x ?_));
 rintro r1 m1 L1 ⟨rfl,rfl,k,rfl,hk1,hk2,hk3⟩
 refine uA ?_
 refine TO.step rfl (OT.call rfl rfl rfl rfl rfl rfl goes81 ((pdq_ch bd c xs.length m L 0 xs.length k xs (by omega) (by omega) (Nat.le_refl _) hD ⟨hlim,by omega⟩ (fun h=>by omega)).x ?_));
 rintro r1 m1 L1 ⟨rfl,ys,hS,hO,rfl⟩
 refine uA ?_
 refine retQ_n rfl uS ⟨rfl,ys,hS.perm,by rw [hS.len];exact hO,rfl⟩
end Go.Sep
set_option linter.unusedVariables false
set_option linter.unusedSimpArgs false
namespace Go.Sep
def bufI (s : Sl) (cs : List Value) : Item :=
 match s.a with
 | none => .room 0 0 0
 | some a => .cells a.block a.off cs
def Own0 (s : Sl) : Prop:=s = ⟨none,0,0⟩ ∨ ∃ b,s.a=some ⟨b,0,none⟩
theorem Own0.nil : Own0 ⟨none,0,0⟩ := .inl rfl
section
variable {P : Program} {N : Nat} {ρ : Env} {D : List Deferred} {m : Mem} {L : List Item} {Q : EPost} {full : List Oper} {o : Oper} {K : Env→Mem→List Item→Prop}
theorem run_appendB (T : Tab P) {t t2 e e2 ty : TypeId} {ei ei2 : TI} {w : World} {s s2 : Sl} {xs news : List Value} (he : T.elem t=some (e,ei)) (he2 : T.elem t2=some (e2,ei2))
  (hw : St m w (bufI s xs :: tok s ei.size :: L)) (ho : Own0 s) (hx : xs.length=s.len * ei.size) (hy : Src w s2 ei.size news) (h1 : allOne news=true) (hzs : ei.zero.cells.size=ei.size) (hcap : s.len ≤ s.cap)
  (hb : 0 < ei.bytes) (hfit : (s.len + s2.len) * ei.bytes ≤ 140737488355328) :
  ∃ s' w',(Builtin.append_ #[t,t2] ty #[s.v,s2.v]).run P w = .ok s'.v w' ∧ St m w' (bufI s' (xs++news) :: tok s' ei.size :: L)∧Own0 s' ∧ s'.len=s.len + s2.len∧s'.len ≤ s'.cap:=by
 obtain ⟨ti,h4,h5,h6⟩:=elem_get he
 obtain ⟨ti2,k4,k5,k6⟩:=elem_get he2
 obtain ⟨_,_,hu,_⟩:=T.ok t ti h4
 rw [h5] at hu
 obtain ⟨_,_,hu2,_⟩:=T.ok t2 ti2 k4
 rw [k5] at hu2
 obtain ⟨info,q1,q2,q3,q4,q5⟩:=T.ok e ei h6
 have hnew:=run_first (P:=P) hy
 have hbound : s.len + s2.len ≤ 140737488355328:=Nat.le_trans (Nat.le_mul_of_pos_right _ hb) hfit
 have hxs : Src w s ei.size xs:=by
  refine ⟨hx, ?_⟩
  rcases ho with h0 | ⟨b,ha⟩
  ·left;rw [h0]
  ·right
   refine ⟨b,0,ha, ?_⟩
   have : (bufI s xs :: tok s ei.size :: L)[0]? = some (.cells b 0 xs):=by unfold bufI;rw [ha];rfl
   exact hw.cells this
 by_cases hroom : s.len + s2.len ≤ s.cap
 ·rcases ho with hnil | ⟨b,ha⟩
  ·subst hnil
   simp only at hroom hx
   have hz : s2.len=0:=by omega
   have hxs : xs=[]:=List.eq_nil_of_length_eq_zero (by simpa using hx)
   have hns : news=[]:=List.eq_nil_of_length_eq_zero (by have:=hy.1;rw [hz] at this;simpa using this)
   subst hxs;subst hns
   refine ⟨⟨none,0,0⟩,w, ?_,hw, .inl rfl,by simp [hz],by simp⟩
   have hnew' : (Builtin.firstCells ei.size 0 s2.v).run P w = .ok (⟨[]⟩ : Array Value) w:=by rw [← hz];exact hnew
   simp only [Sl.v] at hnew'
   simp [Builtin.append_,run_underlying hu,run_underlying hu2,sizeOf,typeInfo,q1,q3,Builtin.lenOf,hz,hnew']
  ·obtain ⟨a,n,c⟩:=s
   simp only at ha hroom hcap hbound hfit hx
   subst ha
   have hst:=hw.perm (List.Perm.swap _ _ _)
   simp only [tok,bufI] at hst
   obtain ⟨vs,hvl,hst⟩:=hst.ofRoom
   have hnl : news.length ≤ vs.length:=by
    rw [hvl,hy.1];exact Nat.mul_le_mul_right _ (by omega)
   obtain ⟨w',hr,hst'⟩:=run_storeCells (P:=P) news vs 0 0 w hst h1 (by omega)
   rw [putAt_zero hnl] at hst'
   have hst2:=hst'.split
   have hst3:=(hst2.perm (List.Perm.trans (List.Perm.swap _ _ _) (List.Perm.cons _ (List.Perm.swap _ _ _)))).toRoom
   have hst4:=(hst3.perm (List.Perm.trans (List.Perm.swap _ _ _) (List.Perm.cons _ (List.Perm.swap _ _ _)))).join (by rw [hx])
   refine ⟨⟨some ⟨b,0,none⟩,n + s2.len,c⟩,w', ?_, ?_, .inr ⟨b,rfl⟩,rfl,hroom⟩
   ·have hr' : (storeCells ((⟨b,0,none⟩ : Addr).add (n * ei.size)) news).run P w = .ok () w':=by rw [addr_add];exact hr
    simp only [Sl.v] at hnew
    simp [Builtin.append_,run_underlying hu,run_underlying hu2,sizeOf,typeInfo,q1,q3,Builtin.lenOf,hroom,hnew,hr']
   ·have e1 : Item.room b (0 + n * ei.size + news.length) (List.drop news.length vs).length=tok ⟨some ⟨b,0,none⟩,n + s2.len,c⟩ ei.size:=by
     simp only [tok,List.length_drop,hvl,hy.1]
     congr 1
     ·rw [Nat.add_mul];omega
     ·rw [← Nat.sub_mul];congr 1;omega
    rw [← e1]
    exact hst4
 ·have hlt : s.cap < s.len + s2.len:=by omega
  have h48 : ¬ (Builtin.nextslicecap (s.len + s2.len) s.cap * ei.bytes > 281474976710656):=by
   have:=growslice_fits hlt hfit
   omega
  have hold:=run_first (P:=P) (hxs.drew)
  have hnew':=run_first (P:=P) (hy.drew)
  obtain ⟨nc,hnc,hge⟩ : ∃ nc,nc=(Question.appendCap (s.len + s2.len) s.cap e).cut (w.tape w.drawn (.appendCap (s.len + s2.len) s.cap e))∧s.len + s2.len ≤ nc:=⟨_,rfl,by simp [Question.cut]⟩
  have hst:=hw.drew.allocCells ((⟨xs⟩ : Array Value)++(⟨news⟩ : Array Value)++Builtin.zeroCells ei.zero.cells (nc - (s.len + s2.len))) e
  have hl1 : ((⟨xs⟩ : Array Value)++(⟨news⟩ : Array Value)++Builtin.zeroCells ei.zero.cells (nc - (s.len + s2.len))).toList=(xs++news)++(Builtin.zeroCells ei.zero.cells (nc - (s.len + s2.len))).toList:=by simp
  rw [hl1] at hst
  have g4:=(hst.split.perm (List.Perm.swap _ _ _)).toRoom
  have hxl : (xs++news).length=(s.len + s2.len) * ei.size:=by rw [List.length_append,hx,hy.1,Nat.add_mul]
  refine ⟨⟨some ⟨w.heap.size,0,none⟩,s.len + s2.len,nc⟩,w.drew.alloc (.cells ((⟨xs⟩ : Array Value)++(⟨news⟩ : Array Value)++Builtin.zeroCells ei.zero.cells (nc - (s.len + s2.len))) e), ?_, ?_, .inr ⟨_,rfl⟩,rfl,hge⟩
  ·simp only [Sl.v] at hold hnew'
   have hb0 : ei.bytes ≠ 0:=by omega
   have hmax : ¬ (9223372036854775807 < (s.len : Int) + (s2.len : Int)):=by omega
   simp [Builtin.append_,run_underlying hu,run_underlying hu2,sizeOf,typeInfo,zeroValue,q1,q3,q4,q5,Builtin.lenOf,hroom,hold,hnew',h48,hmax,Question.forced,newRow,← hnc,IntKind.max,IntKind.signed,IntKind.bits,hb0]
   congr 2
   apply Array.ext'
   simp
  ·have e1 : Item.room w.heap.size (0 + (xs++news).length) (Builtin.zeroCells ei.zero.cells (nc - (s.len + s2.len))).toList.length=tok ⟨some ⟨w.heap.size,0,none⟩,s.len + s2.len,nc⟩ ei.size:=by
    simp only [tok,hxl,Array.length_toList,size_zeroCells,hzs]
   rw [← e1]
   exact (g4.perm (List.Perm.swap _ _ _)).sub (List.Sublist.cons_cons _ (List.Sublist.cons_cons _ (List.Sublist.cons _ (List.sublist_cons_self _ _))))
theorem OT.appendB {H α : Type} (T : Tab P) (r : R H α) {s s2 : Sl} {hs : List H} {l2 : List α} {x y : Operand} {t t2 : TypeId} {d : Nat} (hown : Own0 s) (hlen : hs.length=s.len) (hcap : s.len ≤ s.cap) (hs2 : SlRep r m s2 l2)
  (ho : o.op = .call ⟨.builtin .append,⟨[x,y]⟩,⟨[t,t2]⟩⟩) (hd : o.dst=some d) (hN : Nat.blt d N=true) (hx : ev ρ x=some s.v) (hy : ev ρ y=some s2.v) (hT : T.okElem t t2 r.size r.bytes=true)
  (hfit : (hs.length + l2.length) * r.bytes ≤ 140737488355328)
  (hK : ∀ (s' : Sl) (hs2 : List H),All2 (r.rep m) hs2 l2→(hs++hs2).length=s'.len→s'.len ≤ s'.cap→Own0 s' → K ((d,s'.v) :: ρ) m (bufI s' (encs r (hs++hs2)) :: tok s' r.size :: L)) : OT P N o ρ D m (bufI s (encs r hs) :: tok s r.size :: L) Q K:=by
 obtain ⟨e,e2,ei,ei2,q1,q2,q3,q4,q5,q6⟩:=okElem_get hT
 intro a w ha
 obtain ⟨hl2,k1,k2,k3,k4⟩:=hs2.src ha.st
 have hb : 0 < ei.bytes:=by omega
 obtain ⟨s',w',hr,g2,g3,g4,g5⟩:=run_appendB (P:=P) (ty:=o.type) T q1 q2 (by rw [q3];exact ha.st) hown (by rw [q3,encs_len,hlen]) (by rw [q3];exact k2) (encs_one r hl2) q6 hcap hb
  (by rw [← hlen,hs2.len,q4];exact hfit)
 have he : (execOp a.eval o).run P w = .ok (.value s'.v) w':=by
  simp only [execOp,ho,resolve,invoke,builtin,Sem.run_bind,Sem.run_pure,Result.andThen_ok,List.map_toArray,List.map_cons,List.map_nil,ha.env.eval hx,ha.env.eval hy]
  simp only [List.map_toArray,List.map_cons,List.map_nil,ha.env.eval hx,ha.env.eval hy,hr,Result.andThen_ok]
 simp only [Oper.wp,he,Oper.upon]
 rw [hd]
 have hp:=ha.put hN s'.v
 rw [q3,← encs_append] at g2
 exact ⟨_,_,_,⟨hp.size,hp.env,hp.defers,g2⟩,hK s' hl2 k1 (by rw [g4,List.length_append,hlen,k1.length,hs2.len]) g5 g3⟩
theorem TO.freezeB {H α : Type} {l : List Oper} (r : R H α) {s : Sl} {hs : List H} {as1 : List α} (hown : Own0 s) (hlen : hs.length=s.len) (hcap : s.len ≤ s.cap) (hr : All2 (r.rep m) hs as1) (hfit : as1.length * r.bytes ≤ 140737488355328)
  (h : ∀ m',m ≤ m' → SlRep r m' s as1→TO P N ⟨full⟩ l ρ D m' L Q) : TO P N ⟨full⟩ l ρ D m (bufI s (encs r hs) :: L) Q:=by
 rcases hown with h0 | ⟨b,ha⟩
 ·subst h0
  have e : hs=[]:=List.eq_nil_of_length_eq_zero hlen
  subst e
  have e2 : as1=[]:=List.eq_nil_of_length_eq_zero (by rw [← hr.length];rfl)
  subst e2
  exact TO.drop (List.sublist_cons_self _ _) (h m (Mem.le_refl _) (SlRep.nil _ _))
 ·have e : bufI s (encs r hs) = .cells b 0 (encs r hs):=by unfold bufI;rw [ha]
  rw [e]
  refine TO.freeze fun m' hm hA=>h m' hm ?_
  have e2 : s.len=as1.length:=by rw [← hlen,hr.length]
  exact ⟨e2,hcap,by rw [e2];exact hfit,hs,hr.mono fun _ _=>r.mono hm, .inr ⟨b,0,ha,hA⟩⟩
end
end Go.Sep
set_option linter.unusedVariables false
set_option linter.unusedSimpArgs false
namespace Go.Sep
open Go.Proofs
attribute [local irreducible] TC TO OT TCallX TCall DO DOt thenQ blockQ retQ At
def idxF {α : Type} : List α → (α → Bool)→Nat→Int
 | [],_,_ => -1
 | x :: l,p,k=>if p x then (k : Int) else idxF l p (k + 1)
theorem idxF_ge {α : Type} (p : α → Bool) : ∀ (l : List α) (k : Nat),decide (0 ≤ idxF l p k)=l.any p
 | [],_=>rfl
 | x :: l,k=>by
  rw [idxF,List.any_cons]
  by_cases h : p x=true
  ·rw [if_pos h,h];simp
  ·rw [if_neg h,idxF_ge p l,Bool.not_eq_true _ |>.mp h];simp
theorem indexFunc_file (m : Mem) (L : List Item) (s : Sl) (l : List Ch) (p : Ch→Bool) (fn : FuncId) (hg : Goes Tryz.prog fn) (hs : SlRep rCh m s l)
  (hp : ∀ a : Ch,a ∈ l→TCall Tryz.prog fn ⟨[chV a]⟩ m L (Ret (.bool (p a)) m L)) :
  TCall Tryz.prog 74 ⟨[s.v, .func (.func fn) ⟨[]⟩ ⟨[]⟩]⟩ m L (Ret (.int .i64 (idxF l p 0)) m L):=by
 unfold TCall
 refine TCallX.enter Tryz.func74 rfl 19 rfl ?_
 refine uA ?_
 refine TC.loopK (ι:=Nat) [0,1,7] rfl (fun k=>[(8, .int .i64 (k : Int))]) (fun _=>m) (fun _=>L) (fun k=>k ≤ l.length∧idxF l p 0=idxF (l.drop k) p k) (fun k=>l.length - k) 0 uH rfl uS ⟨Nat.zero_le _,rfl⟩ ?_
 rintro k ⟨hk,hI⟩
 have hl:=hs.len
 have hsm:=hs.small rfl
 refine uA ?_
 refine TC.condP rfl (fun h => ?_) (fun h => ?_)
 ·have hlt : k < l.length:=by omega
  have hx : l[k]? = some l[k]:=by simp [hlt]
  refine uA ?_
  refine TO.step rfl (OT.index tab rCh k hs rfl rfl rfl rfl rfl (by first | rfl | omega | (simp only;omega)) rfl hx ?_)
  rintro b i hd hr hA
  obtain rfl : hd=l[k]:=hr
  (refine TO.step rfl (OT.loadA0 tab hA rfl rfl rfl rfl rfl ?_))
  refine uA ?_
  refine TO.step rfl (OT.call (all:=[chV l[k]]) rfl rfl rfl rfl rfl rfl hg ((hp l[k] (List.getElem_mem hlt)).x ?_))
  rintro _ _ _ ⟨rfl,rfl,rfl⟩
  refine uA ?_
  refine TC.cond rfl (fun h => ?_) (fun h => ?_)
  ·refine uA ?_
   refine retQ_ret rfl uS ⟨rfl,rfl, ?_⟩
   rw [hI,List.drop_eq_getElem_cons hlt,idxF,if_pos h]
  ·refine uA ?_
   refine TO.step rfl (OT.arith (r':=((k + 1 : Nat) : Int)) rfl rfl rfl rfl rfl rfl rfl (by omega) ?_)
   refine uA ?_
   exact ⟨k + 1,uH,uH,rfl,rfl,uS,⟨by omega,by rw [hI,List.drop_eq_getElem_cons hlt,idxF,if_neg (by simp [h])]⟩,by omega⟩
 ·refine uA ?_
  refine retQ_ret rfl uS ⟨rfl,rfl, ?_⟩
  rw [hI,List.drop_eq_nil_of_le (by omega)]
  rfl
theorem containsFunc_file (m : Mem) (L : List Item) (s : Sl) (l : List Ch) (p : Ch→Bool) (fn : FuncId) (hg : Goes Tryz.prog fn) (hs : SlRep rCh m s l)
  (hp : ∀ a : Ch,a ∈ l→TCall Tryz.prog fn ⟨[chV a]⟩ m L (Ret (.bool (p a)) m L)) :
  TCall Tryz.prog 38 ⟨[s.v, .func (.func fn) ⟨[]⟩ ⟨[]⟩]⟩ m L (Ret (.bool (l.any p)) m L):=by
 unfold TCall
 refine TCallX.enter Tryz.func38 rfl 9 rfl ?_
 refine uA ?_
 refine TO.step rfl (OT.call rfl rfl rfl rfl rfl rfl goes74 ((indexFunc_file m L s l p fn hg hs hp).x ?_));
 rintro _ _ _ ⟨rfl,rfl,rfl⟩
 refine uA ?_
 refine retQ_ret rfl uS ⟨rfl,rfl, ?_⟩
 rw [idxF_ge]
theorem badName_law (m : Mem) (L : List Item) (x : Ch) (hx : x.nm.length ≤ 140737488355328) : TCall Tryz.prog 39 ⟨[chV x]⟩ m L (Ret (.bool (!isName x.nm)) m L):=by
 unfold TCall
 refine TCallX.enter Tryz.func39 rfl 7 rfl ?_
 refine uA ?_
 refine TO.step rfl (OT.box rfl rfl rfl rfl rfl (fun bx => ?_))
 refine uA ?_
 refine uM ?_
 refine uA ?_
 refine TO.step rfl (OT.call rfl rfl rfl rfl rfl rfl goes40 ((name_law _ _ x.nm hx).x ?_));
 rintro _ _ _ ⟨rfl,rfl,rfl⟩
 refine uA ?_
 refine retQ_ret rfl uS ⟨rfl,rfl, ?_⟩
 rfl
theorem all2_same {m : Mem} : ∀ {hs l : List Ch},All2 (rCh.rep m) hs l→hs=l
 | [],[],_=>rfl
 | [],_ :: _,h=>by cases h
 | _ :: _,[],h=>by cases h
 | x :: hs,y :: l,h=>by
  obtain ⟨h1,h2⟩:=h
  rw [show x=y from h1,all2_same h2]
theorem cloneC_law (s : Sl) (l : List Ch) (m : Mem) (L : List Item) (hs : SlRep rCh m s l) : TCall Tryz.prog 41 ⟨[s.v]⟩ m L (fun r m' L'=>m ≤ m' ∧ ∃ s' : Sl,r=s'.v∧Own0 s' ∧ s'.len=l.length∧s'.len ≤ s'.cap∧L' = bufI s' (encs rCh l) :: L):=by
 unfold TCall
 refine TCallX.enter Tryz.func41 rfl 8 rfl ?_
 refine uA ?_
 refine TO.step rfl (OT.nilSlice tab rfl rfl rfl rfl rfl rfl ?_)
 refine uA ?_
 refine TC.condP rfl (fun e => ?_) (fun e => ?_)
 ·have hz : l=[]:=by
   rcases hs.cells with ⟨hh,h1,⟨h2, -⟩ | ⟨b,o,h2, -⟩⟩
   ·exact h2
   ·rw [e] at h2;cases h2
  subst hz
  refine TC.grow0 (size:=0) ?_
  refine uA ?_
  exact retQ_ret rfl (L':=bufI ⟨none,0,0⟩ [] :: L) (List.Sublist.refl _) ⟨Mem.le_refl _,⟨none,0,0⟩,rfl,Own0.nil,rfl,Nat.le_refl _,rfl⟩
 ·refine uA ?_
  refine TO.step rfl (OT.lit tab rfl rfl rfl rfl (fun b => ?_))
  refine TO.growL b rCh.size ?_
  refine TO.perm (List.Perm.swap _ _ _) ?_
  have hf:=hs.fit
  have hl:=hs.len
  refine uA ?_
  refine TO.step rfl (OT.appendB (s:=⟨some ⟨b,0,none⟩,0,0⟩) (hs:=[]) tab rCh (.inr ⟨b,rfl⟩) rfl (Nat.le_refl _) hs rfl rfl rfl rfl rfl rfl (by rw [← hl];simpa using hf) (fun s' hs2 hr hlen hcap hown => ?_))
  obtain rfl : hs2=l:=all2_same hr
  refine uA ?_
  exact retQ_ret rfl (L':=bufI s' (encs rCh ([]++hs2)) :: L) uS ⟨Mem.le_refl _,s',rfl,hown,hlen.symm,hcap,rfl⟩
theorem len64_0 (m : Mem) (L : List Item) : TCall Tryz.prog 144 ⟨[.int .u64 0]⟩ m L (Ret (.int .i64 0) m L):=by
 unfold TCall
 refine TCallX.enter Tryz.func144 rfl 25 rfl ?_
 refine uA ?_
 refine TO.step rfl (OT.conv tab (r:=((0 : Nat) : Int)) rfl rfl rfl rfl rfl rfl rfl ?_)
 refine uA ?_
 refine TO.step rfl (OT.sidxK tab (s:=len8) (b:=0) 0 rfl rfl rfl rfl rfl rfl rfl rfl ?_)
 refine uA ?_
 refine TO.step rfl (OT.conv tab (r:=(0 : Int)) rfl rfl rfl rfl rfl rfl rfl ?_)
 refine uA ?_
 refine TO.step rfl (OT.arith (r':=(0 : Int)) rfl rfl rfl rfl rfl rfl (by omega) (by omega) ?_)
 refine uA ?_
 refine retQ_ret rfl uS ⟨rfl,rfl, ?_⟩
 rfl
theorem len_0 (m : Mem) (L : List Item) : TCall Tryz.prog 82 ⟨[.int .u64 0]⟩ m L (Ret (.int .i64 0) m L):=by
 unfold TCall
 refine TCallX.enter Tryz.func82 rfl 8 rfl ?_
 refine uA ?_
 refine TO.step rfl (OT.call rfl rfl rfl rfl rfl rfl goes144 ((len64_0 m L).x ?_));
 rintro _ _ _ ⟨rfl,rfl,rfl⟩
 refine uA ?_
 refine retQ_ret rfl uS ⟨rfl,rfl, ?_⟩
 rfl
theorem insort_0 (m : Mem) (L : List Item) (v : Option Addr) (c : Nat) : TCall Tryz.prog 135 ⟨[.slice v 0 c, .int .i64 0, .int .i64 0,chF]⟩ m L (fun r m' L'=>m=m' ∧ L=L'):=by
 unfold TCall
 refine TCallX.enter Tryz.func135 rfl 53 rfl ?_
 refine uA ?_
 refine TO.step rfl (OT.arith (r':=(1 : Int)) rfl rfl rfl rfl rfl rfl (by omega) (by omega) ?_)
 refine uA ?_
 refine TC.loopK (ι:=Unit) [0,1,2,3] rfl (fun x=>[(8, .int .i64 1)]) (fun _=>m) (fun x=>L) (fun x=>True) (fun x=>0) () uH rfl uS trivial ?_
 rintro _ _
 refine uA ?_
 refine retQ_n rfl uS ⟨rfl,rfl⟩
theorem pdq_0 (m : Mem) (L : List Item) (v : Option Addr) (c : Nat) : TCall Tryz.prog 81 ⟨[.slice v 0 c, .int .i64 0, .int .i64 0, .int .i64 0,chF]⟩ m L (fun r m' L'=>m=m' ∧ L=L'):=by
 unfold TCall
 refine TCallX.enter Tryz.func81 rfl 148 rfl ?_
 refine uA ?_
 refine TC.loopK (ι:=Unit) [0,4] rfl (fun x=>[(1, .int .i64 0),(2, .int .i64 0),(3, .int .i64 0),(10, .bool true),(11, .bool true)]) (fun _=>m) (fun x=>L) (fun x=>True) (fun x=>0) () uH rfl uS trivial ?_
 rintro _ _
 refine uA ?_
 refine TO.step rfl (OT.arith (r':=(0 : Int)) rfl rfl rfl rfl rfl rfl (by omega) (by omega) ?_)
 refine uA ?_
 refine TO.step rfl (OT.call rfl rfl rfl rfl rfl rfl goes135 ((insort_0 m L v c).x ?_));
 rintro _ _ _ ⟨rfl,rfl⟩
 refine uA ?_
 refine retQ_ret rfl uS ⟨rfl,rfl⟩
theorem sort0_law (m : Mem) (L : List Item) (v : Option Addr) (c : Nat) : TCall Tryz.prog 42 ⟨[.slice v 0 c,chF]⟩ m L (fun r m' L'=>m=m' ∧ L=L'):=by
 unfold TCall
 refine TCallX.enter Tryz.func42 rfl 14 rfl ?_
 refine uA ?_
 refine TO.step rfl (OT.conv tab (r:=(0 : Int)) rfl rfl rfl rfl rfl rfl rfl ?_)
 refine uA ?_
 refine TO.step rfl (OT.call rfl rfl rfl rfl rfl rfl goes82 ((len_0 m L).x ?_));
 rintro _ _ _ ⟨rfl,rfl,rfl⟩
 refine uA ?_
 refine TO.step rfl (OT.call rfl rfl rfl rfl rfl rfl goes81 ((pdq_0 m L v c).x ?_));
 rintro _ _ _ ⟨rfl,rfl⟩
 refine uA ?_
 refine retQ_n rfl uS ⟨rfl,rfl⟩
end Go.Sep
