/-
  Quote, the program's and the reference's. Written by program (mkquote.py).
-/
import Derived.Test.YtdejeeooegekiaaDoorB6
set_option linter.unusedVariables false
set_option linter.unusedSimpArgs false
namespace Go.Sep
open Go.Proofs
attribute [local irreducible] TC TO OT TCallX TCall DO DOt thenQ blockQ retQ At

def hexD (n : Nat) : UInt8 := UInt8.ofNat (if n < 10 then 48 + n else 87 + n)
/-- a byte within a literal -/
def quoteC (c : UInt8) : Str :=
  if c.toNat = 10 then [92, 110] else if c.toNat = 9 then [92, 116] else if c.toNat = 34 ∨ c.toNat = 92 then [92, c]
  else if 32 ≤ c.toNat ∧ c.toNat ≤ 126 then [c] else [92, 120, hexD (c.toNat / 16), hexD (c.toNat % 16)]
def quoteB (s : Str) : Str := s.flatMap quoteC
def quoteD (s : Str) : Str := 34 :: (quoteB s ++ [34])
theorem quoteC_len (c : UInt8) : (quoteC c).length ≤ 4 := by
  unfold quoteC
  repeat' split
  all_goals simp
theorem quoteB_len (s : Str) : (quoteB s).length ≤ 4 * s.length := by
  induction s with
  | nil => simp [quoteB]
  | cons c r ih =>
    have := quoteC_len c
    unfold quoteB at ih ⊢
    rw [List.flatMap_cons, List.length_append, List.length_cons]
    omega
theorem quoteB_take {s : Str} {i : Nat} (h : i < s.length) : quoteB (s.take (i + 1)) = quoteB (s.take i) ++ quoteC s[i] := by
  unfold quoteB
  rw [List.take_succ_eq_append_getElem h, List.flatMap_append]
  simp
theorem hexS_get {n : Nat} (h : n < 16) : ([48, 49, 50, 51, 52, 53, 54, 55, 56, 57, 97, 98, 99, 100, 101, 102] : Str)[n]? = some (hexD n) := by
  have := (by decide +kernel : ∀ n : Fin 16, ([48, 49, 50, 51, 52, 53, 54, 55, 56, 57, 97, 98, 99, 100, 101, 102] : Str)[n.val]? = some (hexD n.val)) ⟨n, h⟩
  exact this
theorem u8_shr4 (n : Nat) : (if BinOp.shr = .shl then IntKind.u8.wrap ((n : Int) * 2 ^ (min (Int.toNat 4) IntKind.u8.bits)) else Int.fdiv (n : Int) (2 ^ (min (Int.toNat 4) IntKind.u8.bits))) = ((n / 16 : Nat) : Int) := by
  have : (min (Int.toNat 4) IntKind.u8.bits) = 4 := rfl
  rw [this, if_neg (by decide)]
  rw [Int.fdiv_eq_ediv_of_nonneg _ (by decide)]
  rfl
theorem u8_quo16 (n : Nat) (h : n < 256) : IntKind.u8.wrap ((n : Int).tdiv 16) = ((n / 16 : Nat) : Int) := by
  have h1 : (n : Int).tdiv 16 = ((n / 16 : Nat) : Int) := rfl
  rw [h1, u8_in (by omega) (by omega)]
theorem u8_rem16 (n : Nat) : (n : Int).tmod 16 = ((n % 16 : Nat) : Int) := rfl

theorem qc_nl {c : UInt8} (h : c.toNat = 10) : quoteC c = [92, 110] := by rw [quoteC, if_pos h]
theorem qc_tab {c : UInt8} (h : c.toNat = 9) : quoteC c = [92, 116] := by rw [quoteC, if_neg (by omega), if_pos h]
theorem qc_self {c : UInt8} (h : c.toNat = 34 ∨ c.toNat = 92) : quoteC c = [92, c] := by rw [quoteC, if_neg (by omega), if_neg (by omega), if_pos h]
theorem qc_one {c : UInt8} (h1 : c.toNat ≠ 34) (h2 : c.toNat ≠ 92) (h3 : 32 ≤ c.toNat) (h4 : c.toNat ≤ 126) : quoteC c = [c] := by rw [quoteC, if_neg (by omega), if_neg (by omega), if_neg (by omega), if_pos ⟨h3, h4⟩]
theorem qc_hex {c : UInt8} (h1 : c.toNat ≠ 10) (h2 : c.toNat ≠ 9) (h : c.toNat < 32 ∨ 126 < c.toNat) : quoteC c = [92, 120, hexD (c.toNat / 16), hexD (c.toNat % 16)] := by rw [quoteC, if_neg h1, if_neg h2, if_neg (by omega), if_neg (by omega)]

structure QuoS where
  m : Mem
  sl : Sl
  i : Nat
  acc : Str


set_option maxHeartbeats 2000000 in
theorem quote_law (m : Mem) (L : List Item) (s : Str) (hl : s.length ≤ 1099511627776) : TCall Tryd.prog 13 ⟨[strV s]⟩ m L (Ret (strV (quoteD s)) m L) := by
  refine TCall.forget ?_
  unfold TCall
  refine TCallX.enter Tryd.func13 rfl 61 rfl ?_
  repeat (first|refine q1 ?_|refine q3 ?_|refine q4 tab rfl rfl ?_|refine q5 ?_|refine q6 ?_)
  refine TO.step rfl (OT.lit tab rfl rfl rfl rfl (fun b => ?_))
  refine TO.freeze fun m1 hm1 hA1 => ?_
  refine TO.tokFull b 1 ?_
  repeat (first|refine q1 ?_|refine q2 ?_|refine q3 ?_|refine q4 tab rfl rfl ?_|refine q5 ?_|refine q6 ?_)
  refine TC.loopK (ι := QuoS) [0, 8] rfl (fun x => [(3, x.sl.v), (9, .int .i64 (x.i : Int))]) (fun x => x.m) (fun x => tok x.sl 1 :: L) (fun x => m ≤ x.m ∧ x.i ≤ s.length ∧ SlRep rByte x.m x.sl x.acc ∧ Own x.sl ∧ x.acc = 34 :: quoteB (s.take x.i)) (fun x => s.length - x.i) ⟨m1, ⟨some ⟨b, 0, none⟩, 1, 1⟩, 0, [34]⟩ (by repeat (first|exact trivial|refine And.intro rfl ?_)) rfl (by repeat (exact List.Sublist.refl _)) ⟨hm1, Nat.zero_le _, SlRep.bytes (bs := [34]) hA1 rfl (by decide), Own.lit _ _ _, rfl⟩ ?_
  rintro ⟨m1, sl, i, acc⟩ ⟨hm, hi, hsl, hown, hacc⟩
  replace hm : m ≤ m1 := hm
  replace hi : i ≤ s.length := hi
  replace hsl : SlRep rByte m1 sl acc := hsl
  replace hown : Own sl := hown
  replace hacc : acc = 34 :: quoteB (s.take i) := hacc
  have hal : acc.length ≤ 4 * i + 1 := by
    rw [hacc, List.length_cons]
    have := quoteB_len (s.take i)
    rw [List.length_take] at this
    omega
  show TC _ _ _ ((3, sl.v) :: (9, .int .i64 (i : Int)) :: _) _ m1 (tok sl 1 :: L) _
  repeat (first|refine q1 ?_|refine q3 ?_|refine q4 tab rfl rfl ?_|refine q5 ?_|refine q6 ?_)
  refine TC.condP rfl (fun g1 => ?_) (fun g1 => ?_)
  · have hlt : i < s.length := by omega
    have hx : s[i]? = some s[i] := by simp [hlt]
    have hc : s[i].toNat < 256 := s[i].toNat_lt
    repeat (first|refine q1 ?_|refine q2 ?_|refine q3 ?_|refine q4 tab rfl rfl ?_|refine q5 ?_|refine q6 ?_|refine q13 ?_)
    refine TO.step rfl (OT.sidx tab i rfl rfl rfl rfl rfl rfl rfl hx ?_)
    repeat (first|refine q1 ?_|refine q2 ?_|refine q3 ?_|refine q4 tab rfl rfl ?_|refine q5 ?_|refine q6 ?_)
    refine TC.condP rfl (fun c1 => ?_) (fun c1 => ?_)
    · repeat (first|refine q3 ?_|refine q4 tab rfl rfl ?_)
      refine TO.step rfl (OT.appendS tab 0 (bs := [92, 110]) hsl hown rfl rfl rfl rfl rfl rfl rfl rfl rfl rfl rfl (by show acc.length + 2 ≤ _; omega) (fun s' m3 hm3 hs' ho' => ?_))
      repeat (first|refine q3 ?_|refine q4 tab rfl rfl ?_|refine q5 ?_|refine q6 ?_|refine q7 ?_)
      refine TO.step rfl (OT.arith (r' := ((i + 1 : Nat) : Int)) rfl rfl rfl rfl rfl rfl rfl (by omega) ?_)
      repeat (first|refine q4 tab rfl rfl ?_|refine q5 ?_|refine q6 ?_)
      exact ⟨⟨m3, s', i + 1, acc ++ [92, 110]⟩, (by repeat (first|exact trivial|refine And.intro rfl ?_)), (by repeat (first|exact trivial|refine And.intro rfl ?_)), rfl, rfl, (by repeat (exact List.Sublist.refl _)), ⟨Mem.le_trans hm hm3, by show i + 1 ≤ _; omega, hs', ho', by show acc ++ _ = _; rw [hacc, List.cons_append, quoteB_take hlt, (qc_nl (by omega))]⟩, by show s.length - (i + 1) < s.length - i; omega⟩
    repeat (first|refine q1 ?_|refine q3 ?_|refine q4 tab rfl rfl ?_|refine q5 ?_|refine q6 ?_)
    refine TC.condP rfl (fun c2 => ?_) (fun c2 => ?_)
    · repeat (first|refine q3 ?_|refine q4 tab rfl rfl ?_)
      refine TO.step rfl (OT.appendS tab 0 (bs := [92, 116]) hsl hown rfl rfl rfl rfl rfl rfl rfl rfl rfl rfl rfl (by show acc.length + 2 ≤ _; omega) (fun s' m3 hm3 hs' ho' => ?_))
      repeat (first|refine q3 ?_|refine q4 tab rfl rfl ?_|refine q5 ?_|refine q6 ?_|refine q7 ?_)
      refine TO.step rfl (OT.arith (r' := ((i + 1 : Nat) : Int)) rfl rfl rfl rfl rfl rfl rfl (by omega) ?_)
      repeat (first|refine q4 tab rfl rfl ?_|refine q5 ?_|refine q6 ?_)
      exact ⟨⟨m3, s', i + 1, acc ++ [92, 116]⟩, (by repeat (first|exact trivial|refine And.intro rfl ?_)), (by repeat (first|exact trivial|refine And.intro rfl ?_)), rfl, rfl, (by repeat (exact List.Sublist.refl _)), ⟨Mem.le_trans hm hm3, by show i + 1 ≤ _; omega, hs', ho', by show acc ++ _ = _; rw [hacc, List.cons_append, quoteB_take hlt, (qc_tab (by omega))]⟩, by show s.length - (i + 1) < s.length - i; omega⟩
    repeat (first|refine q1 ?_|refine q3 ?_|refine q4 tab rfl rfl ?_)
    (refine TO.splitP rfl rfl (fun c3 => ?_) (fun c3 => ?_))
    · repeat (first|refine q3 ?_|refine q4 tab rfl rfl ?_|refine q5 ?_|refine q6 ?_|refine q16 rfl ?_)
      refine TO.step rfl (OT.lit tab rfl rfl rfl rfl (fun b => ?_))
      refine TO.freeze fun m2 hm2 hA => ?_
      refine TO.step rfl (OT.append tab rByte 0 (hsl.mono hm2) hown (SlRep.bytes (bs := [92, s[i]]) (n := 2) hA rfl (by decide)) rfl rfl rfl rfl rfl rfl rfl (by show (acc.length + 2) * 1 ≤ _; omega) (fun s' m3 hm3 hs' ho' => ?_))
      repeat (first|refine q3 ?_|refine q4 tab rfl rfl ?_|refine q5 ?_|refine q6 ?_|refine q7 ?_)
      refine TO.step rfl (OT.arith (r' := ((i + 1 : Nat) : Int)) rfl rfl rfl rfl rfl rfl rfl (by omega) ?_)
      repeat (first|refine q4 tab rfl rfl ?_|refine q5 ?_|refine q6 ?_)
      exact ⟨⟨m3, s', i + 1, acc ++ [92, s[i]]⟩, (by repeat (first|exact trivial|refine And.intro rfl ?_)), (by repeat (first|exact trivial|refine And.intro rfl ?_)), rfl, rfl, (by repeat (exact List.Sublist.refl _)), ⟨Mem.le_trans hm (Mem.le_trans hm2 hm3), by show i + 1 ≤ _; omega, hs', ho', by show acc ++ _ = _; rw [hacc, List.cons_append, quoteB_take hlt, (qc_self (by omega))]⟩, by show s.length - (i + 1) < s.length - i; omega⟩
    repeat (first|refine q4 tab rfl rfl ?_|refine q5 ?_|refine q6 ?_)
    refine TC.condP rfl (fun c4 => ?_) (fun c4 => ?_)
    · repeat (first|refine q3 ?_|refine q4 tab rfl rfl ?_)
      refine TO.step rfl (OT.lit tab rfl rfl rfl rfl (fun b => ?_))
      refine TO.freeze fun m2 hm2 hA => ?_
      refine TO.step rfl (OT.append tab rByte 0 (hsl.mono hm2) hown (SlRep.bytes (bs := [92, s[i]]) (n := 2) hA rfl (by decide)) rfl rfl rfl rfl rfl rfl rfl (by show (acc.length + 2) * 1 ≤ _; omega) (fun s' m3 hm3 hs' ho' => ?_))
      repeat (first|refine q3 ?_|refine q4 tab rfl rfl ?_|refine q5 ?_|refine q6 ?_|refine q7 ?_)
      refine TO.step rfl (OT.arith (r' := ((i + 1 : Nat) : Int)) rfl rfl rfl rfl rfl rfl rfl (by omega) ?_)
      repeat (first|refine q4 tab rfl rfl ?_|refine q5 ?_|refine q6 ?_)
      exact ⟨⟨m3, s', i + 1, acc ++ [92, s[i]]⟩, (by repeat (first|exact trivial|refine And.intro rfl ?_)), (by repeat (first|exact trivial|refine And.intro rfl ?_)), rfl, rfl, (by repeat (exact List.Sublist.refl _)), ⟨Mem.le_trans hm (Mem.le_trans hm2 hm3), by show i + 1 ≤ _; omega, hs', ho', by show acc ++ _ = _; rw [hacc, List.cons_append, quoteB_take hlt, (qc_self (by omega))]⟩, by show s.length - (i + 1) < s.length - i; omega⟩
    repeat (first|refine q1 ?_|refine q3 ?_|refine q4 tab rfl rfl ?_)
    (refine TO.splitP rfl rfl (fun c5 => ?_) (fun c5 => ?_))
    · repeat (first|refine q4 tab rfl rfl ?_|refine q5 ?_|refine q6 ?_)
      refine TC.condP rfl (fun c6 => ?_) (fun c6 => ?_)
      · repeat (first|refine q3 ?_|refine q4 tab rfl rfl ?_)
        refine TO.step rfl (OT.lit tab rfl rfl rfl rfl (fun b => ?_))
        refine TO.freeze fun m2 hm2 hA => ?_
        refine TO.step rfl (OT.append tab rByte 0 (hsl.mono hm2) hown (SlRep.bytes (bs := [s[i]]) (n := 1) hA rfl (by decide)) rfl rfl rfl rfl rfl rfl rfl (by show (acc.length + 1) * 1 ≤ _; omega) (fun s' m3 hm3 hs' ho' => ?_))
        repeat (first|refine q3 ?_|refine q4 tab rfl rfl ?_|refine q5 ?_|refine q6 ?_|refine q7 ?_)
        refine TO.step rfl (OT.arith (r' := ((i + 1 : Nat) : Int)) rfl rfl rfl rfl rfl rfl rfl (by omega) ?_)
        repeat (first|refine q4 tab rfl rfl ?_|refine q5 ?_|refine q6 ?_)
        exact ⟨⟨m3, s', i + 1, acc ++ [s[i]]⟩, (by repeat (first|exact trivial|refine And.intro rfl ?_)), (by repeat (first|exact trivial|refine And.intro rfl ?_)), rfl, rfl, (by repeat (exact List.Sublist.refl _)), ⟨Mem.le_trans hm (Mem.le_trans hm2 hm3), by show i + 1 ≤ _; omega, hs', ho', by show acc ++ _ = _; rw [hacc, List.cons_append, quoteB_take hlt, (qc_one (by omega) (by omega) (by omega) (by omega))]⟩, by show s.length - (i + 1) < s.length - i; omega⟩
      · skip
        refine TC.draw [] mixed 10 rfl [] (tok sl 1 :: L) (List.Perm.refl _) ?_
        refine DO.pure tab (by repeat (first|exact Calm.ret|refine Calm.then ?_|refine Calm.block ?_)) (by kernel_rfl) [0, 1, 4] (by kernel_rfl) rfl ?_
        refine DO.fork 2 [5] (by kernel_rfl) ⟨⟨_, rfl, rfl, rfl, ?_⟩, ⟨_, rfl, rfl, rfl, ?_⟩, trivial⟩
        · refine OT.shK rfl (.inr rfl) rfl rfl rfl rfl (by decide) (r := ((s[i].toNat / 16 : Nat) : Int)) (u8_shr4 _) ?_
          refine ⟨Mem.le_refl _, _, List.Perm.refl _, ?_⟩
          refine DO.fork 3 [5] (by kernel_rfl) ⟨⟨_, rfl, rfl, rfl, ?_⟩, ⟨_, rfl, rfl, rfl, ?_⟩, trivial⟩
          · refine OT.sidxK tab (s[i].toNat / 16) rfl rfl rfl rfl rfl rfl rfl (hexS_get (by omega)) ?_
            refine ⟨Mem.le_refl _, _, List.Perm.refl _, ?_⟩
            refine DO.run 5 rfl rfl (by kernel_rfl) rfl ?_
            refine OT.and15 rfl rfl rfl rfl rfl hc ?_
            refine ⟨Mem.le_refl _, _, List.Perm.refl _, ?_⟩
            refine DO.run 6 rfl rfl (by kernel_rfl) rfl ?_
            refine OT.sidxK tab (s[i].toNat % 16) rfl rfl rfl rfl rfl rfl rfl (hexS_get (by omega)) ?_
            refine ⟨Mem.le_refl _, _, List.Perm.refl _, ?_⟩
            refine DO.run 7 rfl rfl (by kernel_rfl) rfl ?_
            refine OT.lit tab rfl rfl rfl rfl (fun b => ?_)
            refine ⟨Mem.le_refl _, _, List.Perm.refl _, ?_⟩
            refine DO.run 8 rfl rfl (by kernel_rfl) rfl ?_
            refine OT.freeze fun m2 hm2 hA => OT.append tab rByte 0 (hsl.mono hm2) hown (SlRep.bytes (bs := [92, 120, hexD (s[i].toNat / 16), hexD (s[i].toNat % 16)]) (n := 4) hA rfl (by decide)) rfl rfl rfl rfl rfl rfl rfl (by show (acc.length + 4) * 1 ≤ _; omega) (fun s' m3 hm3 hs' ho' => ?_)
            refine ⟨Mem.le_trans hm2 hm3, _, List.Perm.refl _, ?_⟩
            refine DO.pure tab (by repeat (first|exact Calm.ret|refine Calm.then ?_|refine Calm.block ?_)) (by kernel_rfl) [9] (by kernel_rfl) rfl ?_
            refine DO.nil (by kernel_rfl) ?_
            repeat (first|refine q3 ?_|refine q6 ?_|refine q7 ?_)
            refine TO.step rfl (OT.arith (r' := ((i + 1 : Nat) : Int)) rfl rfl rfl rfl rfl rfl rfl (by omega) ?_)
            repeat (first|refine q4 tab rfl rfl ?_|refine q5 ?_|refine q6 ?_)
            exact ⟨⟨m3, s', i + 1, acc ++ [92, 120, hexD (s[i].toNat / 16), hexD (s[i].toNat % 16)]⟩, (by repeat (first|exact trivial|refine And.intro rfl ?_)), (by repeat (first|exact trivial|refine And.intro rfl ?_)), rfl, rfl, (by repeat (exact List.Sublist.refl _)), ⟨Mem.le_trans hm (Mem.le_trans hm2 hm3), by show i + 1 ≤ _; omega, hs', ho', by show acc ++ _ = _; rw [hacc, List.cons_append, quoteB_take hlt, (qc_hex (by omega) (by omega) (by omega))]⟩, by show s.length - (i + 1) < s.length - i; omega⟩
          · refine OT.and15 rfl rfl rfl rfl rfl hc ?_
            refine ⟨Mem.le_refl _, _, List.Perm.refl _, ?_⟩
            refine DO.fork 3 [6] (by kernel_rfl) ⟨⟨_, rfl, rfl, rfl, ?_⟩, ⟨_, rfl, rfl, rfl, ?_⟩, trivial⟩
            · refine OT.sidxK tab (s[i].toNat / 16) rfl rfl rfl rfl rfl rfl rfl (hexS_get (by omega)) ?_
              refine ⟨Mem.le_refl _, _, List.Perm.refl _, ?_⟩
              refine DO.run 6 rfl rfl (by kernel_rfl) rfl ?_
              refine OT.sidxK tab (s[i].toNat % 16) rfl rfl rfl rfl rfl rfl rfl (hexS_get (by omega)) ?_
              refine ⟨Mem.le_refl _, _, List.Perm.refl _, ?_⟩
              refine DO.run 7 rfl rfl (by kernel_rfl) rfl ?_
              refine OT.lit tab rfl rfl rfl rfl (fun b => ?_)
              refine ⟨Mem.le_refl _, _, List.Perm.refl _, ?_⟩
              refine DO.run 8 rfl rfl (by kernel_rfl) rfl ?_
              refine OT.freeze fun m2 hm2 hA => OT.append tab rByte 0 (hsl.mono hm2) hown (SlRep.bytes (bs := [92, 120, hexD (s[i].toNat / 16), hexD (s[i].toNat % 16)]) (n := 4) hA rfl (by decide)) rfl rfl rfl rfl rfl rfl rfl (by show (acc.length + 4) * 1 ≤ _; omega) (fun s' m3 hm3 hs' ho' => ?_)
              refine ⟨Mem.le_trans hm2 hm3, _, List.Perm.refl _, ?_⟩
              refine DO.pure tab (by repeat (first|exact Calm.ret|refine Calm.then ?_|refine Calm.block ?_)) (by kernel_rfl) [9] (by kernel_rfl) rfl ?_
              refine DO.nil (by kernel_rfl) ?_
              repeat (first|refine q3 ?_|refine q6 ?_|refine q7 ?_)
              refine TO.step rfl (OT.arith (r' := ((i + 1 : Nat) : Int)) rfl rfl rfl rfl rfl rfl rfl (by omega) ?_)
              repeat (first|refine q4 tab rfl rfl ?_|refine q5 ?_|refine q6 ?_)
              exact ⟨⟨m3, s', i + 1, acc ++ [92, 120, hexD (s[i].toNat / 16), hexD (s[i].toNat % 16)]⟩, (by repeat (first|exact trivial|refine And.intro rfl ?_)), (by repeat (first|exact trivial|refine And.intro rfl ?_)), rfl, rfl, (by repeat (exact List.Sublist.refl _)), ⟨Mem.le_trans hm (Mem.le_trans hm2 hm3), by show i + 1 ≤ _; omega, hs', ho', by show acc ++ _ = _; rw [hacc, List.cons_append, quoteB_take hlt, (qc_hex (by omega) (by omega) (by omega))]⟩, by show s.length - (i + 1) < s.length - i; omega⟩
            · refine OT.sidxK tab (s[i].toNat % 16) rfl rfl rfl rfl rfl rfl rfl (hexS_get (by omega)) ?_
              refine ⟨Mem.le_refl _, _, List.Perm.refl _, ?_⟩
              refine DO.run 3 rfl rfl (by kernel_rfl) rfl ?_
              refine OT.sidxK tab (s[i].toNat / 16) rfl rfl rfl rfl rfl rfl rfl (hexS_get (by omega)) ?_
              refine ⟨Mem.le_refl _, _, List.Perm.refl _, ?_⟩
              refine DO.run 7 rfl rfl (by kernel_rfl) rfl ?_
              refine OT.lit tab rfl rfl rfl rfl (fun b => ?_)
              refine ⟨Mem.le_refl _, _, List.Perm.refl _, ?_⟩
              refine DO.run 8 rfl rfl (by kernel_rfl) rfl ?_
              refine OT.freeze fun m2 hm2 hA => OT.append tab rByte 0 (hsl.mono hm2) hown (SlRep.bytes (bs := [92, 120, hexD (s[i].toNat / 16), hexD (s[i].toNat % 16)]) (n := 4) hA rfl (by decide)) rfl rfl rfl rfl rfl rfl rfl (by show (acc.length + 4) * 1 ≤ _; omega) (fun s' m3 hm3 hs' ho' => ?_)
              refine ⟨Mem.le_trans hm2 hm3, _, List.Perm.refl _, ?_⟩
              refine DO.pure tab (by repeat (first|exact Calm.ret|refine Calm.then ?_|refine Calm.block ?_)) (by kernel_rfl) [9] (by kernel_rfl) rfl ?_
              refine DO.nil (by kernel_rfl) ?_
              repeat (first|refine q3 ?_|refine q6 ?_|refine q7 ?_)
              refine TO.step rfl (OT.arith (r' := ((i + 1 : Nat) : Int)) rfl rfl rfl rfl rfl rfl rfl (by omega) ?_)
              repeat (first|refine q4 tab rfl rfl ?_|refine q5 ?_|refine q6 ?_)
              exact ⟨⟨m3, s', i + 1, acc ++ [92, 120, hexD (s[i].toNat / 16), hexD (s[i].toNat % 16)]⟩, (by repeat (first|exact trivial|refine And.intro rfl ?_)), (by repeat (first|exact trivial|refine And.intro rfl ?_)), rfl, rfl, (by repeat (exact List.Sublist.refl _)), ⟨Mem.le_trans hm (Mem.le_trans hm2 hm3), by show i + 1 ≤ _; omega, hs', ho', by show acc ++ _ = _; rw [hacc, List.cons_append, quoteB_take hlt, (qc_hex (by omega) (by omega) (by omega))]⟩, by show s.length - (i + 1) < s.length - i; omega⟩
        · refine OT.and15 rfl rfl rfl rfl rfl hc ?_
          refine ⟨Mem.le_refl _, _, List.Perm.refl _, ?_⟩
          refine DO.fork 2 [6] (by kernel_rfl) ⟨⟨_, rfl, rfl, rfl, ?_⟩, ⟨_, rfl, rfl, rfl, ?_⟩, trivial⟩
          · refine OT.shK rfl (.inr rfl) rfl rfl rfl rfl (by decide) (r := ((s[i].toNat / 16 : Nat) : Int)) (u8_shr4 _) ?_
            refine ⟨Mem.le_refl _, _, List.Perm.refl _, ?_⟩
            refine DO.fork 3 [6] (by kernel_rfl) ⟨⟨_, rfl, rfl, rfl, ?_⟩, ⟨_, rfl, rfl, rfl, ?_⟩, trivial⟩
            · refine OT.sidxK tab (s[i].toNat / 16) rfl rfl rfl rfl rfl rfl rfl (hexS_get (by omega)) ?_
              refine ⟨Mem.le_refl _, _, List.Perm.refl _, ?_⟩
              refine DO.run 6 rfl rfl (by kernel_rfl) rfl ?_
              refine OT.sidxK tab (s[i].toNat % 16) rfl rfl rfl rfl rfl rfl rfl (hexS_get (by omega)) ?_
              refine ⟨Mem.le_refl _, _, List.Perm.refl _, ?_⟩
              refine DO.run 7 rfl rfl (by kernel_rfl) rfl ?_
              refine OT.lit tab rfl rfl rfl rfl (fun b => ?_)
              refine ⟨Mem.le_refl _, _, List.Perm.refl _, ?_⟩
              refine DO.run 8 rfl rfl (by kernel_rfl) rfl ?_
              refine OT.freeze fun m2 hm2 hA => OT.append tab rByte 0 (hsl.mono hm2) hown (SlRep.bytes (bs := [92, 120, hexD (s[i].toNat / 16), hexD (s[i].toNat % 16)]) (n := 4) hA rfl (by decide)) rfl rfl rfl rfl rfl rfl rfl (by show (acc.length + 4) * 1 ≤ _; omega) (fun s' m3 hm3 hs' ho' => ?_)
              refine ⟨Mem.le_trans hm2 hm3, _, List.Perm.refl _, ?_⟩
              refine DO.pure tab (by repeat (first|exact Calm.ret|refine Calm.then ?_|refine Calm.block ?_)) (by kernel_rfl) [9] (by kernel_rfl) rfl ?_
              refine DO.nil (by kernel_rfl) ?_
              repeat (first|refine q3 ?_|refine q6 ?_|refine q7 ?_)
              refine TO.step rfl (OT.arith (r' := ((i + 1 : Nat) : Int)) rfl rfl rfl rfl rfl rfl rfl (by omega) ?_)
              repeat (first|refine q4 tab rfl rfl ?_|refine q5 ?_|refine q6 ?_)
              exact ⟨⟨m3, s', i + 1, acc ++ [92, 120, hexD (s[i].toNat / 16), hexD (s[i].toNat % 16)]⟩, (by repeat (first|exact trivial|refine And.intro rfl ?_)), (by repeat (first|exact trivial|refine And.intro rfl ?_)), rfl, rfl, (by repeat (exact List.Sublist.refl _)), ⟨Mem.le_trans hm (Mem.le_trans hm2 hm3), by show i + 1 ≤ _; omega, hs', ho', by show acc ++ _ = _; rw [hacc, List.cons_append, quoteB_take hlt, (qc_hex (by omega) (by omega) (by omega))]⟩, by show s.length - (i + 1) < s.length - i; omega⟩
            · refine OT.sidxK tab (s[i].toNat % 16) rfl rfl rfl rfl rfl rfl rfl (hexS_get (by omega)) ?_
              refine ⟨Mem.le_refl _, _, List.Perm.refl _, ?_⟩
              refine DO.run 3 rfl rfl (by kernel_rfl) rfl ?_
              refine OT.sidxK tab (s[i].toNat / 16) rfl rfl rfl rfl rfl rfl rfl (hexS_get (by omega)) ?_
              refine ⟨Mem.le_refl _, _, List.Perm.refl _, ?_⟩
              refine DO.run 7 rfl rfl (by kernel_rfl) rfl ?_
              refine OT.lit tab rfl rfl rfl rfl (fun b => ?_)
              refine ⟨Mem.le_refl _, _, List.Perm.refl _, ?_⟩
              refine DO.run 8 rfl rfl (by kernel_rfl) rfl ?_
              refine OT.freeze fun m2 hm2 hA => OT.append tab rByte 0 (hsl.mono hm2) hown (SlRep.bytes (bs := [92, 120, hexD (s[i].toNat / 16), hexD (s[i].toNat % 16)]) (n := 4) hA rfl (by decide)) rfl rfl rfl rfl rfl rfl rfl (by show (acc.length + 4) * 1 ≤ _; omega) (fun s' m3 hm3 hs' ho' => ?_)
              refine ⟨Mem.le_trans hm2 hm3, _, List.Perm.refl _, ?_⟩
              refine DO.pure tab (by repeat (first|exact Calm.ret|refine Calm.then ?_|refine Calm.block ?_)) (by kernel_rfl) [9] (by kernel_rfl) rfl ?_
              refine DO.nil (by kernel_rfl) ?_
              repeat (first|refine q3 ?_|refine q6 ?_|refine q7 ?_)
              refine TO.step rfl (OT.arith (r' := ((i + 1 : Nat) : Int)) rfl rfl rfl rfl rfl rfl rfl (by omega) ?_)
              repeat (first|refine q4 tab rfl rfl ?_|refine q5 ?_|refine q6 ?_)
              exact ⟨⟨m3, s', i + 1, acc ++ [92, 120, hexD (s[i].toNat / 16), hexD (s[i].toNat % 16)]⟩, (by repeat (first|exact trivial|refine And.intro rfl ?_)), (by repeat (first|exact trivial|refine And.intro rfl ?_)), rfl, rfl, (by repeat (exact List.Sublist.refl _)), ⟨Mem.le_trans hm (Mem.le_trans hm2 hm3), by show i + 1 ≤ _; omega, hs', ho', by show acc ++ _ = _; rw [hacc, List.cons_append, quoteB_take hlt, (qc_hex (by omega) (by omega) (by omega))]⟩, by show s.length - (i + 1) < s.length - i; omega⟩
          · refine OT.sidxK tab (s[i].toNat % 16) rfl rfl rfl rfl rfl rfl rfl (hexS_get (by omega)) ?_
            refine ⟨Mem.le_refl _, _, List.Perm.refl _, ?_⟩
            refine DO.run 2 rfl rfl (by kernel_rfl) rfl ?_
            refine OT.shK rfl (.inr rfl) rfl rfl rfl rfl (by decide) (r := ((s[i].toNat / 16 : Nat) : Int)) (u8_shr4 _) ?_
            refine ⟨Mem.le_refl _, _, List.Perm.refl _, ?_⟩
            refine DO.run 3 rfl rfl (by kernel_rfl) rfl ?_
            refine OT.sidxK tab (s[i].toNat / 16) rfl rfl rfl rfl rfl rfl rfl (hexS_get (by omega)) ?_
            refine ⟨Mem.le_refl _, _, List.Perm.refl _, ?_⟩
            refine DO.run 7 rfl rfl (by kernel_rfl) rfl ?_
            refine OT.lit tab rfl rfl rfl rfl (fun b => ?_)
            refine ⟨Mem.le_refl _, _, List.Perm.refl _, ?_⟩
            refine DO.run 8 rfl rfl (by kernel_rfl) rfl ?_
            refine OT.freeze fun m2 hm2 hA => OT.append tab rByte 0 (hsl.mono hm2) hown (SlRep.bytes (bs := [92, 120, hexD (s[i].toNat / 16), hexD (s[i].toNat % 16)]) (n := 4) hA rfl (by decide)) rfl rfl rfl rfl rfl rfl rfl (by show (acc.length + 4) * 1 ≤ _; omega) (fun s' m3 hm3 hs' ho' => ?_)
            refine ⟨Mem.le_trans hm2 hm3, _, List.Perm.refl _, ?_⟩
            refine DO.pure tab (by repeat (first|exact Calm.ret|refine Calm.then ?_|refine Calm.block ?_)) (by kernel_rfl) [9] (by kernel_rfl) rfl ?_
            refine DO.nil (by kernel_rfl) ?_
            repeat (first|refine q3 ?_|refine q6 ?_|refine q7 ?_)
            refine TO.step rfl (OT.arith (r' := ((i + 1 : Nat) : Int)) rfl rfl rfl rfl rfl rfl rfl (by omega) ?_)
            repeat (first|refine q4 tab rfl rfl ?_|refine q5 ?_|refine q6 ?_)
            exact ⟨⟨m3, s', i + 1, acc ++ [92, 120, hexD (s[i].toNat / 16), hexD (s[i].toNat % 16)]⟩, (by repeat (first|exact trivial|refine And.intro rfl ?_)), (by repeat (first|exact trivial|refine And.intro rfl ?_)), rfl, rfl, (by repeat (exact List.Sublist.refl _)), ⟨Mem.le_trans hm (Mem.le_trans hm2 hm3), by show i + 1 ≤ _; omega, hs', ho', by show acc ++ _ = _; rw [hacc, List.cons_append, quoteB_take hlt, (qc_hex (by omega) (by omega) (by omega))]⟩, by show s.length - (i + 1) < s.length - i; omega⟩
    · repeat (first|refine q4 tab rfl rfl ?_|refine q5 ?_|refine q6 ?_|refine q17 rfl ?_)
      refine TC.draw [] mixed 10 rfl [] (tok sl 1 :: L) (List.Perm.refl _) ?_
      refine DO.pure tab (by repeat (first|exact Calm.ret|refine Calm.then ?_|refine Calm.block ?_)) (by kernel_rfl) [0, 1, 4] (by kernel_rfl) rfl ?_
      refine DO.fork 2 [5] (by kernel_rfl) ⟨⟨_, rfl, rfl, rfl, ?_⟩, ⟨_, rfl, rfl, rfl, ?_⟩, trivial⟩
      · refine OT.shK rfl (.inr rfl) rfl rfl rfl rfl (by decide) (r := ((s[i].toNat / 16 : Nat) : Int)) (u8_shr4 _) ?_
        refine ⟨Mem.le_refl _, _, List.Perm.refl _, ?_⟩
        refine DO.fork 3 [5] (by kernel_rfl) ⟨⟨_, rfl, rfl, rfl, ?_⟩, ⟨_, rfl, rfl, rfl, ?_⟩, trivial⟩
        · refine OT.sidxK tab (s[i].toNat / 16) rfl rfl rfl rfl rfl rfl rfl (hexS_get (by omega)) ?_
          refine ⟨Mem.le_refl _, _, List.Perm.refl _, ?_⟩
          refine DO.run 5 rfl rfl (by kernel_rfl) rfl ?_
          refine OT.and15 rfl rfl rfl rfl rfl hc ?_
          refine ⟨Mem.le_refl _, _, List.Perm.refl _, ?_⟩
          refine DO.run 6 rfl rfl (by kernel_rfl) rfl ?_
          refine OT.sidxK tab (s[i].toNat % 16) rfl rfl rfl rfl rfl rfl rfl (hexS_get (by omega)) ?_
          refine ⟨Mem.le_refl _, _, List.Perm.refl _, ?_⟩
          refine DO.run 7 rfl rfl (by kernel_rfl) rfl ?_
          refine OT.lit tab rfl rfl rfl rfl (fun b => ?_)
          refine ⟨Mem.le_refl _, _, List.Perm.refl _, ?_⟩
          refine DO.run 8 rfl rfl (by kernel_rfl) rfl ?_
          refine OT.freeze fun m2 hm2 hA => OT.append tab rByte 0 (hsl.mono hm2) hown (SlRep.bytes (bs := [92, 120, hexD (s[i].toNat / 16), hexD (s[i].toNat % 16)]) (n := 4) hA rfl (by decide)) rfl rfl rfl rfl rfl rfl rfl (by show (acc.length + 4) * 1 ≤ _; omega) (fun s' m3 hm3 hs' ho' => ?_)
          refine ⟨Mem.le_trans hm2 hm3, _, List.Perm.refl _, ?_⟩
          refine DO.pure tab (by repeat (first|exact Calm.ret|refine Calm.then ?_|refine Calm.block ?_)) (by kernel_rfl) [9] (by kernel_rfl) rfl ?_
          refine DO.nil (by kernel_rfl) ?_
          repeat (first|refine q3 ?_|refine q6 ?_|refine q7 ?_)
          refine TO.step rfl (OT.arith (r' := ((i + 1 : Nat) : Int)) rfl rfl rfl rfl rfl rfl rfl (by omega) ?_)
          repeat (first|refine q4 tab rfl rfl ?_|refine q5 ?_|refine q6 ?_)
          exact ⟨⟨m3, s', i + 1, acc ++ [92, 120, hexD (s[i].toNat / 16), hexD (s[i].toNat % 16)]⟩, (by repeat (first|exact trivial|refine And.intro rfl ?_)), (by repeat (first|exact trivial|refine And.intro rfl ?_)), rfl, rfl, (by repeat (exact List.Sublist.refl _)), ⟨Mem.le_trans hm (Mem.le_trans hm2 hm3), by show i + 1 ≤ _; omega, hs', ho', by show acc ++ _ = _; rw [hacc, List.cons_append, quoteB_take hlt, (qc_hex (by omega) (by omega) (by omega))]⟩, by show s.length - (i + 1) < s.length - i; omega⟩
        · refine OT.and15 rfl rfl rfl rfl rfl hc ?_
          refine ⟨Mem.le_refl _, _, List.Perm.refl _, ?_⟩
          refine DO.fork 3 [6] (by kernel_rfl) ⟨⟨_, rfl, rfl, rfl, ?_⟩, ⟨_, rfl, rfl, rfl, ?_⟩, trivial⟩
          · refine OT.sidxK tab (s[i].toNat / 16) rfl rfl rfl rfl rfl rfl rfl (hexS_get (by omega)) ?_
            refine ⟨Mem.le_refl _, _, List.Perm.refl _, ?_⟩
            refine DO.run 6 rfl rfl (by kernel_rfl) rfl ?_
            refine OT.sidxK tab (s[i].toNat % 16) rfl rfl rfl rfl rfl rfl rfl (hexS_get (by omega)) ?_
            refine ⟨Mem.le_refl _, _, List.Perm.refl _, ?_⟩
            refine DO.run 7 rfl rfl (by kernel_rfl) rfl ?_
            refine OT.lit tab rfl rfl rfl rfl (fun b => ?_)
            refine ⟨Mem.le_refl _, _, List.Perm.refl _, ?_⟩
            refine DO.run 8 rfl rfl (by kernel_rfl) rfl ?_
            refine OT.freeze fun m2 hm2 hA => OT.append tab rByte 0 (hsl.mono hm2) hown (SlRep.bytes (bs := [92, 120, hexD (s[i].toNat / 16), hexD (s[i].toNat % 16)]) (n := 4) hA rfl (by decide)) rfl rfl rfl rfl rfl rfl rfl (by show (acc.length + 4) * 1 ≤ _; omega) (fun s' m3 hm3 hs' ho' => ?_)
            refine ⟨Mem.le_trans hm2 hm3, _, List.Perm.refl _, ?_⟩
            refine DO.pure tab (by repeat (first|exact Calm.ret|refine Calm.then ?_|refine Calm.block ?_)) (by kernel_rfl) [9] (by kernel_rfl) rfl ?_
            refine DO.nil (by kernel_rfl) ?_
            repeat (first|refine q3 ?_|refine q6 ?_|refine q7 ?_)
            refine TO.step rfl (OT.arith (r' := ((i + 1 : Nat) : Int)) rfl rfl rfl rfl rfl rfl rfl (by omega) ?_)
            repeat (first|refine q4 tab rfl rfl ?_|refine q5 ?_|refine q6 ?_)
            exact ⟨⟨m3, s', i + 1, acc ++ [92, 120, hexD (s[i].toNat / 16), hexD (s[i].toNat % 16)]⟩, (by repeat (first|exact trivial|refine And.intro rfl ?_)), (by repeat (first|exact trivial|refine And.intro rfl ?_)), rfl, rfl, (by repeat (exact List.Sublist.refl _)), ⟨Mem.le_trans hm (Mem.le_trans hm2 hm3), by show i + 1 ≤ _; omega, hs', ho', by show acc ++ _ = _; rw [hacc, List.cons_append, quoteB_take hlt, (qc_hex (by omega) (by omega) (by omega))]⟩, by show s.length - (i + 1) < s.length - i; omega⟩
          · refine OT.sidxK tab (s[i].toNat % 16) rfl rfl rfl rfl rfl rfl rfl (hexS_get (by omega)) ?_
            refine ⟨Mem.le_refl _, _, List.Perm.refl _, ?_⟩
            refine DO.run 3 rfl rfl (by kernel_rfl) rfl ?_
            refine OT.sidxK tab (s[i].toNat / 16) rfl rfl rfl rfl rfl rfl rfl (hexS_get (by omega)) ?_
            refine ⟨Mem.le_refl _, _, List.Perm.refl _, ?_⟩
            refine DO.run 7 rfl rfl (by kernel_rfl) rfl ?_
            refine OT.lit tab rfl rfl rfl rfl (fun b => ?_)
            refine ⟨Mem.le_refl _, _, List.Perm.refl _, ?_⟩
            refine DO.run 8 rfl rfl (by kernel_rfl) rfl ?_
            refine OT.freeze fun m2 hm2 hA => OT.append tab rByte 0 (hsl.mono hm2) hown (SlRep.bytes (bs := [92, 120, hexD (s[i].toNat / 16), hexD (s[i].toNat % 16)]) (n := 4) hA rfl (by decide)) rfl rfl rfl rfl rfl rfl rfl (by show (acc.length + 4) * 1 ≤ _; omega) (fun s' m3 hm3 hs' ho' => ?_)
            refine ⟨Mem.le_trans hm2 hm3, _, List.Perm.refl _, ?_⟩
            refine DO.pure tab (by repeat (first|exact Calm.ret|refine Calm.then ?_|refine Calm.block ?_)) (by kernel_rfl) [9] (by kernel_rfl) rfl ?_
            refine DO.nil (by kernel_rfl) ?_
            repeat (first|refine q3 ?_|refine q6 ?_|refine q7 ?_)
            refine TO.step rfl (OT.arith (r' := ((i + 1 : Nat) : Int)) rfl rfl rfl rfl rfl rfl rfl (by omega) ?_)
            repeat (first|refine q4 tab rfl rfl ?_|refine q5 ?_|refine q6 ?_)
            exact ⟨⟨m3, s', i + 1, acc ++ [92, 120, hexD (s[i].toNat / 16), hexD (s[i].toNat % 16)]⟩, (by repeat (first|exact trivial|refine And.intro rfl ?_)), (by repeat (first|exact trivial|refine And.intro rfl ?_)), rfl, rfl, (by repeat (exact List.Sublist.refl _)), ⟨Mem.le_trans hm (Mem.le_trans hm2 hm3), by show i + 1 ≤ _; omega, hs', ho', by show acc ++ _ = _; rw [hacc, List.cons_append, quoteB_take hlt, (qc_hex (by omega) (by omega) (by omega))]⟩, by show s.length - (i + 1) < s.length - i; omega⟩
      · refine OT.and15 rfl rfl rfl rfl rfl hc ?_
        refine ⟨Mem.le_refl _, _, List.Perm.refl _, ?_⟩
        refine DO.fork 2 [6] (by kernel_rfl) ⟨⟨_, rfl, rfl, rfl, ?_⟩, ⟨_, rfl, rfl, rfl, ?_⟩, trivial⟩
        · refine OT.shK rfl (.inr rfl) rfl rfl rfl rfl (by decide) (r := ((s[i].toNat / 16 : Nat) : Int)) (u8_shr4 _) ?_
          refine ⟨Mem.le_refl _, _, List.Perm.refl _, ?_⟩
          refine DO.fork 3 [6] (by kernel_rfl) ⟨⟨_, rfl, rfl, rfl, ?_⟩, ⟨_, rfl, rfl, rfl, ?_⟩, trivial⟩
          · refine OT.sidxK tab (s[i].toNat / 16) rfl rfl rfl rfl rfl rfl rfl (hexS_get (by omega)) ?_
            refine ⟨Mem.le_refl _, _, List.Perm.refl _, ?_⟩
            refine DO.run 6 rfl rfl (by kernel_rfl) rfl ?_
            refine OT.sidxK tab (s[i].toNat % 16) rfl rfl rfl rfl rfl rfl rfl (hexS_get (by omega)) ?_
            refine ⟨Mem.le_refl _, _, List.Perm.refl _, ?_⟩
            refine DO.run 7 rfl rfl (by kernel_rfl) rfl ?_
            refine OT.lit tab rfl rfl rfl rfl (fun b => ?_)
            refine ⟨Mem.le_refl _, _, List.Perm.refl _, ?_⟩
            refine DO.run 8 rfl rfl (by kernel_rfl) rfl ?_
            refine OT.freeze fun m2 hm2 hA => OT.append tab rByte 0 (hsl.mono hm2) hown (SlRep.bytes (bs := [92, 120, hexD (s[i].toNat / 16), hexD (s[i].toNat % 16)]) (n := 4) hA rfl (by decide)) rfl rfl rfl rfl rfl rfl rfl (by show (acc.length + 4) * 1 ≤ _; omega) (fun s' m3 hm3 hs' ho' => ?_)
            refine ⟨Mem.le_trans hm2 hm3, _, List.Perm.refl _, ?_⟩
            refine DO.pure tab (by repeat (first|exact Calm.ret|refine Calm.then ?_|refine Calm.block ?_)) (by kernel_rfl) [9] (by kernel_rfl) rfl ?_
            refine DO.nil (by kernel_rfl) ?_
            repeat (first|refine q3 ?_|refine q6 ?_|refine q7 ?_)
            refine TO.step rfl (OT.arith (r' := ((i + 1 : Nat) : Int)) rfl rfl rfl rfl rfl rfl rfl (by omega) ?_)
            repeat (first|refine q4 tab rfl rfl ?_|refine q5 ?_|refine q6 ?_)
            exact ⟨⟨m3, s', i + 1, acc ++ [92, 120, hexD (s[i].toNat / 16), hexD (s[i].toNat % 16)]⟩, (by repeat (first|exact trivial|refine And.intro rfl ?_)), (by repeat (first|exact trivial|refine And.intro rfl ?_)), rfl, rfl, (by repeat (exact List.Sublist.refl _)), ⟨Mem.le_trans hm (Mem.le_trans hm2 hm3), by show i + 1 ≤ _; omega, hs', ho', by show acc ++ _ = _; rw [hacc, List.cons_append, quoteB_take hlt, (qc_hex (by omega) (by omega) (by omega))]⟩, by show s.length - (i + 1) < s.length - i; omega⟩
          · refine OT.sidxK tab (s[i].toNat % 16) rfl rfl rfl rfl rfl rfl rfl (hexS_get (by omega)) ?_
            refine ⟨Mem.le_refl _, _, List.Perm.refl _, ?_⟩
            refine DO.run 3 rfl rfl (by kernel_rfl) rfl ?_
            refine OT.sidxK tab (s[i].toNat / 16) rfl rfl rfl rfl rfl rfl rfl (hexS_get (by omega)) ?_
            refine ⟨Mem.le_refl _, _, List.Perm.refl _, ?_⟩
            refine DO.run 7 rfl rfl (by kernel_rfl) rfl ?_
            refine OT.lit tab rfl rfl rfl rfl (fun b => ?_)
            refine ⟨Mem.le_refl _, _, List.Perm.refl _, ?_⟩
            refine DO.run 8 rfl rfl (by kernel_rfl) rfl ?_
            refine OT.freeze fun m2 hm2 hA => OT.append tab rByte 0 (hsl.mono hm2) hown (SlRep.bytes (bs := [92, 120, hexD (s[i].toNat / 16), hexD (s[i].toNat % 16)]) (n := 4) hA rfl (by decide)) rfl rfl rfl rfl rfl rfl rfl (by show (acc.length + 4) * 1 ≤ _; omega) (fun s' m3 hm3 hs' ho' => ?_)
            refine ⟨Mem.le_trans hm2 hm3, _, List.Perm.refl _, ?_⟩
            refine DO.pure tab (by repeat (first|exact Calm.ret|refine Calm.then ?_|refine Calm.block ?_)) (by kernel_rfl) [9] (by kernel_rfl) rfl ?_
            refine DO.nil (by kernel_rfl) ?_
            repeat (first|refine q3 ?_|refine q6 ?_|refine q7 ?_)
            refine TO.step rfl (OT.arith (r' := ((i + 1 : Nat) : Int)) rfl rfl rfl rfl rfl rfl rfl (by omega) ?_)
            repeat (first|refine q4 tab rfl rfl ?_|refine q5 ?_|refine q6 ?_)
            exact ⟨⟨m3, s', i + 1, acc ++ [92, 120, hexD (s[i].toNat / 16), hexD (s[i].toNat % 16)]⟩, (by repeat (first|exact trivial|refine And.intro rfl ?_)), (by repeat (first|exact trivial|refine And.intro rfl ?_)), rfl, rfl, (by repeat (exact List.Sublist.refl _)), ⟨Mem.le_trans hm (Mem.le_trans hm2 hm3), by show i + 1 ≤ _; omega, hs', ho', by show acc ++ _ = _; rw [hacc, List.cons_append, quoteB_take hlt, (qc_hex (by omega) (by omega) (by omega))]⟩, by show s.length - (i + 1) < s.length - i; omega⟩
        · refine OT.sidxK tab (s[i].toNat % 16) rfl rfl rfl rfl rfl rfl rfl (hexS_get (by omega)) ?_
          refine ⟨Mem.le_refl _, _, List.Perm.refl _, ?_⟩
          refine DO.run 2 rfl rfl (by kernel_rfl) rfl ?_
          refine OT.shK rfl (.inr rfl) rfl rfl rfl rfl (by decide) (r := ((s[i].toNat / 16 : Nat) : Int)) (u8_shr4 _) ?_
          refine ⟨Mem.le_refl _, _, List.Perm.refl _, ?_⟩
          refine DO.run 3 rfl rfl (by kernel_rfl) rfl ?_
          refine OT.sidxK tab (s[i].toNat / 16) rfl rfl rfl rfl rfl rfl rfl (hexS_get (by omega)) ?_
          refine ⟨Mem.le_refl _, _, List.Perm.refl _, ?_⟩
          refine DO.run 7 rfl rfl (by kernel_rfl) rfl ?_
          refine OT.lit tab rfl rfl rfl rfl (fun b => ?_)
          refine ⟨Mem.le_refl _, _, List.Perm.refl _, ?_⟩
          refine DO.run 8 rfl rfl (by kernel_rfl) rfl ?_
          refine OT.freeze fun m2 hm2 hA => OT.append tab rByte 0 (hsl.mono hm2) hown (SlRep.bytes (bs := [92, 120, hexD (s[i].toNat / 16), hexD (s[i].toNat % 16)]) (n := 4) hA rfl (by decide)) rfl rfl rfl rfl rfl rfl rfl (by show (acc.length + 4) * 1 ≤ _; omega) (fun s' m3 hm3 hs' ho' => ?_)
          refine ⟨Mem.le_trans hm2 hm3, _, List.Perm.refl _, ?_⟩
          refine DO.pure tab (by repeat (first|exact Calm.ret|refine Calm.then ?_|refine Calm.block ?_)) (by kernel_rfl) [9] (by kernel_rfl) rfl ?_
          refine DO.nil (by kernel_rfl) ?_
          repeat (first|refine q3 ?_|refine q6 ?_|refine q7 ?_)
          refine TO.step rfl (OT.arith (r' := ((i + 1 : Nat) : Int)) rfl rfl rfl rfl rfl rfl rfl (by omega) ?_)
          repeat (first|refine q4 tab rfl rfl ?_|refine q5 ?_|refine q6 ?_)
          exact ⟨⟨m3, s', i + 1, acc ++ [92, 120, hexD (s[i].toNat / 16), hexD (s[i].toNat % 16)]⟩, (by repeat (first|exact trivial|refine And.intro rfl ?_)), (by repeat (first|exact trivial|refine And.intro rfl ?_)), rfl, rfl, (by repeat (exact List.Sublist.refl _)), ⟨Mem.le_trans hm (Mem.le_trans hm2 hm3), by show i + 1 ≤ _; omega, hs', ho', by show acc ++ _ = _; rw [hacc, List.cons_append, quoteB_take hlt, (qc_hex (by omega) (by omega) (by omega))]⟩, by show s.length - (i + 1) < s.length - i; omega⟩
  · skip
    repeat (first|refine q1 ?_|refine q3 ?_|refine q4 tab rfl rfl ?_|refine q6 ?_|refine q10 ?_|refine q11 ?_|refine q14 ?_)
    refine TO.step rfl (OT.lit tab rfl rfl rfl rfl (fun b => ?_))
    refine TO.freeze fun m2 hm2 hA => ?_
    refine TO.step rfl (OT.append tab rByte 0 (hsl.mono hm2) hown (SlRep.bytes (bs := [34]) (n := 1) hA rfl (by decide)) rfl rfl rfl rfl rfl rfl rfl (by show (acc.length + 1) * 1 ≤ _; omega) (fun s' m3 hm3 hs' ho' => ?_))
    refine TO.step rfl (OT.bytesStr tab rfl rfl rfl rfl rfl rfl rfl hs' (by simp) ?_)
    repeat (first|refine q4 tab rfl rfl ?_|refine q5 ?_|refine q6 ?_|refine q15 ?_)
    refine retQ_ret rfl (by repeat (first|exact List.Sublist.refl _|refine List.Sublist.cons _ ?_)) ⟨Mem.le_trans hm (Mem.le_trans hm2 hm3), rfl, ?_⟩
    rw [hacc, show s.take i = s from List.take_of_length_le (by omega)]
    rfl

set_option maxHeartbeats 2000000 in
theorem quote_ref (m : Mem) (L : List Item) (s : Str) (hl : s.length ≤ 1099511627776) : TCall Tryd.prog 14 ⟨[strV s]⟩ m L (Ret (strV (quoteD s)) m L) := by
  refine TCall.forget ?_
  unfold TCall
  refine TCallX.enter Tryd.func14 rfl 63 rfl ?_
  repeat (first|refine q1 ?_|refine q3 ?_|refine q4 tab rfl rfl ?_|refine q5 ?_|refine q6 ?_)
  refine TO.step rfl (OT.lit tab rfl rfl rfl rfl (fun b => ?_))
  refine TO.freeze fun m1 hm1 hA1 => ?_
  refine TO.tokFull b 1 ?_
  repeat (first|refine q1 ?_|refine q2 ?_|refine q3 ?_|refine q4 tab rfl rfl ?_|refine q5 ?_|refine q6 ?_)
  refine TC.loopK (ι := QuoS) [0] rfl (fun x => [(3, x.sl.v), (4, .int .i64 (x.i : Int))]) (fun x => x.m) (fun x => tok x.sl 1 :: L) (fun x => m ≤ x.m ∧ x.i ≤ s.length ∧ SlRep rByte x.m x.sl x.acc ∧ Own x.sl ∧ x.acc = 34 :: quoteB (s.take x.i)) (fun x => s.length - x.i) ⟨m1, ⟨some ⟨b, 0, none⟩, 1, 1⟩, 0, [34]⟩ (by repeat (first|exact trivial|refine And.intro rfl ?_)) rfl (by repeat (exact List.Sublist.refl _)) ⟨hm1, Nat.zero_le _, SlRep.bytes (bs := [34]) hA1 rfl (by decide), Own.lit _ _ _, rfl⟩ ?_
  rintro ⟨m1, sl, i, acc⟩ ⟨hm, hi, hsl, hown, hacc⟩
  replace hm : m ≤ m1 := hm
  replace hi : i ≤ s.length := hi
  replace hsl : SlRep rByte m1 sl acc := hsl
  replace hown : Own sl := hown
  replace hacc : acc = 34 :: quoteB (s.take i) := hacc
  have hal : acc.length ≤ 4 * i + 1 := by
    rw [hacc, List.length_cons]
    have := quoteB_len (s.take i)
    rw [List.length_take] at this
    omega
  show TC _ _ _ ((3, sl.v) :: (4, .int .i64 (i : Int)) :: _) _ m1 (tok sl 1 :: L) _
  repeat (first|refine q1 ?_|refine q3 ?_|refine q4 tab rfl rfl ?_|refine q5 ?_|refine q6 ?_)
  refine TC.condP rfl (fun g1 => ?_) (fun g1 => ?_)
  · have hlt : i < s.length := by omega
    have hx : s[i]? = some s[i] := by simp [hlt]
    have hc : s[i].toNat < 256 := s[i].toNat_lt
    repeat (first|refine q1 ?_|refine q2 ?_|refine q3 ?_|refine q4 tab rfl rfl ?_|refine q6 ?_|refine q13 ?_)
    refine TO.step rfl (OT.sidx tab i rfl rfl rfl rfl rfl rfl rfl hx ?_)
    repeat (first|refine q1 ?_|refine q2 ?_|refine q3 ?_|refine q4 tab rfl rfl ?_|refine q5 ?_|refine q6 ?_)
    refine TC.condP rfl (fun c1 => ?_) (fun c1 => ?_)
    · repeat (first|refine q3 ?_|refine q4 tab rfl rfl ?_)
      refine TO.step rfl (OT.lit tab rfl rfl rfl rfl (fun b => ?_))
      refine TO.freeze fun m2 hm2 hA => ?_
      refine TO.step rfl (OT.append tab rByte 0 (hsl.mono hm2) hown (SlRep.bytes (bs := [92, 110]) (n := 2) hA rfl (by decide)) rfl rfl rfl rfl rfl rfl rfl (by show (acc.length + 2) * 1 ≤ _; omega) (fun s' m3 hm3 hs' ho' => ?_))
      repeat (first|refine q3 ?_|refine q4 tab rfl rfl ?_|refine q5 ?_|refine q6 ?_|refine q7 ?_)
      refine TO.step rfl (OT.arith (r' := ((i + 1 : Nat) : Int)) rfl rfl rfl rfl rfl rfl rfl (by omega) ?_)
      repeat (first|refine q4 tab rfl rfl ?_|refine q5 ?_|refine q6 ?_)
      exact ⟨⟨m3, s', i + 1, acc ++ [92, 110]⟩, (by repeat (first|exact trivial|refine And.intro rfl ?_)), (by repeat (first|exact trivial|refine And.intro rfl ?_)), rfl, rfl, (by repeat (exact List.Sublist.refl _)), ⟨Mem.le_trans hm (Mem.le_trans hm2 hm3), by show i + 1 ≤ _; omega, hs', ho', by show acc ++ _ = _; rw [hacc, List.cons_append, quoteB_take hlt, (qc_nl (by omega))]⟩, by show s.length - (i + 1) < s.length - i; omega⟩
    repeat (first|refine q1 ?_|refine q3 ?_|refine q4 tab rfl rfl ?_|refine q5 ?_|refine q6 ?_)
    refine TC.condP rfl (fun c2 => ?_) (fun c2 => ?_)
    · repeat (first|refine q3 ?_|refine q4 tab rfl rfl ?_)
      refine TO.step rfl (OT.lit tab rfl rfl rfl rfl (fun b => ?_))
      refine TO.freeze fun m2 hm2 hA => ?_
      refine TO.step rfl (OT.append tab rByte 0 (hsl.mono hm2) hown (SlRep.bytes (bs := [92, 116]) (n := 2) hA rfl (by decide)) rfl rfl rfl rfl rfl rfl rfl (by show (acc.length + 2) * 1 ≤ _; omega) (fun s' m3 hm3 hs' ho' => ?_))
      repeat (first|refine q3 ?_|refine q4 tab rfl rfl ?_|refine q5 ?_|refine q6 ?_|refine q7 ?_)
      refine TO.step rfl (OT.arith (r' := ((i + 1 : Nat) : Int)) rfl rfl rfl rfl rfl rfl rfl (by omega) ?_)
      repeat (first|refine q4 tab rfl rfl ?_|refine q5 ?_|refine q6 ?_)
      exact ⟨⟨m3, s', i + 1, acc ++ [92, 116]⟩, (by repeat (first|exact trivial|refine And.intro rfl ?_)), (by repeat (first|exact trivial|refine And.intro rfl ?_)), rfl, rfl, (by repeat (exact List.Sublist.refl _)), ⟨Mem.le_trans hm (Mem.le_trans hm2 hm3), by show i + 1 ≤ _; omega, hs', ho', by show acc ++ _ = _; rw [hacc, List.cons_append, quoteB_take hlt, (qc_tab (by omega))]⟩, by show s.length - (i + 1) < s.length - i; omega⟩
    repeat (first|refine q1 ?_|refine q3 ?_|refine q4 tab rfl rfl ?_)
    (refine TO.splitP rfl rfl (fun c3 => ?_) (fun c3 => ?_))
    · repeat (first|refine q3 ?_|refine q4 tab rfl rfl ?_|refine q5 ?_|refine q6 ?_|refine q16 rfl ?_)
      refine TO.step rfl (OT.lit tab rfl rfl rfl rfl (fun b => ?_))
      refine TO.freeze fun m2 hm2 hA => ?_
      refine TO.step rfl (OT.append tab rByte 0 (hsl.mono hm2) hown (SlRep.bytes (bs := [92, s[i]]) (n := 2) hA rfl (by decide)) rfl rfl rfl rfl rfl rfl rfl (by show (acc.length + 2) * 1 ≤ _; omega) (fun s' m3 hm3 hs' ho' => ?_))
      repeat (first|refine q3 ?_|refine q4 tab rfl rfl ?_|refine q5 ?_|refine q6 ?_|refine q7 ?_)
      refine TO.step rfl (OT.arith (r' := ((i + 1 : Nat) : Int)) rfl rfl rfl rfl rfl rfl rfl (by omega) ?_)
      repeat (first|refine q4 tab rfl rfl ?_|refine q5 ?_|refine q6 ?_)
      exact ⟨⟨m3, s', i + 1, acc ++ [92, s[i]]⟩, (by repeat (first|exact trivial|refine And.intro rfl ?_)), (by repeat (first|exact trivial|refine And.intro rfl ?_)), rfl, rfl, (by repeat (exact List.Sublist.refl _)), ⟨Mem.le_trans hm (Mem.le_trans hm2 hm3), by show i + 1 ≤ _; omega, hs', ho', by show acc ++ _ = _; rw [hacc, List.cons_append, quoteB_take hlt, (qc_self (by omega))]⟩, by show s.length - (i + 1) < s.length - i; omega⟩
    repeat (first|refine q4 tab rfl rfl ?_|refine q5 ?_|refine q6 ?_)
    refine TC.condP rfl (fun c4 => ?_) (fun c4 => ?_)
    · repeat (first|refine q3 ?_|refine q4 tab rfl rfl ?_)
      refine TO.step rfl (OT.lit tab rfl rfl rfl rfl (fun b => ?_))
      refine TO.freeze fun m2 hm2 hA => ?_
      refine TO.step rfl (OT.append tab rByte 0 (hsl.mono hm2) hown (SlRep.bytes (bs := [92, s[i]]) (n := 2) hA rfl (by decide)) rfl rfl rfl rfl rfl rfl rfl (by show (acc.length + 2) * 1 ≤ _; omega) (fun s' m3 hm3 hs' ho' => ?_))
      repeat (first|refine q3 ?_|refine q4 tab rfl rfl ?_|refine q5 ?_|refine q6 ?_|refine q7 ?_)
      refine TO.step rfl (OT.arith (r' := ((i + 1 : Nat) : Int)) rfl rfl rfl rfl rfl rfl rfl (by omega) ?_)
      repeat (first|refine q4 tab rfl rfl ?_|refine q5 ?_|refine q6 ?_)
      exact ⟨⟨m3, s', i + 1, acc ++ [92, s[i]]⟩, (by repeat (first|exact trivial|refine And.intro rfl ?_)), (by repeat (first|exact trivial|refine And.intro rfl ?_)), rfl, rfl, (by repeat (exact List.Sublist.refl _)), ⟨Mem.le_trans hm (Mem.le_trans hm2 hm3), by show i + 1 ≤ _; omega, hs', ho', by show acc ++ _ = _; rw [hacc, List.cons_append, quoteB_take hlt, (qc_self (by omega))]⟩, by show s.length - (i + 1) < s.length - i; omega⟩
    repeat (first|refine q1 ?_|refine q3 ?_|refine q4 tab rfl rfl ?_)
    (refine TO.splitP rfl rfl (fun c5 => ?_) (fun c5 => ?_))
    · repeat (first|refine q4 tab rfl rfl ?_|refine q5 ?_|refine q6 ?_|refine q16 rfl ?_)
      refine TC.draw [] mixed 10 rfl [] (tok sl 1 :: L) (List.Perm.refl _) ?_
      refine DO.pure tab (by repeat (first|exact Calm.ret|refine Calm.then ?_|refine Calm.block ?_)) (by kernel_rfl) [0, 1, 4] (by kernel_rfl) rfl ?_
      refine DO.fork 2 [5] (by kernel_rfl) ⟨⟨_, rfl, rfl, rfl, ?_⟩, ⟨_, rfl, rfl, rfl, ?_⟩, trivial⟩
      · refine OT.quoK rfl rfl rfl rfl rfl (by decide) (r := ((s[i].toNat / 16 : Nat) : Int)) (u8_quo16 _ hc) ?_
        refine ⟨Mem.le_refl _, _, List.Perm.refl _, ?_⟩
        refine DO.fork 3 [5] (by kernel_rfl) ⟨⟨_, rfl, rfl, rfl, ?_⟩, ⟨_, rfl, rfl, rfl, ?_⟩, trivial⟩
        · refine OT.sidxK tab (s[i].toNat / 16) rfl rfl rfl rfl rfl rfl rfl (hexS_get (by omega)) ?_
          refine ⟨Mem.le_refl _, _, List.Perm.refl _, ?_⟩
          refine DO.run 5 rfl rfl (by kernel_rfl) rfl ?_
          refine OT.remK rfl rfl rfl rfl rfl (by decide) (r := ((s[i].toNat % 16 : Nat) : Int)) (u8_rem16 _) ?_
          refine ⟨Mem.le_refl _, _, List.Perm.refl _, ?_⟩
          refine DO.run 6 rfl rfl (by kernel_rfl) rfl ?_
          refine OT.sidxK tab (s[i].toNat % 16) rfl rfl rfl rfl rfl rfl rfl (hexS_get (by omega)) ?_
          refine ⟨Mem.le_refl _, _, List.Perm.refl _, ?_⟩
          refine DO.run 7 rfl rfl (by kernel_rfl) rfl ?_
          refine OT.lit tab rfl rfl rfl rfl (fun b => ?_)
          refine ⟨Mem.le_refl _, _, List.Perm.refl _, ?_⟩
          refine DO.run 8 rfl rfl (by kernel_rfl) rfl ?_
          refine OT.freeze fun m2 hm2 hA => OT.append tab rByte 0 (hsl.mono hm2) hown (SlRep.bytes (bs := [92, 120, hexD (s[i].toNat / 16), hexD (s[i].toNat % 16)]) (n := 4) hA rfl (by decide)) rfl rfl rfl rfl rfl rfl rfl (by show (acc.length + 4) * 1 ≤ _; omega) (fun s' m3 hm3 hs' ho' => ?_)
          refine ⟨Mem.le_trans hm2 hm3, _, List.Perm.refl _, ?_⟩
          refine DO.pure tab (by repeat (first|exact Calm.ret|refine Calm.then ?_|refine Calm.block ?_)) (by kernel_rfl) [9] (by kernel_rfl) rfl ?_
          refine DO.nil (by kernel_rfl) ?_
          repeat (first|refine q3 ?_|refine q4 tab rfl rfl ?_|refine q6 ?_|refine q7 ?_)
          refine TO.step rfl (OT.arith (r' := ((i + 1 : Nat) : Int)) rfl rfl rfl rfl rfl rfl rfl (by omega) ?_)
          repeat (first|refine q4 tab rfl rfl ?_|refine q5 ?_|refine q6 ?_)
          exact ⟨⟨m3, s', i + 1, acc ++ [92, 120, hexD (s[i].toNat / 16), hexD (s[i].toNat % 16)]⟩, (by repeat (first|exact trivial|refine And.intro rfl ?_)), (by repeat (first|exact trivial|refine And.intro rfl ?_)), rfl, rfl, (by repeat (exact List.Sublist.refl _)), ⟨Mem.le_trans hm (Mem.le_trans hm2 hm3), by show i + 1 ≤ _; omega, hs', ho', by show acc ++ _ = _; rw [hacc, List.cons_append, quoteB_take hlt, (qc_hex (by omega) (by omega) (by omega))]⟩, by show s.length - (i + 1) < s.length - i; omega⟩
        · refine OT.remK rfl rfl rfl rfl rfl (by decide) (r := ((s[i].toNat % 16 : Nat) : Int)) (u8_rem16 _) ?_
          refine ⟨Mem.le_refl _, _, List.Perm.refl _, ?_⟩
          refine DO.fork 3 [6] (by kernel_rfl) ⟨⟨_, rfl, rfl, rfl, ?_⟩, ⟨_, rfl, rfl, rfl, ?_⟩, trivial⟩
          · refine OT.sidxK tab (s[i].toNat / 16) rfl rfl rfl rfl rfl rfl rfl (hexS_get (by omega)) ?_
            refine ⟨Mem.le_refl _, _, List.Perm.refl _, ?_⟩
            refine DO.run 6 rfl rfl (by kernel_rfl) rfl ?_
            refine OT.sidxK tab (s[i].toNat % 16) rfl rfl rfl rfl rfl rfl rfl (hexS_get (by omega)) ?_
            refine ⟨Mem.le_refl _, _, List.Perm.refl _, ?_⟩
            refine DO.run 7 rfl rfl (by kernel_rfl) rfl ?_
            refine OT.lit tab rfl rfl rfl rfl (fun b => ?_)
            refine ⟨Mem.le_refl _, _, List.Perm.refl _, ?_⟩
            refine DO.run 8 rfl rfl (by kernel_rfl) rfl ?_
            refine OT.freeze fun m2 hm2 hA => OT.append tab rByte 0 (hsl.mono hm2) hown (SlRep.bytes (bs := [92, 120, hexD (s[i].toNat / 16), hexD (s[i].toNat % 16)]) (n := 4) hA rfl (by decide)) rfl rfl rfl rfl rfl rfl rfl (by show (acc.length + 4) * 1 ≤ _; omega) (fun s' m3 hm3 hs' ho' => ?_)
            refine ⟨Mem.le_trans hm2 hm3, _, List.Perm.refl _, ?_⟩
            refine DO.pure tab (by repeat (first|exact Calm.ret|refine Calm.then ?_|refine Calm.block ?_)) (by kernel_rfl) [9] (by kernel_rfl) rfl ?_
            refine DO.nil (by kernel_rfl) ?_
            repeat (first|refine q3 ?_|refine q4 tab rfl rfl ?_|refine q6 ?_|refine q7 ?_)
            refine TO.step rfl (OT.arith (r' := ((i + 1 : Nat) : Int)) rfl rfl rfl rfl rfl rfl rfl (by omega) ?_)
            repeat (first|refine q4 tab rfl rfl ?_|refine q5 ?_|refine q6 ?_)
            exact ⟨⟨m3, s', i + 1, acc ++ [92, 120, hexD (s[i].toNat / 16), hexD (s[i].toNat % 16)]⟩, (by repeat (first|exact trivial|refine And.intro rfl ?_)), (by repeat (first|exact trivial|refine And.intro rfl ?_)), rfl, rfl, (by repeat (exact List.Sublist.refl _)), ⟨Mem.le_trans hm (Mem.le_trans hm2 hm3), by show i + 1 ≤ _; omega, hs', ho', by show acc ++ _ = _; rw [hacc, List.cons_append, quoteB_take hlt, (qc_hex (by omega) (by omega) (by omega))]⟩, by show s.length - (i + 1) < s.length - i; omega⟩
          · refine OT.sidxK tab (s[i].toNat % 16) rfl rfl rfl rfl rfl rfl rfl (hexS_get (by omega)) ?_
            refine ⟨Mem.le_refl _, _, List.Perm.refl _, ?_⟩
            refine DO.run 3 rfl rfl (by kernel_rfl) rfl ?_
            refine OT.sidxK tab (s[i].toNat / 16) rfl rfl rfl rfl rfl rfl rfl (hexS_get (by omega)) ?_
            refine ⟨Mem.le_refl _, _, List.Perm.refl _, ?_⟩
            refine DO.run 7 rfl rfl (by kernel_rfl) rfl ?_
            refine OT.lit tab rfl rfl rfl rfl (fun b => ?_)
            refine ⟨Mem.le_refl _, _, List.Perm.refl _, ?_⟩
            refine DO.run 8 rfl rfl (by kernel_rfl) rfl ?_
            refine OT.freeze fun m2 hm2 hA => OT.append tab rByte 0 (hsl.mono hm2) hown (SlRep.bytes (bs := [92, 120, hexD (s[i].toNat / 16), hexD (s[i].toNat % 16)]) (n := 4) hA rfl (by decide)) rfl rfl rfl rfl rfl rfl rfl (by show (acc.length + 4) * 1 ≤ _; omega) (fun s' m3 hm3 hs' ho' => ?_)
            refine ⟨Mem.le_trans hm2 hm3, _, List.Perm.refl _, ?_⟩
            refine DO.pure tab (by repeat (first|exact Calm.ret|refine Calm.then ?_|refine Calm.block ?_)) (by kernel_rfl) [9] (by kernel_rfl) rfl ?_
            refine DO.nil (by kernel_rfl) ?_
            repeat (first|refine q3 ?_|refine q4 tab rfl rfl ?_|refine q6 ?_|refine q7 ?_)
            refine TO.step rfl (OT.arith (r' := ((i + 1 : Nat) : Int)) rfl rfl rfl rfl rfl rfl rfl (by omega) ?_)
            repeat (first|refine q4 tab rfl rfl ?_|refine q5 ?_|refine q6 ?_)
            exact ⟨⟨m3, s', i + 1, acc ++ [92, 120, hexD (s[i].toNat / 16), hexD (s[i].toNat % 16)]⟩, (by repeat (first|exact trivial|refine And.intro rfl ?_)), (by repeat (first|exact trivial|refine And.intro rfl ?_)), rfl, rfl, (by repeat (exact List.Sublist.refl _)), ⟨Mem.le_trans hm (Mem.le_trans hm2 hm3), by show i + 1 ≤ _; omega, hs', ho', by show acc ++ _ = _; rw [hacc, List.cons_append, quoteB_take hlt, (qc_hex (by omega) (by omega) (by omega))]⟩, by show s.length - (i + 1) < s.length - i; omega⟩
      · refine OT.remK rfl rfl rfl rfl rfl (by decide) (r := ((s[i].toNat % 16 : Nat) : Int)) (u8_rem16 _) ?_
        refine ⟨Mem.le_refl _, _, List.Perm.refl _, ?_⟩
        refine DO.fork 2 [6] (by kernel_rfl) ⟨⟨_, rfl, rfl, rfl, ?_⟩, ⟨_, rfl, rfl, rfl, ?_⟩, trivial⟩
        · refine OT.quoK rfl rfl rfl rfl rfl (by decide) (r := ((s[i].toNat / 16 : Nat) : Int)) (u8_quo16 _ hc) ?_
          refine ⟨Mem.le_refl _, _, List.Perm.refl _, ?_⟩
          refine DO.fork 3 [6] (by kernel_rfl) ⟨⟨_, rfl, rfl, rfl, ?_⟩, ⟨_, rfl, rfl, rfl, ?_⟩, trivial⟩
          · refine OT.sidxK tab (s[i].toNat / 16) rfl rfl rfl rfl rfl rfl rfl (hexS_get (by omega)) ?_
            refine ⟨Mem.le_refl _, _, List.Perm.refl _, ?_⟩
            refine DO.run 6 rfl rfl (by kernel_rfl) rfl ?_
            refine OT.sidxK tab (s[i].toNat % 16) rfl rfl rfl rfl rfl rfl rfl (hexS_get (by omega)) ?_
            refine ⟨Mem.le_refl _, _, List.Perm.refl _, ?_⟩
            refine DO.run 7 rfl rfl (by kernel_rfl) rfl ?_
            refine OT.lit tab rfl rfl rfl rfl (fun b => ?_)
            refine ⟨Mem.le_refl _, _, List.Perm.refl _, ?_⟩
            refine DO.run 8 rfl rfl (by kernel_rfl) rfl ?_
            refine OT.freeze fun m2 hm2 hA => OT.append tab rByte 0 (hsl.mono hm2) hown (SlRep.bytes (bs := [92, 120, hexD (s[i].toNat / 16), hexD (s[i].toNat % 16)]) (n := 4) hA rfl (by decide)) rfl rfl rfl rfl rfl rfl rfl (by show (acc.length + 4) * 1 ≤ _; omega) (fun s' m3 hm3 hs' ho' => ?_)
            refine ⟨Mem.le_trans hm2 hm3, _, List.Perm.refl _, ?_⟩
            refine DO.pure tab (by repeat (first|exact Calm.ret|refine Calm.then ?_|refine Calm.block ?_)) (by kernel_rfl) [9] (by kernel_rfl) rfl ?_
            refine DO.nil (by kernel_rfl) ?_
            repeat (first|refine q3 ?_|refine q4 tab rfl rfl ?_|refine q6 ?_|refine q7 ?_)
            refine TO.step rfl (OT.arith (r' := ((i + 1 : Nat) : Int)) rfl rfl rfl rfl rfl rfl rfl (by omega) ?_)
            repeat (first|refine q4 tab rfl rfl ?_|refine q5 ?_|refine q6 ?_)
            exact ⟨⟨m3, s', i + 1, acc ++ [92, 120, hexD (s[i].toNat / 16), hexD (s[i].toNat % 16)]⟩, (by repeat (first|exact trivial|refine And.intro rfl ?_)), (by repeat (first|exact trivial|refine And.intro rfl ?_)), rfl, rfl, (by repeat (exact List.Sublist.refl _)), ⟨Mem.le_trans hm (Mem.le_trans hm2 hm3), by show i + 1 ≤ _; omega, hs', ho', by show acc ++ _ = _; rw [hacc, List.cons_append, quoteB_take hlt, (qc_hex (by omega) (by omega) (by omega))]⟩, by show s.length - (i + 1) < s.length - i; omega⟩
          · refine OT.sidxK tab (s[i].toNat % 16) rfl rfl rfl rfl rfl rfl rfl (hexS_get (by omega)) ?_
            refine ⟨Mem.le_refl _, _, List.Perm.refl _, ?_⟩
            refine DO.run 3 rfl rfl (by kernel_rfl) rfl ?_
            refine OT.sidxK tab (s[i].toNat / 16) rfl rfl rfl rfl rfl rfl rfl (hexS_get (by omega)) ?_
            refine ⟨Mem.le_refl _, _, List.Perm.refl _, ?_⟩
            refine DO.run 7 rfl rfl (by kernel_rfl) rfl ?_
            refine OT.lit tab rfl rfl rfl rfl (fun b => ?_)
            refine ⟨Mem.le_refl _, _, List.Perm.refl _, ?_⟩
            refine DO.run 8 rfl rfl (by kernel_rfl) rfl ?_
            refine OT.freeze fun m2 hm2 hA => OT.append tab rByte 0 (hsl.mono hm2) hown (SlRep.bytes (bs := [92, 120, hexD (s[i].toNat / 16), hexD (s[i].toNat % 16)]) (n := 4) hA rfl (by decide)) rfl rfl rfl rfl rfl rfl rfl (by show (acc.length + 4) * 1 ≤ _; omega) (fun s' m3 hm3 hs' ho' => ?_)
            refine ⟨Mem.le_trans hm2 hm3, _, List.Perm.refl _, ?_⟩
            refine DO.pure tab (by repeat (first|exact Calm.ret|refine Calm.then ?_|refine Calm.block ?_)) (by kernel_rfl) [9] (by kernel_rfl) rfl ?_
            refine DO.nil (by kernel_rfl) ?_
            repeat (first|refine q3 ?_|refine q4 tab rfl rfl ?_|refine q6 ?_|refine q7 ?_)
            refine TO.step rfl (OT.arith (r' := ((i + 1 : Nat) : Int)) rfl rfl rfl rfl rfl rfl rfl (by omega) ?_)
            repeat (first|refine q4 tab rfl rfl ?_|refine q5 ?_|refine q6 ?_)
            exact ⟨⟨m3, s', i + 1, acc ++ [92, 120, hexD (s[i].toNat / 16), hexD (s[i].toNat % 16)]⟩, (by repeat (first|exact trivial|refine And.intro rfl ?_)), (by repeat (first|exact trivial|refine And.intro rfl ?_)), rfl, rfl, (by repeat (exact List.Sublist.refl _)), ⟨Mem.le_trans hm (Mem.le_trans hm2 hm3), by show i + 1 ≤ _; omega, hs', ho', by show acc ++ _ = _; rw [hacc, List.cons_append, quoteB_take hlt, (qc_hex (by omega) (by omega) (by omega))]⟩, by show s.length - (i + 1) < s.length - i; omega⟩
        · refine OT.sidxK tab (s[i].toNat % 16) rfl rfl rfl rfl rfl rfl rfl (hexS_get (by omega)) ?_
          refine ⟨Mem.le_refl _, _, List.Perm.refl _, ?_⟩
          refine DO.run 2 rfl rfl (by kernel_rfl) rfl ?_
          refine OT.quoK rfl rfl rfl rfl rfl (by decide) (r := ((s[i].toNat / 16 : Nat) : Int)) (u8_quo16 _ hc) ?_
          refine ⟨Mem.le_refl _, _, List.Perm.refl _, ?_⟩
          refine DO.run 3 rfl rfl (by kernel_rfl) rfl ?_
          refine OT.sidxK tab (s[i].toNat / 16) rfl rfl rfl rfl rfl rfl rfl (hexS_get (by omega)) ?_
          refine ⟨Mem.le_refl _, _, List.Perm.refl _, ?_⟩
          refine DO.run 7 rfl rfl (by kernel_rfl) rfl ?_
          refine OT.lit tab rfl rfl rfl rfl (fun b => ?_)
          refine ⟨Mem.le_refl _, _, List.Perm.refl _, ?_⟩
          refine DO.run 8 rfl rfl (by kernel_rfl) rfl ?_
          refine OT.freeze fun m2 hm2 hA => OT.append tab rByte 0 (hsl.mono hm2) hown (SlRep.bytes (bs := [92, 120, hexD (s[i].toNat / 16), hexD (s[i].toNat % 16)]) (n := 4) hA rfl (by decide)) rfl rfl rfl rfl rfl rfl rfl (by show (acc.length + 4) * 1 ≤ _; omega) (fun s' m3 hm3 hs' ho' => ?_)
          refine ⟨Mem.le_trans hm2 hm3, _, List.Perm.refl _, ?_⟩
          refine DO.pure tab (by repeat (first|exact Calm.ret|refine Calm.then ?_|refine Calm.block ?_)) (by kernel_rfl) [9] (by kernel_rfl) rfl ?_
          refine DO.nil (by kernel_rfl) ?_
          repeat (first|refine q3 ?_|refine q4 tab rfl rfl ?_|refine q6 ?_|refine q7 ?_)
          refine TO.step rfl (OT.arith (r' := ((i + 1 : Nat) : Int)) rfl rfl rfl rfl rfl rfl rfl (by omega) ?_)
          repeat (first|refine q4 tab rfl rfl ?_|refine q5 ?_|refine q6 ?_)
          exact ⟨⟨m3, s', i + 1, acc ++ [92, 120, hexD (s[i].toNat / 16), hexD (s[i].toNat % 16)]⟩, (by repeat (first|exact trivial|refine And.intro rfl ?_)), (by repeat (first|exact trivial|refine And.intro rfl ?_)), rfl, rfl, (by repeat (exact List.Sublist.refl _)), ⟨Mem.le_trans hm (Mem.le_trans hm2 hm3), by show i + 1 ≤ _; omega, hs', ho', by show acc ++ _ = _; rw [hacc, List.cons_append, quoteB_take hlt, (qc_hex (by omega) (by omega) (by omega))]⟩, by show s.length - (i + 1) < s.length - i; omega⟩
    repeat (first|refine q4 tab rfl rfl ?_|refine q5 ?_|refine q6 ?_)
    refine TC.condP rfl (fun c6 => ?_) (fun c6 => ?_)
    · skip
      refine TC.draw [] mixed 10 rfl [] (tok sl 1 :: L) (List.Perm.refl _) ?_
      refine DO.pure tab (by repeat (first|exact Calm.ret|refine Calm.then ?_|refine Calm.block ?_)) (by kernel_rfl) [0, 1, 4] (by kernel_rfl) rfl ?_
      refine DO.fork 2 [5] (by kernel_rfl) ⟨⟨_, rfl, rfl, rfl, ?_⟩, ⟨_, rfl, rfl, rfl, ?_⟩, trivial⟩
      · refine OT.quoK rfl rfl rfl rfl rfl (by decide) (r := ((s[i].toNat / 16 : Nat) : Int)) (u8_quo16 _ hc) ?_
        refine ⟨Mem.le_refl _, _, List.Perm.refl _, ?_⟩
        refine DO.fork 3 [5] (by kernel_rfl) ⟨⟨_, rfl, rfl, rfl, ?_⟩, ⟨_, rfl, rfl, rfl, ?_⟩, trivial⟩
        · refine OT.sidxK tab (s[i].toNat / 16) rfl rfl rfl rfl rfl rfl rfl (hexS_get (by omega)) ?_
          refine ⟨Mem.le_refl _, _, List.Perm.refl _, ?_⟩
          refine DO.run 5 rfl rfl (by kernel_rfl) rfl ?_
          refine OT.remK rfl rfl rfl rfl rfl (by decide) (r := ((s[i].toNat % 16 : Nat) : Int)) (u8_rem16 _) ?_
          refine ⟨Mem.le_refl _, _, List.Perm.refl _, ?_⟩
          refine DO.run 6 rfl rfl (by kernel_rfl) rfl ?_
          refine OT.sidxK tab (s[i].toNat % 16) rfl rfl rfl rfl rfl rfl rfl (hexS_get (by omega)) ?_
          refine ⟨Mem.le_refl _, _, List.Perm.refl _, ?_⟩
          refine DO.run 7 rfl rfl (by kernel_rfl) rfl ?_
          refine OT.lit tab rfl rfl rfl rfl (fun b => ?_)
          refine ⟨Mem.le_refl _, _, List.Perm.refl _, ?_⟩
          refine DO.run 8 rfl rfl (by kernel_rfl) rfl ?_
          refine OT.freeze fun m2 hm2 hA => OT.append tab rByte 0 (hsl.mono hm2) hown (SlRep.bytes (bs := [92, 120, hexD (s[i].toNat / 16), hexD (s[i].toNat % 16)]) (n := 4) hA rfl (by decide)) rfl rfl rfl rfl rfl rfl rfl (by show (acc.length + 4) * 1 ≤ _; omega) (fun s' m3 hm3 hs' ho' => ?_)
          refine ⟨Mem.le_trans hm2 hm3, _, List.Perm.refl _, ?_⟩
          refine DO.pure tab (by repeat (first|exact Calm.ret|refine Calm.then ?_|refine Calm.block ?_)) (by kernel_rfl) [9] (by kernel_rfl) rfl ?_
          refine DO.nil (by kernel_rfl) ?_
          repeat (first|refine q3 ?_|refine q4 tab rfl rfl ?_|refine q6 ?_|refine q7 ?_)
          refine TO.step rfl (OT.arith (r' := ((i + 1 : Nat) : Int)) rfl rfl rfl rfl rfl rfl rfl (by omega) ?_)
          repeat (first|refine q4 tab rfl rfl ?_|refine q5 ?_|refine q6 ?_)
          exact ⟨⟨m3, s', i + 1, acc ++ [92, 120, hexD (s[i].toNat / 16), hexD (s[i].toNat % 16)]⟩, (by repeat (first|exact trivial|refine And.intro rfl ?_)), (by repeat (first|exact trivial|refine And.intro rfl ?_)), rfl, rfl, (by repeat (exact List.Sublist.refl _)), ⟨Mem.le_trans hm (Mem.le_trans hm2 hm3), by show i + 1 ≤ _; omega, hs', ho', by show acc ++ _ = _; rw [hacc, List.cons_append, quoteB_take hlt, (qc_hex (by omega) (by omega) (by omega))]⟩, by show s.length - (i + 1) < s.length - i; omega⟩
        · refine OT.remK rfl rfl rfl rfl rfl (by decide) (r := ((s[i].toNat % 16 : Nat) : Int)) (u8_rem16 _) ?_
          refine ⟨Mem.le_refl _, _, List.Perm.refl _, ?_⟩
          refine DO.fork 3 [6] (by kernel_rfl) ⟨⟨_, rfl, rfl, rfl, ?_⟩, ⟨_, rfl, rfl, rfl, ?_⟩, trivial⟩
          · refine OT.sidxK tab (s[i].toNat / 16) rfl rfl rfl rfl rfl rfl rfl (hexS_get (by omega)) ?_
            refine ⟨Mem.le_refl _, _, List.Perm.refl _, ?_⟩
            refine DO.run 6 rfl rfl (by kernel_rfl) rfl ?_
            refine OT.sidxK tab (s[i].toNat % 16) rfl rfl rfl rfl rfl rfl rfl (hexS_get (by omega)) ?_
            refine ⟨Mem.le_refl _, _, List.Perm.refl _, ?_⟩
            refine DO.run 7 rfl rfl (by kernel_rfl) rfl ?_
            refine OT.lit tab rfl rfl rfl rfl (fun b => ?_)
            refine ⟨Mem.le_refl _, _, List.Perm.refl _, ?_⟩
            refine DO.run 8 rfl rfl (by kernel_rfl) rfl ?_
            refine OT.freeze fun m2 hm2 hA => OT.append tab rByte 0 (hsl.mono hm2) hown (SlRep.bytes (bs := [92, 120, hexD (s[i].toNat / 16), hexD (s[i].toNat % 16)]) (n := 4) hA rfl (by decide)) rfl rfl rfl rfl rfl rfl rfl (by show (acc.length + 4) * 1 ≤ _; omega) (fun s' m3 hm3 hs' ho' => ?_)
            refine ⟨Mem.le_trans hm2 hm3, _, List.Perm.refl _, ?_⟩
            refine DO.pure tab (by repeat (first|exact Calm.ret|refine Calm.then ?_|refine Calm.block ?_)) (by kernel_rfl) [9] (by kernel_rfl) rfl ?_
            refine DO.nil (by kernel_rfl) ?_
            repeat (first|refine q3 ?_|refine q4 tab rfl rfl ?_|refine q6 ?_|refine q7 ?_)
            refine TO.step rfl (OT.arith (r' := ((i + 1 : Nat) : Int)) rfl rfl rfl rfl rfl rfl rfl (by omega) ?_)
            repeat (first|refine q4 tab rfl rfl ?_|refine q5 ?_|refine q6 ?_)
            exact ⟨⟨m3, s', i + 1, acc ++ [92, 120, hexD (s[i].toNat / 16), hexD (s[i].toNat % 16)]⟩, (by repeat (first|exact trivial|refine And.intro rfl ?_)), (by repeat (first|exact trivial|refine And.intro rfl ?_)), rfl, rfl, (by repeat (exact List.Sublist.refl _)), ⟨Mem.le_trans hm (Mem.le_trans hm2 hm3), by show i + 1 ≤ _; omega, hs', ho', by show acc ++ _ = _; rw [hacc, List.cons_append, quoteB_take hlt, (qc_hex (by omega) (by omega) (by omega))]⟩, by show s.length - (i + 1) < s.length - i; omega⟩
          · refine OT.sidxK tab (s[i].toNat % 16) rfl rfl rfl rfl rfl rfl rfl (hexS_get (by omega)) ?_
            refine ⟨Mem.le_refl _, _, List.Perm.refl _, ?_⟩
            refine DO.run 3 rfl rfl (by kernel_rfl) rfl ?_
            refine OT.sidxK tab (s[i].toNat / 16) rfl rfl rfl rfl rfl rfl rfl (hexS_get (by omega)) ?_
            refine ⟨Mem.le_refl _, _, List.Perm.refl _, ?_⟩
            refine DO.run 7 rfl rfl (by kernel_rfl) rfl ?_
            refine OT.lit tab rfl rfl rfl rfl (fun b => ?_)
            refine ⟨Mem.le_refl _, _, List.Perm.refl _, ?_⟩
            refine DO.run 8 rfl rfl (by kernel_rfl) rfl ?_
            refine OT.freeze fun m2 hm2 hA => OT.append tab rByte 0 (hsl.mono hm2) hown (SlRep.bytes (bs := [92, 120, hexD (s[i].toNat / 16), hexD (s[i].toNat % 16)]) (n := 4) hA rfl (by decide)) rfl rfl rfl rfl rfl rfl rfl (by show (acc.length + 4) * 1 ≤ _; omega) (fun s' m3 hm3 hs' ho' => ?_)
            refine ⟨Mem.le_trans hm2 hm3, _, List.Perm.refl _, ?_⟩
            refine DO.pure tab (by repeat (first|exact Calm.ret|refine Calm.then ?_|refine Calm.block ?_)) (by kernel_rfl) [9] (by kernel_rfl) rfl ?_
            refine DO.nil (by kernel_rfl) ?_
            repeat (first|refine q3 ?_|refine q4 tab rfl rfl ?_|refine q6 ?_|refine q7 ?_)
            refine TO.step rfl (OT.arith (r' := ((i + 1 : Nat) : Int)) rfl rfl rfl rfl rfl rfl rfl (by omega) ?_)
            repeat (first|refine q4 tab rfl rfl ?_|refine q5 ?_|refine q6 ?_)
            exact ⟨⟨m3, s', i + 1, acc ++ [92, 120, hexD (s[i].toNat / 16), hexD (s[i].toNat % 16)]⟩, (by repeat (first|exact trivial|refine And.intro rfl ?_)), (by repeat (first|exact trivial|refine And.intro rfl ?_)), rfl, rfl, (by repeat (exact List.Sublist.refl _)), ⟨Mem.le_trans hm (Mem.le_trans hm2 hm3), by show i + 1 ≤ _; omega, hs', ho', by show acc ++ _ = _; rw [hacc, List.cons_append, quoteB_take hlt, (qc_hex (by omega) (by omega) (by omega))]⟩, by show s.length - (i + 1) < s.length - i; omega⟩
      · refine OT.remK rfl rfl rfl rfl rfl (by decide) (r := ((s[i].toNat % 16 : Nat) : Int)) (u8_rem16 _) ?_
        refine ⟨Mem.le_refl _, _, List.Perm.refl _, ?_⟩
        refine DO.fork 2 [6] (by kernel_rfl) ⟨⟨_, rfl, rfl, rfl, ?_⟩, ⟨_, rfl, rfl, rfl, ?_⟩, trivial⟩
        · refine OT.quoK rfl rfl rfl rfl rfl (by decide) (r := ((s[i].toNat / 16 : Nat) : Int)) (u8_quo16 _ hc) ?_
          refine ⟨Mem.le_refl _, _, List.Perm.refl _, ?_⟩
          refine DO.fork 3 [6] (by kernel_rfl) ⟨⟨_, rfl, rfl, rfl, ?_⟩, ⟨_, rfl, rfl, rfl, ?_⟩, trivial⟩
          · refine OT.sidxK tab (s[i].toNat / 16) rfl rfl rfl rfl rfl rfl rfl (hexS_get (by omega)) ?_
            refine ⟨Mem.le_refl _, _, List.Perm.refl _, ?_⟩
            refine DO.run 6 rfl rfl (by kernel_rfl) rfl ?_
            refine OT.sidxK tab (s[i].toNat % 16) rfl rfl rfl rfl rfl rfl rfl (hexS_get (by omega)) ?_
            refine ⟨Mem.le_refl _, _, List.Perm.refl _, ?_⟩
            refine DO.run 7 rfl rfl (by kernel_rfl) rfl ?_
            refine OT.lit tab rfl rfl rfl rfl (fun b => ?_)
            refine ⟨Mem.le_refl _, _, List.Perm.refl _, ?_⟩
            refine DO.run 8 rfl rfl (by kernel_rfl) rfl ?_
            refine OT.freeze fun m2 hm2 hA => OT.append tab rByte 0 (hsl.mono hm2) hown (SlRep.bytes (bs := [92, 120, hexD (s[i].toNat / 16), hexD (s[i].toNat % 16)]) (n := 4) hA rfl (by decide)) rfl rfl rfl rfl rfl rfl rfl (by show (acc.length + 4) * 1 ≤ _; omega) (fun s' m3 hm3 hs' ho' => ?_)
            refine ⟨Mem.le_trans hm2 hm3, _, List.Perm.refl _, ?_⟩
            refine DO.pure tab (by repeat (first|exact Calm.ret|refine Calm.then ?_|refine Calm.block ?_)) (by kernel_rfl) [9] (by kernel_rfl) rfl ?_
            refine DO.nil (by kernel_rfl) ?_
            repeat (first|refine q3 ?_|refine q4 tab rfl rfl ?_|refine q6 ?_|refine q7 ?_)
            refine TO.step rfl (OT.arith (r' := ((i + 1 : Nat) : Int)) rfl rfl rfl rfl rfl rfl rfl (by omega) ?_)
            repeat (first|refine q4 tab rfl rfl ?_|refine q5 ?_|refine q6 ?_)
            exact ⟨⟨m3, s', i + 1, acc ++ [92, 120, hexD (s[i].toNat / 16), hexD (s[i].toNat % 16)]⟩, (by repeat (first|exact trivial|refine And.intro rfl ?_)), (by repeat (first|exact trivial|refine And.intro rfl ?_)), rfl, rfl, (by repeat (exact List.Sublist.refl _)), ⟨Mem.le_trans hm (Mem.le_trans hm2 hm3), by show i + 1 ≤ _; omega, hs', ho', by show acc ++ _ = _; rw [hacc, List.cons_append, quoteB_take hlt, (qc_hex (by omega) (by omega) (by omega))]⟩, by show s.length - (i + 1) < s.length - i; omega⟩
          · refine OT.sidxK tab (s[i].toNat % 16) rfl rfl rfl rfl rfl rfl rfl (hexS_get (by omega)) ?_
            refine ⟨Mem.le_refl _, _, List.Perm.refl _, ?_⟩
            refine DO.run 3 rfl rfl (by kernel_rfl) rfl ?_
            refine OT.sidxK tab (s[i].toNat / 16) rfl rfl rfl rfl rfl rfl rfl (hexS_get (by omega)) ?_
            refine ⟨Mem.le_refl _, _, List.Perm.refl _, ?_⟩
            refine DO.run 7 rfl rfl (by kernel_rfl) rfl ?_
            refine OT.lit tab rfl rfl rfl rfl (fun b => ?_)
            refine ⟨Mem.le_refl _, _, List.Perm.refl _, ?_⟩
            refine DO.run 8 rfl rfl (by kernel_rfl) rfl ?_
            refine OT.freeze fun m2 hm2 hA => OT.append tab rByte 0 (hsl.mono hm2) hown (SlRep.bytes (bs := [92, 120, hexD (s[i].toNat / 16), hexD (s[i].toNat % 16)]) (n := 4) hA rfl (by decide)) rfl rfl rfl rfl rfl rfl rfl (by show (acc.length + 4) * 1 ≤ _; omega) (fun s' m3 hm3 hs' ho' => ?_)
            refine ⟨Mem.le_trans hm2 hm3, _, List.Perm.refl _, ?_⟩
            refine DO.pure tab (by repeat (first|exact Calm.ret|refine Calm.then ?_|refine Calm.block ?_)) (by kernel_rfl) [9] (by kernel_rfl) rfl ?_
            refine DO.nil (by kernel_rfl) ?_
            repeat (first|refine q3 ?_|refine q4 tab rfl rfl ?_|refine q6 ?_|refine q7 ?_)
            refine TO.step rfl (OT.arith (r' := ((i + 1 : Nat) : Int)) rfl rfl rfl rfl rfl rfl rfl (by omega) ?_)
            repeat (first|refine q4 tab rfl rfl ?_|refine q5 ?_|refine q6 ?_)
            exact ⟨⟨m3, s', i + 1, acc ++ [92, 120, hexD (s[i].toNat / 16), hexD (s[i].toNat % 16)]⟩, (by repeat (first|exact trivial|refine And.intro rfl ?_)), (by repeat (first|exact trivial|refine And.intro rfl ?_)), rfl, rfl, (by repeat (exact List.Sublist.refl _)), ⟨Mem.le_trans hm (Mem.le_trans hm2 hm3), by show i + 1 ≤ _; omega, hs', ho', by show acc ++ _ = _; rw [hacc, List.cons_append, quoteB_take hlt, (qc_hex (by omega) (by omega) (by omega))]⟩, by show s.length - (i + 1) < s.length - i; omega⟩
        · refine OT.sidxK tab (s[i].toNat % 16) rfl rfl rfl rfl rfl rfl rfl (hexS_get (by omega)) ?_
          refine ⟨Mem.le_refl _, _, List.Perm.refl _, ?_⟩
          refine DO.run 2 rfl rfl (by kernel_rfl) rfl ?_
          refine OT.quoK rfl rfl rfl rfl rfl (by decide) (r := ((s[i].toNat / 16 : Nat) : Int)) (u8_quo16 _ hc) ?_
          refine ⟨Mem.le_refl _, _, List.Perm.refl _, ?_⟩
          refine DO.run 3 rfl rfl (by kernel_rfl) rfl ?_
          refine OT.sidxK tab (s[i].toNat / 16) rfl rfl rfl rfl rfl rfl rfl (hexS_get (by omega)) ?_
          refine ⟨Mem.le_refl _, _, List.Perm.refl _, ?_⟩
          refine DO.run 7 rfl rfl (by kernel_rfl) rfl ?_
          refine OT.lit tab rfl rfl rfl rfl (fun b => ?_)
          refine ⟨Mem.le_refl _, _, List.Perm.refl _, ?_⟩
          refine DO.run 8 rfl rfl (by kernel_rfl) rfl ?_
          refine OT.freeze fun m2 hm2 hA => OT.append tab rByte 0 (hsl.mono hm2) hown (SlRep.bytes (bs := [92, 120, hexD (s[i].toNat / 16), hexD (s[i].toNat % 16)]) (n := 4) hA rfl (by decide)) rfl rfl rfl rfl rfl rfl rfl (by show (acc.length + 4) * 1 ≤ _; omega) (fun s' m3 hm3 hs' ho' => ?_)
          refine ⟨Mem.le_trans hm2 hm3, _, List.Perm.refl _, ?_⟩
          refine DO.pure tab (by repeat (first|exact Calm.ret|refine Calm.then ?_|refine Calm.block ?_)) (by kernel_rfl) [9] (by kernel_rfl) rfl ?_
          refine DO.nil (by kernel_rfl) ?_
          repeat (first|refine q3 ?_|refine q4 tab rfl rfl ?_|refine q6 ?_|refine q7 ?_)
          refine TO.step rfl (OT.arith (r' := ((i + 1 : Nat) : Int)) rfl rfl rfl rfl rfl rfl rfl (by omega) ?_)
          repeat (first|refine q4 tab rfl rfl ?_|refine q5 ?_|refine q6 ?_)
          exact ⟨⟨m3, s', i + 1, acc ++ [92, 120, hexD (s[i].toNat / 16), hexD (s[i].toNat % 16)]⟩, (by repeat (first|exact trivial|refine And.intro rfl ?_)), (by repeat (first|exact trivial|refine And.intro rfl ?_)), rfl, rfl, (by repeat (exact List.Sublist.refl _)), ⟨Mem.le_trans hm (Mem.le_trans hm2 hm3), by show i + 1 ≤ _; omega, hs', ho', by show acc ++ _ = _; rw [hacc, List.cons_append, quoteB_take hlt, (qc_hex (by omega) (by omega) (by omega))]⟩, by show s.length - (i + 1) < s.length - i; omega⟩
    · repeat (first|refine q3 ?_|refine q4 tab rfl rfl ?_)
      refine TO.step rfl (OT.lit tab rfl rfl rfl rfl (fun b => ?_))
      refine TO.freeze fun m2 hm2 hA => ?_
      refine TO.step rfl (OT.append tab rByte 0 (hsl.mono hm2) hown (SlRep.bytes (bs := [s[i]]) (n := 1) hA rfl (by decide)) rfl rfl rfl rfl rfl rfl rfl (by show (acc.length + 1) * 1 ≤ _; omega) (fun s' m3 hm3 hs' ho' => ?_))
      repeat (first|refine q3 ?_|refine q4 tab rfl rfl ?_|refine q5 ?_|refine q6 ?_|refine q7 ?_)
      refine TO.step rfl (OT.arith (r' := ((i + 1 : Nat) : Int)) rfl rfl rfl rfl rfl rfl rfl (by omega) ?_)
      repeat (first|refine q4 tab rfl rfl ?_|refine q5 ?_|refine q6 ?_)
      exact ⟨⟨m3, s', i + 1, acc ++ [s[i]]⟩, (by repeat (first|exact trivial|refine And.intro rfl ?_)), (by repeat (first|exact trivial|refine And.intro rfl ?_)), rfl, rfl, (by repeat (exact List.Sublist.refl _)), ⟨Mem.le_trans hm (Mem.le_trans hm2 hm3), by show i + 1 ≤ _; omega, hs', ho', by show acc ++ _ = _; rw [hacc, List.cons_append, quoteB_take hlt, (qc_one (by omega) (by omega) (by omega) (by omega))]⟩, by show s.length - (i + 1) < s.length - i; omega⟩
  · skip
    repeat (first|refine q1 ?_|refine q3 ?_|refine q4 tab rfl rfl ?_|refine q6 ?_|refine q10 ?_|refine q11 ?_|refine q14 ?_)
    refine TO.step rfl (OT.lit tab rfl rfl rfl rfl (fun b => ?_))
    refine TO.freeze fun m2 hm2 hA => ?_
    refine TO.step rfl (OT.append tab rByte 0 (hsl.mono hm2) hown (SlRep.bytes (bs := [34]) (n := 1) hA rfl (by decide)) rfl rfl rfl rfl rfl rfl rfl (by show (acc.length + 1) * 1 ≤ _; omega) (fun s' m3 hm3 hs' ho' => ?_))
    refine TO.step rfl (OT.bytesStr tab rfl rfl rfl rfl rfl rfl rfl hs' (by simp) ?_)
    repeat (first|refine q4 tab rfl rfl ?_|refine q5 ?_|refine q6 ?_|refine q15 ?_)
    refine retQ_ret rfl (by repeat (first|exact List.Sublist.refl _|refine List.Sublist.cons _ ?_)) ⟨Mem.le_trans hm (Mem.le_trans hm2 hm3), rfl, ?_⟩
    rw [hacc, show s.take i = s from List.take_of_length_le (by omega)]
    rfl
end Go.Sep

/-
  awake.
-/
set_option linter.unusedVariables false
set_option linter.unusedSimpArgs false
namespace Go.Sep
open Go.Proofs
attribute [local irreducible] TC TO OT TCallX TCall DO DOt thenQ blockQ retQ At

theorem scan_a1 : scanD [97, 32, 49] = ⟨[⟨1, [97], 0, 0⟩, ⟨2, [], 1, 2⟩], 0, 0⟩ := by decide +kernel
theorem name_x : isName [120] = true := by decide +kernel
theorem quote_q : quoteD [113] = [34, 113, 34] := by decide +kernel

set_option maxHeartbeats 1000000 in
theorem awake_law (m : Mem) (L : List Item) (hE : Errs m) : TCall Tryd.prog 11 ⟨[]⟩ m L (Made m L fun r _ => r = .bool true) := by
  unfold TCall
  refine TCallX.enter Tryd.func11 rfl 34 rfl ?_
  repeat (first|refine q1 ?_|refine q3 ?_|refine q4 tab rfl rfl ?_|refine q5 ?_|refine q6 ?_)
  refine TO.step rfl (OT.call rfl rfl rfl rfl rfl rfl goes9 ((scan_law _ _ [97, 32, 49] hE).x ?_));
  rintro _ m1 _ ⟨hm1, rfl, sl, rfl, hsl⟩
  rw [scan_a1] at hsl
  replace hsl : SlRep rTok m1 sl [⟨1, [97], 0, 0⟩, ⟨2, [], 1, 2⟩] := hsl
  obtain ⟨sa, sn, sc⟩ := sl
  have hlen : sn = 2 := hsl.len
  subst hlen
  rw [scan_a1]
  repeat (first|refine q1 ?_|refine q3 ?_|refine q4 tab rfl rfl ?_|refine q5 ?_|refine q6 ?_)
  refine TO.step rfl (OT.index tab rTok 1 hsl rfl rfl rfl rfl rfl (by first | rfl | omega) rfl rfl ?_)
  rintro b i hd rfl hA
  repeat (refine q4 tab rfl rfl ?_)
  (refine TO.step rfl (OT.loadA tab hA rfl rfl rfl rfl rfl ?_))
  repeat (refine q4 tab rfl rfl ?_)
  refine TO.step rfl (OT.call rfl rfl rfl rfl rfl rfl goes15 ((name_law _ _ [120] (by decide)).x ?_));
  rintro _ _ _ ⟨rfl, rfl, rfl⟩
  rw [name_x]
  repeat (refine q4 tab rfl rfl ?_)
  refine TO.step rfl (OT.call rfl rfl rfl rfl rfl rfl goes13 ((quote_law _ _ [113] (by decide)).x ?_));
  rintro _ _ _ ⟨rfl, rfl, rfl⟩
  rw [quote_q]
  repeat (first|refine q4 tab rfl rfl ?_|refine q5 ?_|refine q6 ?_|refine q15 ?_)
  refine retQ_ret rfl (by repeat (exact List.Sublist.refl _)) ⟨hm1, rfl, rfl⟩

set_option maxHeartbeats 1000000 in
theorem scanNames_walk (m : Mem) (L : List Item) (s : Str) (hl : s.length ≤ 1099511627776) (hE : Errs m) : TCall Tryd.prog 4 ⟨[strV s]⟩ m L (Made m L fun r _ => r = .bool true) := by
  unfold TCall
  refine TCallX.enter Tryd.func4 rfl 18 rfl ?_
  repeat (first|refine q1 ?_|refine q3 ?_|refine q4 tab rfl rfl ?_|refine q5 ?_|refine q6 ?_)
  refine TO.step rfl (OT.call rfl rfl rfl rfl rfl rfl goes11 ((awake_law _ _ hE).x ?_));
  rintro _ m1 _ ⟨hm1, rfl, rfl⟩
  repeat (refine q4 tab rfl rfl ?_)
  refine TO.step rfl (OT.call rfl rfl rfl rfl rfl rfl goes13 ((quote_law _ _ s hl).x ?_));
  rintro _ _ _ ⟨rfl, rfl, rfl⟩
  repeat (refine q4 tab rfl rfl ?_)
  refine TO.step rfl (OT.call rfl rfl rfl rfl rfl rfl goes14 ((quote_ref _ _ s hl).x ?_));
  rintro _ _ _ ⟨rfl, rfl, rfl⟩
  repeat (refine q4 tab rfl rfl ?_)
  (refine TO.splitP rfl rfl (fun c1 => ?_) (fun c1 => ?_))
  · repeat (refine q4 tab rfl rfl ?_)
    refine TO.step rfl (OT.call rfl rfl rfl rfl rfl rfl goes15 ((name_law _ _ s (by omega)).x ?_));
    rintro _ _ _ ⟨rfl, rfl, rfl⟩
    repeat (refine q4 tab rfl rfl ?_)
    refine TO.step rfl (OT.call rfl rfl rfl rfl rfl rfl goes16 ((name_ref _ _ s (by omega)).x ?_));
    rintro _ _ _ ⟨rfl, rfl, rfl⟩
    skip
    refine TO.step rfl (OT.eqBool tab rfl rfl rfl rfl rfl rfl ?_)
    repeat (first|refine q4 tab rfl rfl ?_|refine q5 ?_|refine q6 ?_|refine q15 ?_)
    refine retQ_ret rfl (by repeat (exact List.Sublist.refl _)) ⟨hm1, rfl, ?_⟩
    rw [beq_self_eq_true]
  · exact absurd rfl c1
end Go.Sep
