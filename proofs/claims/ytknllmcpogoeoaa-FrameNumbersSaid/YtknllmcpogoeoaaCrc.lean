/- The checksum CRC-32C as plain functions on bit vectors: the reference's bit by bit form, the program's form, and that the two agree. No program is in sight here, but for the walk's own word 'bits'. -/
import Derived.Test.YtknllmcpogoeoaaBase
namespace Go.Proofs.Ytknllmcpogoeoaa
open Go.RowKit
set_option linter.unusedVariables false
set_option linter.unusedSimpArgs false

def mask : BitVec 32 := 2197175160#32
/-- one bit of input -/
def cbit (x : BitVec 32) (b : Bool) : BitVec 32 := if (x.getLsbD 0) != b then (x >>> 1) ^^^ mask else x >>> 1
/-- the first i bits of a byte -/
def cbits (x : BitVec 32) (c : UInt8) : Nat → BitVec 32
  | 0 => x
  | i + 1 => cbit (cbits x c i) (c.toBitVec.getLsbD i)
def cupd (x : BitVec 32) (l : List UInt8) : BitVec 32 := l.foldl (fun x c => cbits x c 8) x
def ones : BitVec 32 := 4294967295#32
def crc (l : List UInt8) : BitVec 32 := ~~~ (cupd ones l)
theorem cupd_app (x : BitVec 32) (l r : List UInt8) : cupd x (l ++ r) = cupd (cupd x l) r := by simp [cupd]

/-- the program's rounds -/
def prnd (x : BitVec 32) : Nat → BitVec 32
  | 0 => x
  | i + 1 => cbit (prnd x i) false
def zx (c : UInt8) : BitVec 32 := c.toBitVec.setWidth 32

theorem prnd_eq (x : BitVec 32) (c : UInt8) : ∀ i, i ≤ 8 → prnd (x ^^^ zx c) i = cbits x c i ^^^ (zx c >>> i) := by
  intro i
  induction i with
  | zero => intro _; simp [prnd, cbits]
  | succ i ih =>
    intro h
    have ih := ih (by omega)
    simp only [prnd, cbits, ih]
    unfold cbit
    have e0 : (cbits x c i ^^^ zx c >>> i).getLsbD 0 = ((cbits x c i).getLsbD 0 ^^ (c.toBitVec.getLsbD i)) := by
      simp [zx]
      intro h1
      omega
    have e1 : (cbits x c i ^^^ zx c >>> i) >>> 1 = (cbits x c i >>> 1) ^^^ (zx c >>> (i + 1)) := by
      rw [BitVec.ushiftRight_xor_distrib, ← BitVec.shiftRight_add]
    rw [e0, e1]
    have e2 : (((cbits x c i).getLsbD 0 ^^ c.toBitVec.getLsbD i) != false) = ((cbits x c i).getLsbD 0 != c.toBitVec.getLsbD i) := by
      cases (cbits x c i).getLsbD 0 <;> cases c.toBitVec.getLsbD i <;> rfl
    rw [e2]
    by_cases hb : ((cbits x c i).getLsbD 0 != c.toBitVec.getLsbD i) = true
    · rw [if_pos hb, if_pos hb, BitVec.xor_assoc, BitVec.xor_assoc, BitVec.xor_comm mask]
    · rw [if_neg hb, if_neg hb]

theorem prnd8 (x : BitVec 32) (c : UInt8) : prnd (x ^^^ zx c) 8 = cbits x c 8 := by
  rw [prnd_eq x c 8 (by omega)]
  have : zx c >>> 8 = 0#32 := by
    unfold zx
    ext i hi
    simp
  rw [this]; simp

theorem cupd_take (x : BitVec 32) (l : List UInt8) (k : Nat) (h : k < l.length) : cupd x (l.take (k + 1)) = cbits (cupd x (l.take k)) (l[k]?.getD 0) 8 := by
  unfold cupd
  rw [List.take_succ_eq_append_getElem h, List.foldl_append]
  simp [h]

/-! In the walk's own numbers. -/
theorem ofInt_nat (x : BitVec 32) : BitVec.ofInt 32 (x.toNat : Int) = x := by simp
theorem wrap_nat (x : BitVec 32) : IntKind.u32.wrap (x.toNat : Int) = (x.toNat : Int) := by
  rw [IntKind.wrap_u32]
  have := x.isLt
  omega
theorem xor_u32 (x y : BitVec 32) : bits .xor .u32 (x.toNat : Int) (y.toNat : Int) = ((x ^^^ y).toNat : Int) := by
  show IntKind.u32.wrap ((BitVec.ofInt 32 (x.toNat : Int) ^^^ BitVec.ofInt 32 (y.toNat : Int)).toNat : Int) = _
  rw [ofInt_nat, ofInt_nat, wrap_nat]
theorem and_u32 (x y : BitVec 32) : bits .and .u32 (x.toNat : Int) (y.toNat : Int) = ((x &&& y).toNat : Int) := by
  show IntKind.u32.wrap ((BitVec.ofInt 32 (x.toNat : Int) &&& BitVec.ofInt 32 (y.toNat : Int)).toNat : Int) = _
  rw [ofInt_nat, ofInt_nat, wrap_nat]
theorem or_u32 (x y : BitVec 32) : bits .or .u32 (x.toNat : Int) (y.toNat : Int) = ((x ||| y).toNat : Int) := by
  show IntKind.u32.wrap ((BitVec.ofInt 32 (x.toNat : Int) ||| BitVec.ofInt 32 (y.toNat : Int)).toNat : Int) = _
  rw [ofInt_nat, ofInt_nat, wrap_nat]
theorem and1_u32 (x : BitVec 32) : bits .and .u32 (x.toNat : Int) 1 = if x.getLsbD 0 then 1 else 0 := by
  have h := and_u32 x 1#32
  rw [show ((1#32).toNat : Int) = 1 from rfl] at h
  rw [h, BitVec.toNat_and]
  have : x.getLsbD 0 = decide (x.toNat % 2 = 1) := by
    simp [BitVec.getLsbD, Nat.testBit_zero]
  rw [this, show (1#32).toNat = 1 from rfl, Nat.and_one_is_mod]
  by_cases h : x.toNat % 2 = 1 <;> simp [h]
  omega
def half (x : BitVec 32) : BitVec 32 := x >>> 1
def halfx (x : BitVec 32) : BitVec 32 := (x >>> 1) ^^^ mask
theorem cbit_ne {x : BitVec 32} {b : Bool} (h : (x.getLsbD 0 != b) = true) : cbit x b = halfx x := by unfold cbit halfx; rw [if_pos h]
theorem cbit_eq {x : BitVec 32} {b : Bool} (h : (x.getLsbD 0 != b) = false) : cbit x b = half x := by unfold cbit half; rw [if_neg (by rw [h]; simp)]
theorem half_u32 (x : BitVec 32) : (x.toNat : Int) / (2 : Int) = ((half x).toNat : Int) := by
  unfold half
  rw [BitVec.toNat_ushiftRight, Nat.shiftRight_eq_div_pow]
  omega
theorem rem_u32 (x : BitVec 32) : (x.toNat : Int) % (2 : Int) = if x.getLsbD 0 then 1 else 0 := by
  have : x.getLsbD 0 = decide (x.toNat % 2 = 1) := by
    simp [BitVec.getLsbD, Nat.testBit_zero]
  rw [this]
  by_cases h : x.toNat % 2 = 1 <;> simp [h] <;> omega
theorem mask_nat : (2197175160 : Int) = (mask.toNat : Int) := by decide
theorem halfx_u32 (x : BitVec 32) : bits .xor .u32 ((half x).toNat : Int) 2197175160 = ((halfx x).toNat : Int) := by
  rw [mask_nat, xor_u32]
  rfl
theorem nb_zx (l : List UInt8) (k : Nat) : nb l k = ((zx (l[k]?.getD 0)).toNat : Int) := by
  unfold nb zx
  rw [BitVec.toNat_setWidth]
  have := (l[k]?.getD 0).toNat_lt
  rw [UInt8.toNat_toBitVec, Nat.mod_eq_of_lt (by omega)]
/-- the reference's test of one bit -/
theorem bit_test (z : BitVec 32) (l : List UInt8) (k j : Nat) (hj : j < 8) :
    ((z.toNat : Int) % (2 : Int) != (nb l k / (2 : Int) ^ j).tmod 2) = (z.getLsbD 0 != (l[k]?.getD 0).toBitVec.getLsbD j) := by
  rw [rem_u32]
  have h : (nb l k / (2 : Int) ^ j).tmod 2 = if (l[k]?.getD 0).toBitVec.getLsbD j then 1 else 0 := by
    unfold nb
    generalize l[k]?.getD 0 = c
    have e : ((c.toNat : Int) / (2 : Int) ^ j) = ((c.toNat / 2 ^ j : Nat) : Int) := by simp
    rw [e]
    have e2 : c.toBitVec.getLsbD j = decide (c.toNat / 2 ^ j % 2 = 1) := by
      rw [BitVec.getLsbD, UInt8.toNat_toBitVec, Nat.testBit_eq_decide_div_mod_eq]
    rw [e2]
    generalize c.toNat / 2 ^ j = n
    rw [Int.tmod_eq_emod_of_nonneg (by omega)]
    by_cases hn : n % 2 = 1
    · rw [decide_eq_true hn, if_pos rfl]; omega
    · rw [decide_eq_false hn, if_neg (by simp)]; omega
  rw [h]
  cases z.getLsbD 0 <;> cases (l[k]?.getD 0).toBitVec.getLsbD j <;> rfl
theorem not_u32 (x : BitVec 32) : (4294967295 : Int) - (x.toNat : Int) = ((~~~ x).toNat : Int) := by
  rw [BitVec.toNat_not]
  have := x.isLt
  omega
theorem ones_nat : (4294967295 : Int) = (ones.toNat : Int) := by decide
theorem flip_u32 (x : BitVec 32) : bits .xor .u32 4294967295 (x.toNat : Int) = ((~~~ x).toNat : Int) := by
  have h : ones ^^^ x = ~~~ x := by
    have : ones = BitVec.allOnes 32 := by decide
    rw [this, BitVec.allOnes_xor]
  rw [ones_nat, xor_u32, h]
theorem flip_u32' (x : BitVec 32) : bits .xor .u32 IntKind.u32.max (x.toNat : Int) = ((~~~ x).toNat : Int) := by
  rw [show IntKind.u32.max = 4294967295 by decide, flip_u32]
theorem crc_app (l r : List UInt8) : ~~~ (cupd (cupd ones l) r) = crc (l ++ r) := by rw [crc, cupd_app]
end Go.Proofs.Ytknllmcpogoeoaa
