/- Words of 32 bits in the walk's own numbers; the schedule's words out of bytes. -/
import Derived.Test.YtknllmcpogoeoaaDoorSha
import Derived.Test.YtknllmcpogoeoaaDoorRg
namespace Go.Proofs.YtknllmcpogoeoaaDoor
open Go.RowKit
set_option linter.unusedVariables false
set_option linter.unusedSimpArgs false
/-- a word as the walk's number -/
def wn (x : BitVec 32) : Int := (x.toNat : Int)
theorem wn_rng (x : BitVec 32) : 0 ≤ wn x ∧ wn x < 4294967296 := by have := x.isLt; unfold wn; omega
theorem ofInt_wn (x : BitVec 32) : BitVec.ofInt 32 (wn x) = x := by simp [wn]
theorem wrap_wn (x : BitVec 32) : IntKind.u32.wrap (x.toNat : Int) = wn x := by
  rw [IntKind.wrap_u32]
  have := x.isLt
  unfold wn
  omega
theorem xor_wn (x y : BitVec 32) : bits .xor .u32 (wn x) (wn y) = wn (x ^^^ y) := by
  show IntKind.u32.wrap ((BitVec.ofInt 32 (wn x) ^^^ BitVec.ofInt 32 (wn y)).toNat : Int) = _
  rw [ofInt_wn, ofInt_wn, wrap_wn]
theorem and_wn (x y : BitVec 32) : bits .and .u32 (wn x) (wn y) = wn (x &&& y) := by
  show IntKind.u32.wrap ((BitVec.ofInt 32 (wn x) &&& BitVec.ofInt 32 (wn y)).toNat : Int) = _
  rw [ofInt_wn, ofInt_wn, wrap_wn]
theorem or_wn (x y : BitVec 32) : bits .or .u32 (wn x) (wn y) = wn (x ||| y) := by
  show IntKind.u32.wrap ((BitVec.ofInt 32 (wn x) ||| BitVec.ofInt 32 (wn y)).toNat : Int) = _
  rw [ofInt_wn, ofInt_wn, wrap_wn]
theorem not_wn (x : BitVec 32) : bits .xor .u32 (if IntKind.u32.signed then -1 else IntKind.u32.max) (wn x) = wn (~~~ x) := by
  have h := xor_wn (BitVec.allOnes 32) x
  rw [BitVec.allOnes_xor] at h
  rw [← h]
  rfl
theorem add_wn (x y : BitVec 32) : IntKind.u32.wrap (wn x + wn y) = wn (x + y) := by
  rw [IntKind.wrap_u32]
  unfold wn
  rw [BitVec.toNat_add]
  omega
theorem shr_wn (x : BitVec 32) (m : Nat) : wn x / 2 ^ m = wn (x >>> m) := by
  unfold wn
  rw [BitVec.toNat_ushiftRight, Nat.shiftRight_eq_div_pow]
  simp
theorem shl_wn (x : BitVec 32) (m : Nat) : IntKind.u32.wrap (wn x * 2 ^ m) = wn (x <<< m) := by
  rw [IntKind.wrap_u32]
  unfold wn
  rw [BitVec.toNat_shiftLeft, Nat.shiftLeft_eq]
  simp
def u32s (l : List (BitVec 32)) : List Value := l.map fun x => .int .u32 (wn x)
theorem u32s_len (l : List (BitVec 32)) : (u32s l).length = l.length := by simp [u32s]
theorem u32s_app (l r : List (BitVec 32)) : u32s (l ++ r) = u32s l ++ u32s r := by simp [u32s]
theorem u32s_get (l : List (BitVec 32)) (k : Nat) (h : k < l.length) : (u32s l)[k]? = some (.int .u32 (wn (wat l k))) := by simp [u32s, wat, h]
theorem u32s_set (l : List (BitVec 32)) (k : Nat) (x : BitVec 32) : (u32s l).set k (.int .u32 (wn x)) = u32s (l.set k x) := by simp [u32s, List.map_set]
theorem u32s_one (l : List (BitVec 32)) : ∀ u ∈ u32s l, u.oneCell' = true := by
  intro u hu
  obtain ⟨_, _, rfl⟩ := List.mem_map.1 hu
  rfl
theorem u8s_set (l : List UInt8) (k : Nat) (x : UInt8) : (u8s l).set k (.int .u8 (x.toNat : Int)) = u8s (l.set k x) := by simp [u8s, List.map_set]
theorem nb_bt (l : List UInt8) (k : Nat) : nb l k = (bt l k : Int) := rfl
/-- bytes put together -/
theorem nat_or (x y m : Nat) (h : y < 2 ^ m) : (x * 2 ^ m) ||| y = x * 2 ^ m + y := by
  rw [Nat.mul_comm]
  exact (Nat.two_pow_add_eq_or_of_lt h x).symm
def w4 (a b c d : Nat) : BitVec 32 := BitVec.ofNat 32 (((a * 256 + b) * 256 + c) * 256 + d)
theorem word_w4 (b : List UInt8) (i : Nat) : word b i = w4 (bt b (4 * i)) (bt b (4 * i + 1)) (bt b (4 * i + 2)) (bt b (4 * i + 3)) := rfl
theorem bits_or_nat (x y : Nat) (hx : x < 4294967296) (hy : y < 4294967296) : bits .or .u32 (x : Int) (y : Int) = ((x ||| y : Nat) : Int) := by
  have h := or_wn (BitVec.ofNat 32 x) (BitVec.ofNat 32 y)
  have e1 : wn (BitVec.ofNat 32 x) = (x : Int) := by unfold wn; rw [BitVec.toNat_ofNat]; omega
  have e2 : wn (BitVec.ofNat 32 y) = (y : Int) := by unfold wn; rw [BitVec.toNat_ofNat]; omega
  rw [e1, e2] at h
  rw [h]
  unfold wn
  rw [BitVec.toNat_or, BitVec.toNat_ofNat, BitVec.toNat_ofNat, Nat.mod_eq_of_lt (by omega), Nat.mod_eq_of_lt (by omega)]
theorem w4_or1 (a b : Nat) (ha : a < 256) (hb : b < 256) : bits .or .u32 ((a : Int) * 16777216) ((b : Int) * 65536) = ((a * 16777216 + b * 65536 : Nat) : Int) := by
  have h := bits_or_nat (a * 16777216) (b * 65536) (by omega) (by omega)
  rw [show (a * 16777216 ||| b * 65536) = a * 16777216 + b * 65536 from nat_or a (b * 65536) 24 (by omega)] at h
  simpa using h
theorem w4_or2 (a b c : Nat) (ha : a < 256) (hb : b < 256) (hc : c < 256) : bits .or .u32 ((a * 16777216 + b * 65536 : Nat) : Int) ((c : Int) * 256) = ((a * 16777216 + b * 65536 + c * 256 : Nat) : Int) := by
  have h := bits_or_nat (a * 16777216 + b * 65536) (c * 256) (by omega) (by omega)
  rw [show (a * 16777216 + b * 65536 ||| c * 256) = a * 16777216 + b * 65536 + c * 256 by
    have := nat_or (a * 256 + b) (c * 256) 16 (by omega)
    rw [show (a * 256 + b) * 2 ^ 16 = a * 16777216 + b * 65536 by omega] at this
    exact this] at h
  simpa using h
theorem w4_or3 (a b c d : Nat) (ha : a < 256) (hb : b < 256) (hc : c < 256) (hd : d < 256) : bits .or .u32 ((a * 16777216 + b * 65536 + c * 256 : Nat) : Int) (d : Int) = wn (w4 a b c d) := by
  have h := bits_or_nat (a * 16777216 + b * 65536 + c * 256) d (by omega) (by omega)
  rw [show (a * 16777216 + b * 65536 + c * 256 ||| d) = a * 16777216 + b * 65536 + c * 256 + d by
    have := nat_or (a * 65536 + b * 256 + c) d 8 (by omega)
    rw [show (a * 65536 + b * 256 + c) * 2 ^ 8 = a * 16777216 + b * 65536 + c * 256 by omega] at this
    exact this] at h
  rw [h]
  unfold wn w4
  rw [BitVec.toNat_ofNat]
  omega
theorem wrap_u32_small (x : Int) (h0 : 0 ≤ x) (h : x < 4294967296) : IntKind.u32.wrap x = x := by rw [IntKind.wrap_u32]; omega
theorem wrap_u64_small (x : Int) (h0 : 0 ≤ x) (h : x < 18446744073709551616) : IntKind.u64.wrap x = x := by rw [IntKind.wrap_u64]; omega
theorem wrap_i64_small (x : Int) (h0 : -9223372036854775808 ≤ x) (h : x < 9223372036854775808) : IntKind.i64.wrap x = x := IntWalk.i64_in _ (by omega)
theorem min_b32 {i : Int} (n : Nat) (h : i = (n : Int)) (hn : n ≤ 32) : min i.toNat IntKind.u32.bits = n := by
  subst h
  show min ((n : Int)).toNat 32 = n
  omega
theorem min_b64 {i : Int} (n : Nat) (h : i = (n : Int)) (hn : n ≤ 64) : min i.toNat IntKind.u64.bits = n := by
  subst h
  show min ((n : Int)).toNat 64 = n
  omega
theorem min_b8 {i : Int} (n : Nat) (h : i = (n : Int)) (hn : n ≤ 8) : min i.toNat IntKind.u8.bits = n := by
  subst h
  show min ((n : Int)).toNat 8 = n
  omega
/-- the rotation's count -/
theorem rot_cnt : ∀ m : Fin 32, 0 < m.val → bits .and .u64 (IntKind.u64.wrap (0 - (m.val : Int))) 31 = 32 - (m.val : Int) := by decide +kernel
theorem rot_wn (x : BitVec 32) (m : Nat) : bits .or .u32 (wn (x <<< (32 - m))) (wn (x >>> m)) = wn (rr x m) := by
  rw [or_wn, BitVec.or_comm]; rfl
end Go.Proofs.YtknllmcpogoeoaaDoor
