/- CRC-32C finds every change of up to 32 consecutive bits. Plain Lean, no program is in sight. -/
import Derived.Test.YtknllmcpogoeoaaFp
namespace Go.Proofs.Ytknllmcpogoeoaa
open Go.RowKit
set_option linter.unusedVariables false
set_option linter.unusedSimpArgs false
/-- bit number j of some bytes, the lowest bit of a byte first -/
def bitAt (l : List UInt8) (j : Nat) : Bool := (l[j / 8]?.getD 0).toBitVec.getLsbD (j % 8)
def bitsL (l : List UInt8) : List Bool := (List.range (8 * l.length)).map (bitAt l)
section
variable (m : BitVec 32)
/-- one bit of input, for any mask -/
def gbit (x : BitVec 32) (b : Bool) : BitVec 32 := if (x.getLsbD 0) != b then (x >>> 1) ^^^ m else x >>> 1
def feed (x : BitVec 32) (e : List Bool) : BitVec 32 := e.foldl (gbit m) x
theorem feed_append (x : BitVec 32) (a b : List Bool) : feed m x (a ++ b) = feed m (feed m x a) b := by simp [feed]
theorem feed_cons (x : BitVec 32) (a : Bool) (b : List Bool) : feed m x (a :: b) = feed m (gbit m x a) b := rfl
theorem gbit_xor (x y : BitVec 32) (b c : Bool) : gbit m (x ^^^ y) (b ^^ c) = gbit m x b ^^^ gbit m y c := by
  unfold gbit
  rw [BitVec.getLsbD_xor, BitVec.ushiftRight_xor_distrib]
  have h1 : x >>> 1 ^^^ y >>> 1 ^^^ m = x >>> 1 ^^^ (y >>> 1 ^^^ m) := BitVec.xor_assoc ..
  have h2 : x >>> 1 ^^^ m ^^^ y >>> 1 = x >>> 1 ^^^ (y >>> 1 ^^^ m) := by rw [BitVec.xor_assoc, BitVec.xor_comm m]
  have h3 : x >>> 1 ^^^ m ^^^ (y >>> 1 ^^^ m) = x >>> 1 ^^^ y >>> 1 := by
    rw [BitVec.xor_assoc, BitVec.xor_comm m, BitVec.xor_assoc, BitVec.xor_self, BitVec.xor_zero]
  cases x.getLsbD 0 <;> cases y.getLsbD 0 <;> cases b <;> cases c <;> simp [h1, h2, h3]
theorem feed_xor : ∀ (a b : List Bool) (x y : BitVec 32), a.length = b.length → feed m x a ^^^ feed m y b = feed m (x ^^^ y) (List.zipWith (fun p q => p ^^ q) a b)
  | [], [], x, y, _ => rfl
  | a :: ar, b :: br, x, y, h => by
    rw [List.zipWith_cons_cons, feed_cons, feed_cons, feed_cons, feed_xor ar br _ _ (by simpa using h), gbit_xor]
  | [], _ :: _, _, _, h => by simp at h
  | _ :: _, [], _, _, h => by simp at h
theorem gbit_zero : gbit m 0#32 false = 0#32 := by simp [gbit]
theorem feed_zeros (n : Nat) : feed m 0#32 (List.replicate n false) = 0#32 := by
  induction n with
  | zero => rfl
  | succ n ih => rw [List.replicate_succ, feed_cons, gbit_zero, ih]
variable {m}
theorem gbit_inj (hm : m.getLsbD 31 = true) {x : BitVec 32} (h : gbit m x false = 0#32) : x = 0#32 := by
  unfold gbit at h
  cases hx : x.getLsbD 0 with
  | true =>
    rw [hx, if_pos (by rfl)] at h
    have h1 := congrArg (fun z : BitVec 32 => z.getLsbD 31) h
    simp only [BitVec.getLsbD_xor, BitVec.getLsbD_ushiftRight] at h1
    rw [BitVec.getLsbD_of_ge x (1 + 31) (by omega), hm] at h1
    simp at h1
  | false =>
    rw [hx, if_neg (by decide)] at h
    apply BitVec.eq_of_getLsbD_eq
    intro i hi
    cases i with
    | zero => rw [hx]; simp
    | succ i =>
      have h1 := congrArg (fun z : BitVec 32 => z.getLsbD i) h
      simp only [BitVec.getLsbD_ushiftRight] at h1
      rw [show 1 + i = i + 1 by omega] at h1
      rw [h1]; simp
theorem feed_zeros_inj (hm : m.getLsbD 31 = true) (n : Nat) : ∀ x : BitVec 32, feed m x (List.replicate n false) = 0#32 → x = 0#32 := by
  induction n with
  | zero => intro x h; exact h
  | succ n ih => intro x h; rw [List.replicate_succ, feed_cons] at h; exact gbit_inj hm (ih _ h)
/-- the bits as a word, the first one lowest -/
def wd : List Bool → BitVec 32
  | [] => 0#32
  | b :: e => (wd e <<< 1) ^^^ (if b then 1#32 else 0#32)
theorem one_bit (b : Bool) (i : Nat) : (if b then 1#32 else 0#32).getLsbD i = (b && decide (i = 0)) := by
  cases b
  · simp
  · simp only [if_true, Bool.true_and, BitVec.getLsbD_one]
    cases i <;> simp
theorem wd_high : ∀ (e : List Bool) (i : Nat), e.length ≤ i → (wd e).getLsbD i = false
  | [], i, _ => by simp [wd]
  | b :: e, i, h => by
    simp only [List.length_cons] at h
    unfold wd
    rw [BitVec.getLsbD_xor, BitVec.getLsbD_shiftLeft, wd_high e (i - 1) (by omega), one_bit]
    have : ¬ i = 0 := by omega
    simp [this]
theorem wd_bit : ∀ (e : List Bool) (i : Nat), i < 32 → (wd e).getLsbD i = e[i]?.getD false
  | [], i, _ => by simp [wd]
  | b :: e, i, h => by
    unfold wd
    rw [BitVec.getLsbD_xor, BitVec.getLsbD_shiftLeft, one_bit]
    cases i with
    | zero => simp
    | succ i =>
      rw [show i + 1 - 1 = i by omega, wd_bit e i (by omega)]
      simp [h]
/-- feeding no bits -/
def grnd (m : BitVec 32) (x : BitVec 32) (n : Nat) : BitVec 32 := feed m x (List.replicate n false)
theorem grnd_xor (x y : BitVec 32) (n : Nat) : grnd m (x ^^^ y) n = grnd m x n ^^^ grnd m y n := by
  unfold grnd
  rw [feed_xor m _ _ _ _ rfl]
  congr 1
  rw [List.zipWith_replicate]
  simp
/-- feeding up to 32 bits is the same as feeding none to the state in which they lie -/
theorem feed_wd : ∀ (e : List Bool) (x : BitVec 32), e.length ≤ 32 → feed m x e = grnd m (x ^^^ wd e) e.length
  | [], x, _ => by simp [feed, grnd, wd]
  | b :: e, x, h => by
    simp only [List.length_cons] at h
    rw [feed_cons, feed_wd e _ (by omega)]
    unfold grnd
    rw [List.length_cons, List.replicate_succ, feed_cons]
    congr 1
    have h1 : gbit m x b = gbit m (x ^^^ (if b then 1#32 else 0#32)) false := by
      have := gbit_xor m x (if b then 1#32 else 0#32) b b
      rw [Bool.xor_self] at this
      rw [this]
      have h2 : gbit m (if b then 1#32 else 0#32) b = 0#32 := by cases b <;> simp [gbit]
      rw [h2, BitVec.xor_zero]
    have h2 : gbit m (wd e <<< 1) false = wd e := by
      unfold gbit
      have h3 : (wd e <<< 1).getLsbD 0 = false := by simp
      rw [h3, if_neg (by simp)]
      apply BitVec.eq_of_getLsbD_eq
      intro i hi
      rw [BitVec.getLsbD_ushiftRight, BitVec.getLsbD_shiftLeft]
      by_cases h4 : 1 + i < 32
      · simp [h4]
      · rw [wd_high e i (by omega)]; simp [h4]
    have h3 := gbit_xor m (x ^^^ (if b then 1#32 else 0#32)) (wd e <<< 1) false false
    rw [Bool.xor_self, h2, ← h1] at h3
    rw [← h3]
    congr 1
    rw [wd, BitVec.xor_assoc, BitVec.xor_comm (wd e <<< 1)]
/-- up to 32 bits that are not all false, between zeros: never nothing -/
theorem burst_ne (hm : m.getLsbD 31 = true) (K M : Nat) (e : List Bool) (h : e.length ≤ 32) (hx : ∃ i : Nat, e[i]? = some true) : feed m 0#32 (List.replicate K false ++ e ++ List.replicate M false) ≠ 0#32 := by
  intro h0
  rw [feed_append, feed_append, feed_zeros] at h0
  have h1 := feed_zeros_inj hm _ _ h0
  rw [feed_wd e _ h] at h1
  have h2 := feed_zeros_inj hm _ _ h1
  rw [BitVec.zero_xor] at h2
  obtain ⟨i, hi⟩ := hx
  have hi2 := (List.getElem?_eq_some_iff.1 hi).1
  have := wd_bit e i (by omega)
  rw [h2, hi] at this
  simp at this
theorem bitsL_cons (c : UInt8) (l : List UInt8) : bitsL (c :: l) = ((List.range 8).map fun j => c.toBitVec.getLsbD j) ++ bitsL l := by
  unfold bitsL
  rw [List.length_cons, show 8 * (l.length + 1) = 8 + 8 * l.length by omega, List.range_add, List.map_append, List.map_map]
  congr 1
  apply List.map_congr_left
  intro j hj
  simp only [Function.comp_apply, bitAt]
  rw [show (8 + j) / 8 = j / 8 + 1 by omega, show (8 + j) % 8 = j % 8 by omega, List.getElem?_cons_succ]
theorem bitsL_len (l : List UInt8) : (bitsL l).length = 8 * l.length := by simp [bitsL]
theorem bitsL_get (l : List UInt8) (j : Nat) (h : j < 8 * l.length) : (bitsL l)[j]? = some (bitAt l j) := by simp [bitsL, h]
/-- two byte strings of one length whose bits differ just where a burst stands lead to two states -/
theorem feed_burst (hm : m.getLsbD 31 = true) (l r : List UInt8) (hl : l.length = r.length) (K : Nat) (f : Nat → Bool) (hf : ∀ j, j < 8 * l.length → (bitAt l j ^^ bitAt r j) = f j)
    (hz : ∀ j, j < 8 * l.length → f j = true → K ≤ j ∧ j < K + 32) (hx : ∃ j, j < 8 * l.length ∧ f j = true) (x : BitVec 32) : feed m x (bitsL l) ≠ feed m x (bitsL r) := by
  intro h
  have h1 := feed_xor m (bitsL l) (bitsL r) x x (by rw [bitsL_len, bitsL_len, hl])
  rw [h, BitVec.xor_self, BitVec.xor_self] at h1
  obtain ⟨j, hj, hfj⟩ := hx
  have hj2 := hz j hj hfj
  refine burst_ne hm K (8 * l.length - K - min 32 (8 * l.length - K)) ((List.range (min 32 (8 * l.length - K))).map fun i => f (K + i)) (by simp; omega) ⟨j - K, ?_⟩ ?_
  · rw [List.getElem?_map, List.getElem?_range (by omega)]
    simp only [Option.map_some]
    rw [show K + (j - K) = j by omega, hfj]
  · refine Eq.trans ?_ h1.symm
    congr 1
    apply List.ext_getElem?
    intro i
    by_cases hi : i < 8 * l.length
    · have hA : (List.zipWith (fun p q => p ^^ q) (bitsL l) (bitsL r))[i]? = some (f i) := by
        rw [List.getElem?_zipWith, bitsL_get l i hi, bitsL_get r i (by omega)]
        simp only [hf i hi]
      rw [hA]
      by_cases h1 : i < K
      · rw [List.append_assoc, List.getElem?_append_left (by simpa using h1), List.getElem?_replicate, if_pos h1]
        cases hfi : f i with
        | false => rfl
        | true => have := hz i hi hfi; omega
      · by_cases h2 : i < K + 32
        · rw [List.append_assoc, List.getElem?_append_right (by simp; omega), List.length_replicate, List.getElem?_append_left (by simp; omega), List.getElem?_map, List.getElem?_range (by omega)]
          simp only [Option.map_some]
          rw [show K + (i - K) = i by omega]
        · rw [List.getElem?_append_right (by simp; omega)]
          simp only [List.length_append, List.length_replicate, List.length_map, List.length_range]
          rw [List.getElem?_replicate, if_pos (by omega)]
          cases hfi : f i with
          | false => rfl
          | true => have := hz i hi hfi; omega
    · rw [List.getElem?_eq_none (by simp; omega), List.getElem?_eq_none (by rw [List.length_zipWith, bitsL_len, bitsL_len]; omega)]
end
theorem cbit_g (x : BitVec 32) (b : Bool) : cbit x b = gbit mask x b := rfl
theorem cbits_eq (x : BitVec 32) (c : UInt8) : ∀ i, cbits x c i = feed mask x ((List.range i).map fun j => c.toBitVec.getLsbD j) := by
  intro i
  induction i with
  | zero => rfl
  | succ i ih =>
    rw [List.range_succ, List.map_append, feed_append, ← ih]
    rfl
theorem cupd_feed (x : BitVec 32) (l : List UInt8) : cupd x l = feed mask x (bitsL l) := by
  induction l generalizing x with
  | nil => rfl
  | cons c l ih =>
    rw [bitsL_cons, feed_append, ← cbits_eq, ← ih]
    rfl
theorem crc_burst (l r : List UInt8) (hl : l.length = r.length) (K : Nat) (f : Nat → Bool) (hf : ∀ j, j < 8 * l.length → (bitAt l j ^^ bitAt r j) = f j)
    (hz : ∀ j, j < 8 * l.length → f j = true → K ≤ j ∧ j < K + 32) (hx : ∃ j, j < 8 * l.length ∧ f j = true) (x : BitVec 32) : cupd x l ≠ cupd x r := by
  rw [cupd_feed, cupd_feed]
  exact feed_burst (by decide) l r hl K f hf hz hx x
end Go.Proofs.Ytknllmcpogoeoaa
