/- Layer 29 in plain Lean: sealed bytes, packets, acknowledgements, what sender and receiver do with them. No program is in sight. -/
import Derived.Test.YtknllmcpogoeoaaFq
import Derived.Test.YtknllmcpogoeoaaNt
namespace Go.Proofs.Ytknllmcpogoeoaa
open Go.RowKit
set_option linter.unusedVariables false
set_option linter.unusedSimpArgs false
/-! The sum. -/
def tmask : BitVec 32 := 3988292384#32
def tcrc (l : List UInt8) : BitVec 32 := ~~~ (feed tmask ones (bitsL l))
def tseal (l : List UInt8) : List UInt8 := l ++ le32 (tcrc l)
theorem le32_len (x : BitVec 32) : (le32 x).length = 4 := rfl
theorem tseal_len (l : List UInt8) : (tseal l).length = l.length + 4 := by simp [tseal, le32_len]
theorem bitsL_append : ∀ (a b : List UInt8), bitsL (a ++ b) = bitsL a ++ bitsL b
  | [], b => by simp [bitsL]
  | c :: a, b => by rw [List.cons_append, bitsL_cons, bitsL_cons, bitsL_append a b, List.append_assoc]
def bits8 (c : UInt8) : List Bool := (List.range 8).map fun j => c.toBitVec.getLsbD j
theorem bits8_len (c : UInt8) : (bits8 c).length = 8 := by simp [bits8]
theorem wd_bits8 (c : UInt8) : wd (bits8 c) = zx c := by
  apply BitVec.eq_of_getLsbD_eq
  intro i hi
  rw [wd_bit _ i hi]
  unfold bits8 zx
  rw [BitVec.getLsbD_setWidth]
  by_cases h : i < 8
  · rw [List.getElem?_map, List.getElem?_range h]
    simp [hi]
  · rw [List.getElem?_eq_none (by simp; omega), BitVec.getLsbD_of_ge _ _ (by omega)]
    simp
theorem feed_bits8 (m x : BitVec 32) (c : UInt8) : feed m x (bits8 c) = grnd m (x ^^^ zx c) 8 := by
  rw [feed_wd _ _ (by rw [bits8_len]; omega), wd_bits8, bits8_len]
theorem feed_take (m x : BitVec 32) (l : List UInt8) (k : Nat) (h : k < l.length) : feed m x (bitsL (l.take (k + 1))) = grnd m (feed m x (bitsL (l.take k)) ^^^ zx (l[k]?.getD 0)) 8 := by
  rw [List.take_succ_eq_append_getElem h, bitsL_append, feed_append, ← feed_bits8]
  congr 1
  rw [bitsL_cons]
  simp [bitsL, bits8, h]
theorem grnd_succ (m x : BitVec 32) (i : Nat) : grnd m x (i + 1) = gbit m (grnd m x i) false := by
  unfold grnd
  rw [List.replicate_succ', feed_append]
  rfl
theorem le32_bit (x : BitVec 32) (i : Nat) (hi : i < 32) : bitAt (le32 x) i = x.getLsbD i := by
  have hx := x.isLt
  have key : ∀ (n k : Nat), n < 256 → (UInt8.ofNat n).toBitVec.getLsbD k = n.testBit k := by
    intro n k hn
    have h1 : (UInt8.ofNat n).toBitVec = BitVec.ofNat 8 n := rfl
    rw [h1, BitVec.getLsbD_ofNat]
    by_cases hk : k < 8
    · simp [hk]
    · rw [Nat.testBit_lt_two_pow (x := n) (i := k) (Nat.lt_of_lt_of_le (show n < 2 ^ 8 by omega) (Nat.pow_le_pow_right (by omega) (by omega)))]
      simp
  have h2 : ∀ (d k : Nat), k < 8 → (x.toNat / 2 ^ d % 256).testBit k = x.getLsbD (d + k) := by
    intro d k hk
    rw [show (256 : Nat) = 2 ^ 8 by rfl, Nat.testBit_mod_two_pow, Nat.testBit_div_two_pow]
    simp [hk, BitVec.getLsbD, Nat.add_comm]
  have h3 : x.toNat / 16777216 = x.toNat / 2 ^ 24 % 256 := by
    have : (2 : Nat) ^ 24 = 16777216 := by rfl
    rw [this]; omega
  unfold bitAt le32
  have hq : i / 8 = 0 ∨ i / 8 = 1 ∨ i / 8 = 2 ∨ i / 8 = 3 := by omega
  rcases hq with h | h | h | h
  · rw [h]
    simp only [List.getElem?_cons_zero, Option.getD_some]
    rw [key _ _ (by omega), show x.toNat % 256 = x.toNat / 2 ^ 0 % 256 by simp, h2 0 _ (by omega)]
    congr 1; omega
  · rw [h]
    simp only [List.getElem?_cons_succ, List.getElem?_cons_zero, Option.getD_some]
    rw [key _ _ (by omega), show x.toNat / 256 % 256 = x.toNat / 2 ^ 8 % 256 by simp, h2 8 _ (by omega)]
    congr 1; omega
  · rw [h]
    simp only [List.getElem?_cons_succ, List.getElem?_cons_zero, Option.getD_some]
    rw [key _ _ (by omega), show x.toNat / 65536 % 256 = x.toNat / 2 ^ 16 % 256 by simp, h2 16 _ (by omega)]
    congr 1; omega
  · rw [h]
    simp only [List.getElem?_cons_succ, List.getElem?_cons_zero, Option.getD_some]
    rw [key _ _ (by omega), h3, h2 24 _ (by omega)]
    congr 1; omega
theorem wd_le32 (x : BitVec 32) : wd (bitsL (le32 x)) = x := by
  apply BitVec.eq_of_getLsbD_eq
  intro i hi
  rw [wd_bit _ i hi, bitsL_get _ _ (by rw [le32_len]; omega)]
  exact le32_bit x i hi
/-- what sealed bytes come to -/
theorem tseal_res (b : List UInt8) : feed tmask ones (bitsL (tseal b)) = grnd tmask ones 32 := by
  unfold tseal
  rw [bitsL_append, feed_append, feed_wd _ _ (by rw [bitsL_len, le32_len]; omega), bitsL_len, le32_len, wd_le32]
  unfold tcrc
  generalize feed tmask ones (bitsL b) = x
  congr 1
  have : ones = BitVec.allOnes 32 := by decide
  rw [this]
  apply BitVec.eq_of_getLsbD_eq
  intro i hi
  rw [BitVec.getLsbD_xor, BitVec.getLsbD_not, BitVec.getLsbD_allOnes]
  cases x.getLsbD i <;> simp [hi]
theorem tseal_burst (b b' q : List UInt8) (a z : Nat) (hq : q = flips (tseal b) a (8 * (tseal b).length) z 32) (hc : changed a (8 * (tseal b).length) z 32 = true) : tseal b' ≠ q := by
  intro e
  have hl : q.length = (tseal b).length := by rw [hq, flips_len]
  obtain ⟨i, hi, hz, hib⟩ := (changed_iff _ _ _ _).1 hc
  refine feed_burst (m := tmask) (by decide) q (tseal b) hl a (fun j => (decide (a ≤ j) && decide (j < 8 * (tseal b).length) && decide (j < a + 32) && z.testBit (j - a))) ?_ ?_ ?_ ones ?_
  · intro j hj
    rw [hq, flips_bit _ _ _ _ (Nat.le_refl _)]
    cases bitAt (tseal b) j <;> simp
  · intro j hj hf
    simp only [Bool.and_eq_true, decide_eq_true_eq] at hf
    omega
  · refine ⟨a + i, by omega, ?_⟩
    have h1 : a ≤ a + i := by omega
    have h2 : a + i < a + 32 := by omega
    simp only [h1, h2, hib, Nat.add_sub_cancel_left, decide_true, Bool.true_and, hz]
  · rw [← e, tseal_res, tseal_res]
/-! Opening. -/
structure Opn where
  err : Nat
  id : Nat
  left : List UInt8
def opn (p : List UInt8) (k : Nat) : Opn :=
  if p.length < 4 ∨ 200 < p.length then ⟨6, 0, []⟩ else
  if tseal (p.take (p.length - 4)) ≠ p then ⟨7, 0, []⟩ else
  if (rsByte (p.take (p.length - 4)) 0).val ≠ (k : Int) then ⟨6, 0, []⟩ else
  if (rsUint (rsByte (p.take (p.length - 4)) 0).left (rsByte (p.take (p.length - 4)) 0).err 4294967295).err ≠ 0 then ⟨6, 0, []⟩ else
  ⟨0, (rsUint (rsByte (p.take (p.length - 4)) 0).left (rsByte (p.take (p.length - 4)) 0).err 4294967295).val.toNat, (rsUint (rsByte (p.take (p.length - 4)) 0).left (rsByte (p.take (p.length - 4)) 0).err 4294967295).left⟩
theorem opn_errs (p : List UInt8) (k : Nat) : (opn p k).err = 0 ∨ (opn p k).err = 6 ∨ (opn p k).err = 7 := by
  unfold opn
  split
  · simp
  · split
    · simp
    · split
      · simp
      · split <;> simp
theorem opn_id (p : List UInt8) (k : Nat) : (opn p k).id < 4294967296 := by
  unfold opn
  split
  · simp
  · split
    · simp
    · split
      · simp
      · split
        · simp
        · rename_i h
          revert h
          unfold rsUint
          split
          · intro h; simp
          · split
            · intro h; simp
            · split
              · intro h; simp
              · intro _; simp; omega
theorem rsU_put' (v m : Nat) (r : List UInt8) (h : v < 18446744073709551616) (hm : v ≤ m) : rsUint (putU v ++ r) 0 m = ⟨v, r, 0⟩ := by
  unfold rsUint
  rw [if_neg (by simp), rdU_put _ _ h]
  dsimp only
  rw [if_neg (by omega), List.drop_left]
theorem tseal_take (b : List UInt8) : (tseal b).take ((tseal b).length - 4) = b := by
  rw [tseal_len, Nat.add_sub_cancel]
  unfold tseal
  rw [List.take_left]
/-- sealed bytes of a kind are opened -/
theorem opn_put (k id : Nat) (r : List UInt8) (hk : k < 256) (hid : id < 4294967296) (hl : (UInt8.ofNat k :: (putU id ++ r)).length ≤ 196) : opn (tseal (UInt8.ofNat k :: (putU id ++ r))) k = ⟨0, id, r⟩ := by
  unfold opn
  rw [tseal_take, if_neg (by rw [tseal_len]; omega), if_neg (by simp)]
  have h1 : rsByte (UInt8.ofNat k :: (putU id ++ r)) 0 = ⟨(k : Int), putU id ++ r, 0⟩ := by
    unfold rsByte
    rw [if_neg (by simp)]
    simp only [u8_ofNat k hk]
  rw [h1, if_neg (by simp)]
  simp only
  rw [rsU_put' _ _ _ (by omega) (by omega)]
  simp
theorem opn_other (k j id : Nat) (r : List UInt8) (hk : k < 256) (hj : j ≠ k) (hl : (UInt8.ofNat k :: r).length ≤ 196) : opn (tseal (UInt8.ofNat k :: r)) j = ⟨6, 0, []⟩ := by
  unfold opn
  rw [tseal_take, if_neg (by rw [tseal_len]; omega), if_neg (by simp)]
  have h1 : rsByte (UInt8.ofNat k :: r) 0 = ⟨(k : Int), r, 0⟩ := by
    unfold rsByte
    rw [if_neg (by simp)]
    simp only [u8_ofNat k hk]
  rw [h1, if_pos]
  simp only [ne_eq, Int.natCast_inj]
  omega
/-- changed bytes are refused -/
theorem opn_burst (b q : List UInt8) (a z k : Nat) (hq : q = flips (tseal b) a (8 * (tseal b).length) z 32) (hc : changed a (8 * (tseal b).length) z 32 = true) (hl : b.length ≤ 196) : opn q k = ⟨7, 0, []⟩ := by
  have h := tseal_burst b (q.take (q.length - 4)) q a z hq hc
  have hql : q.length = b.length + 4 := by rw [hq, flips_len, tseal_len]
  unfold opn
  rw [if_neg (by omega), if_pos h]
/-! Packets. -/
def chunksT (n : Nat) : Nat := max 1 ((n + 63) / 64)
def chk (file : List UInt8) (i : Nat) : List UInt8 := (file.drop (64 * i)).take 64
def pktB (id : Nat) (file : List UInt8) (i : Nat) : List UInt8 := UInt8.ofNat 1 :: (putU id ++ (putU file.length ++ (putU i ++ putB (chk file i))))
def pkt (id : Nat) (file : List UInt8) (i : Nat) : List UInt8 := tseal (pktB id file i)
theorem putU_le : ∀ (k v : Nat), v < 128 ^ k → 1 ≤ k → v < 18446744073709551616 → (putU v).length ≤ k
  | 0, v, h, h1, _ => by omega
  | 1, v, h, _, _ => by
    rw [Nat.pow_one] at h
    rw [putU_small h]; simp
  | k + 2, v, h, _, h64 => by
    by_cases hv : v < 128
    · rw [putU_small hv]; simp
    · rw [putU_big hv h64, List.length_cons]
      have := putU_le (k + 1) (v / 128) (by rw [Nat.pow_succ] at h; exact Nat.div_lt_of_lt_mul (by rw [Nat.mul_comm]; exact h)) (by omega) (by omega)
      omega
theorem chk_len (file : List UInt8) (i : Nat) : (chk file i).length = min 64 (file.length - 64 * i) := by simp [chk]
theorem pktB_len (id : Nat) (file : List UInt8) (i : Nat) (hid : id < 4294967296) (hf : file.length ≤ 65535) (hi : i < 1024) : (pktB id file i).length ≤ 80 := by
  have h1 := putU_le 5 id (by have : (128 : Nat) ^ 5 = 34359738368 := by decide
                              omega) (by omega) (by omega)
  have h2 := putU_le 3 file.length (by have : (128 : Nat) ^ 3 = 2097152 := by decide
                                       omega) (by omega) (by omega)
  have h3 := putU_le 2 i (by have : (128 : Nat) ^ 2 = 16384 := by decide
                             omega) (by omega) (by omega)
  have hc := chk_len file i
  have h4 := putU_le 1 (chk file i).length (by omega) (by omega) (by omega)
  unfold pktB putB
  simp only [List.length_cons, List.length_append]
  omega
theorem pkt_len (id : Nat) (file : List UInt8) (i : Nat) (hid : id < 4294967296) (hf : file.length ≤ 65535) (hi : i < 1024) : (pkt id file i).length ≤ 84 ∧ 4 ≤ (pkt id file i).length := by
  have := pktB_len id file i hid hf hi
  unfold pkt
  rw [tseal_len]
  omega
end Go.Proofs.Ytknllmcpogoeoaa
