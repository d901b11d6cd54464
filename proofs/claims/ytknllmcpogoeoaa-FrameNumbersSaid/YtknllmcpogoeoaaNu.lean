/- Layer 1 in plain Lean: the encoding of numbers and of byte strings, and reading them. No program is in sight. -/
import Derived.Test.YtknllmcpogoeoaaFs
namespace Go.Proofs.Ytknllmcpogoeoaa
open Go.RowKit
set_option linter.unusedVariables false
set_option linter.unusedSimpArgs false
def putF : Nat → Nat → List UInt8
  | 0, v => [UInt8.ofNat v]
  | f + 1, v => if v < 128 then [UInt8.ofNat v] else UInt8.ofNat (v % 128 + 128) :: putF f (v / 128)
/-- the encoding of a number below 2^64 -/
def putU (v : Nat) : List UInt8 := putF 10 v
theorem putF_fuel : ∀ (f v : Nat), v < 128 ^ (f + 1) → putF (f + 1) v = putF f v
  | 0, v, h => by
    rw [Nat.zero_add, Nat.pow_one] at h
    simp [putF, h]
  | f + 1, v, h => by
    rw [putF]
    conv => rhs; rw [putF]
    by_cases hv : v < 128
    · rw [if_pos hv, if_pos hv]
    · rw [if_neg hv, if_neg hv, putF_fuel f (v / 128)]
      rw [Nat.pow_succ] at h
      exact Nat.div_lt_of_lt_mul (by omega)
theorem putU_small {v : Nat} (h : v < 128) : putU v = [UInt8.ofNat v] := by simp [putU, putF, h]
theorem putU_big {v : Nat} (h : ¬ v < 128) (h2 : v < 2 ^ 64) : putU v = UInt8.ofNat (v % 128 + 128) :: putU (v / 128) := by
  show putF (9 + 1) v = _ :: putF (9 + 1) (v / 128)
  rw [putF_fuel 9 (v / 128) (by have : (128 : Nat) ^ (9 + 1) = 2 ^ 70 := by decide
                                omega)]
  rw [putF, if_neg h]
theorem putF_len (f v : Nat) : 1 ≤ (putF f v).length ∧ (putF f v).length ≤ f + 1 := by
  induction f generalizing v with
  | zero => simp [putF]
  | succ f ih =>
    unfold putF
    split
    · simp
    · have := ih (v / 128); simp only [List.length_cons]; omega
theorem putU_len (v : Nat) (h : v < 2 ^ 64) : 1 ≤ (putU v).length ∧ (putU v).length ≤ 10 := by
  unfold putU
  rw [putF_fuel 9 v (by have : (128 : Nat) ^ (9 + 1) = 2 ^ 70 := by decide
                        omega)]
  exact putF_len 9 v
theorem putF_mono : ∀ (f a b : Nat), a ≤ b → (putF f a).length ≤ (putF f b).length
  | 0, a, b, _ => by simp [putF]
  | f + 1, a, b, h => by
    unfold putF
    by_cases ha : a < 128
    · rw [if_pos ha]
      by_cases hb : b < 128
      · rw [if_pos hb]; simp
      · rw [if_neg hb]; simp
    · rw [if_neg ha, if_neg (by omega)]
      simp only [List.length_cons]
      have := putF_mono f (a / 128) (b / 128) (Nat.div_le_div_right h)
      omega
theorem putU_mono (a b : Nat) (h : a ≤ b) : (putU a).length ≤ (putU b).length := putF_mono 10 a b h
/-- reading a number: from byte k on, with value v so far -/
def getU : Nat → Nat → List UInt8 → Option (Nat × Nat)
  | _, _, [] => none
  | k, v, b :: r => if (k = 9 ∧ 1 < b.toNat) ∨ (0 < k ∧ b.toNat = 0) then none
    else if b.toNat < 128 then some (v + b.toNat * 2 ^ (7 * k), k + 1)
    else getU (k + 1) (v + (b.toNat - 128) * 2 ^ (7 * k)) r
def rdU (l : List UInt8) : Option (Nat × Nat) := getU 0 0 l
theorem mul_pow_sum (x k : Nat) : (x % 128) * 2 ^ (7 * k) + (x / 128) * 2 ^ (7 * (k + 1)) = x * 2 ^ (7 * k) := by
  have e : 2 ^ (7 * (k + 1)) = 128 * 2 ^ (7 * k) := by rw [show 7 * (k + 1) = 7 + 7 * k by omega, Nat.pow_add]
  rw [e, ← Nat.mul_assoc, ← Nat.add_mul]
  congr 1
  omega
theorem pow_split (k : Nat) (h : k ≤ 8) : 2 ^ (64 - 7 * k) = 2 ^ (64 - 7 * (k + 1)) * 128 := by
  rw [show 64 - 7 * k = (64 - 7 * (k + 1)) + 7 by omega, Nat.pow_add]
theorem getU_put : ∀ (n k v x : Nat) (r : List UInt8), n + k = 9 → x < 2 ^ (64 - 7 * k) → (k = 0 ∨ 0 < x) → getU k v (putU x ++ r) = some (v + x * 2 ^ (7 * k), k + (putU x).length) := by
  intro n
  induction n with
  | zero =>
    intro k v x r hk hx h0
    obtain rfl : k = 9 := by omega
    have hx2 : x < 2 := by simpa using hx
    rw [putU_small (by omega)]
    have e := u8_ofNat x (by omega)
    simp only [List.cons_append, List.nil_append, getU, e]
    rw [if_neg (by omega), if_pos (by omega)]
    rfl
  | succ n ih =>
    intro k v x r hk hx h0
    by_cases hs : x < 128
    · rw [putU_small hs]
      have e := u8_ofNat x (by omega)
      simp only [List.cons_append, List.nil_append, getU, e]
      rw [if_neg (by omega), if_pos hs]
      rfl
    · have hx64 : x < 2 ^ 64 := Nat.lt_of_lt_of_le hx (Nat.pow_le_pow_right (by omega) (by omega))
      rw [putU_big hs hx64]
      have e := u8_ofNat (x % 128 + 128) (by omega)
      rw [List.cons_append, getU, e, if_neg (by omega), if_neg (by omega), Nat.add_sub_cancel]
      rw [ih (k + 1) _ (x / 128) r (by omega) (by rw [pow_split k (by omega)] at hx; exact Nat.div_lt_of_lt_mul (by rw [Nat.mul_comm]; exact hx)) (.inr (by omega))]
      rw [Nat.add_assoc v, mul_pow_sum, List.length_cons]
      congr 2
      omega
theorem rdU_put (x : Nat) (r : List UInt8) (h : x < 2 ^ 64) : rdU (putU x ++ r) = some (x, (putU x).length) := by
  unfold rdU
  rw [getU_put 9 0 0 x r rfl h (.inl rfl)]
  simp
theorem putU_inj {a b : Nat} (ha : a < 2 ^ 64) (hb : b < 2 ^ 64) (h : putU a = putU b) : a = b := by
  have h1 := rdU_put a [] ha
  rw [h, rdU_put b [] hb] at h1
  simp only [Option.some.injEq, Prod.mk.injEq] at h1
  exact h1.1.symm
/-- what is read was written so -/
theorem getU_form : ∀ (l : List UInt8) (k v y n : Nat), k ≤ 9 → getU k v l = some (y, n) →
    k < n ∧ n ≤ k + l.length ∧ n ≤ 10 ∧ ∃ x, (k = 0 ∨ 0 < x) ∧ x < 2 ^ (64 - 7 * k) ∧ y = v + x * 2 ^ (7 * k) ∧ l.take (n - k) = putU x
  | [], k, v, y, n, _, h => by simp [getU] at h
  | b :: r, k, v, y, n, hk, h => by
    unfold getU at h
    split at h
    · cases h
    · rename_i hg
      split at h
      · rename_i hb
        simp only [Option.some.injEq, Prod.mk.injEq] at h
        obtain ⟨rfl, rfl⟩ := h
        refine ⟨by omega, by simp, by omega, b.toNat, by omega, ?_, rfl, ?_⟩
        · by_cases h9 : k = 9
          · subst h9
            have : (2 : Nat) ^ (64 - 7 * 9) = 2 := rfl
            rw [this]; omega
          · have : (2 : Nat) ^ 8 ≤ 2 ^ (64 - 7 * k) := Nat.pow_le_pow_right (by omega) (by omega)
            omega
        · rw [show k + 1 - k = 1 by omega, putU_small hb]
          simp
      · rename_i hb
        have h9 : k ≠ 9 := fun e => hg (.inl ⟨e, by omega⟩)
        obtain ⟨h1, h2, h3, x, h4, h5, h6, h7⟩ := getU_form r (k + 1) _ y n (by omega) h
        have hbl := b.toNat_lt
        have hx0 : 0 < x := by omega
        refine ⟨by omega, by simp only [List.length_cons]; omega, h3, (b.toNat - 128) + 128 * x, by omega, ?_, ?_, ?_⟩
        · rw [pow_split k (by omega)]
          have : x + 1 ≤ 2 ^ (64 - 7 * (k + 1)) := h5
          have h8 : (x + 1) * 128 ≤ 2 ^ (64 - 7 * (k + 1)) * 128 := Nat.mul_le_mul_right _ this
          omega
        · rw [h6]
          have e := mul_pow_sum ((b.toNat - 128) + 128 * x) k
          rw [show ((b.toNat - 128) + 128 * x) % 128 = b.toNat - 128 by omega, show ((b.toNat - 128) + 128 * x) / 128 = x by omega] at e
          omega
        · have hlt : (b.toNat - 128) + 128 * x < 2 ^ 64 := by
            have h10 : (2 : Nat) ^ (64 - 7 * (k + 1)) ≤ 2 ^ 57 := Nat.pow_le_pow_right (by omega) (by omega)
            omega
          rw [putU_big (by omega) hlt]
          rw [show n - k = (n - (k + 1)) + 1 by omega, List.take_succ_cons, h7]
          congr 1
          · exact u8_eq _ _ (by rw [u8_ofNat _ (by omega)]; omega)
          · congr 1; omega
theorem rdU_form {l : List UInt8} {y n : Nat} (h : rdU l = some (y, n)) : 1 ≤ n ∧ n ≤ l.length ∧ n ≤ 10 ∧ y < 2 ^ 64 ∧ l.take n = putU y := by
  obtain ⟨h1, h2, h3, x, h4, h5, h6, h7⟩ := getU_form l 0 0 y n (by omega) h
  have hx : y = x := by simpa using h6
  subst hx
  exact ⟨h1, by omega, h3, h5, by simpa using h7⟩
theorem getU_cut : ∀ (l : List UInt8) (k v y n m : Nat), getU k v l = some (y, n) → k + m < n → getU k v (l.take m) = none
  | [], k, v, y, n, m, h, _ => by simp [getU] at h
  | b :: r, k, v, y, n, 0, h, _ => by simp [getU]
  | b :: r, k, v, y, n, m + 1, h, hm => by
    unfold getU at h
    rw [List.take_succ_cons, getU]
    split at h
    · cases h
    · rename_i hg
      rw [if_neg hg]
      split at h
      · simp only [Option.some.injEq, Prod.mk.injEq] at h
        omega
      · rename_i hb
        rw [if_neg hb]
        exact getU_cut r (k + 1) _ y n m h (by omega)
theorem rdU_cut (x : Nat) (h : x < 2 ^ 64) (m : Nat) (hm : m < (putU x).length) : rdU ((putU x).take m) = none := by
  have h1 := rdU_put x [] h
  rw [List.append_nil] at h1
  exact getU_cut _ 0 0 x _ m h1 (by omega)
/-- what has been read of a number after k bytes -/
theorem getU_step (l : List UInt8) (k v : Nat) (hk : k < l.length) : getU k v (l.drop k) = if (k = 9 ∧ 1 < nn l k) ∨ (0 < k ∧ nn l k = 0) then none
    else if nn l k < 128 then some (v + nn l k * 2 ^ (7 * k), k + 1)
    else getU (k + 1) (v + (nn l k - 128) * 2 ^ (7 * k)) (l.drop (k + 1)) := by
  rw [List.drop_eq_getElem_cons hk, getU]
  have : nn l k = l[k].toNat := by unfold nn; rw [List.getElem?_eq_getElem hk]; rfl
  rw [this]
/-! Numbers with a sign. -/
def zz (v : Int) : Nat := if v < 0 then (-2 * v - 1).toNat else (2 * v).toNat
def uz (u : Nat) : Int := if u % 2 = 1 then -((u / 2 : Nat) : Int) - 1 else ((u / 2 : Nat) : Int)
theorem uz_zz (v : Int) : uz (zz v) = v := by
  unfold uz zz
  by_cases h : v < 0
  · rw [if_pos h, if_pos (by omega)]; omega
  · rw [if_neg h, if_neg (by omega)]; omega
theorem zz_uz (u : Nat) : zz (uz u) = u := by
  unfold zz uz
  by_cases h : u % 2 = 1
  · rw [if_pos h, if_pos (by omega)]; omega
  · rw [if_neg h, if_neg (by omega)]; omega
theorem zz_lt (v : Int) (h1 : -9223372036854775808 ≤ v) (h2 : v ≤ 9223372036854775807) : zz v < 2 ^ 64 := by
  unfold zz
  split <;> omega
theorem uz_rng (u : Nat) (h : u < 2 ^ 64) : -9223372036854775808 ≤ uz u ∧ uz u ≤ 9223372036854775807 := by
  unfold uz
  split <;> omega
/-! Byte strings: 0 and what was read, or an error. -/
def putB (b : List UInt8) : List UInt8 := putU b.length ++ b
structure RdB where
  err : Nat
  body : List UInt8
  used : Nat
def rdB (l : List UInt8) (most : Int) : RdB :=
  if most < 0 then ⟨1, [], 0⟩ else
  match rdU l with
  | none => ⟨6, [], 0⟩
  | some (v, n) => if most < (v : Int) then ⟨3, [], 0⟩ else if l.length - n < v then ⟨6, [], 0⟩ else ⟨0, (l.drop n).take v, n + v⟩
theorem rdB_put (b r : List UInt8) (most : Int) (h : b.length < 2 ^ 64) (hm : (b.length : Int) ≤ most) : rdB (putB b ++ r) most = ⟨0, b, (putB b).length⟩ := by
  unfold rdB putB
  rw [if_neg (by omega), List.append_assoc, rdU_put _ _ h]
  dsimp only
  rw [if_neg (by omega), if_neg (by simp)]
  simp
end Go.Proofs.Ytknllmcpogoeoaa
