/- Layer 3 in plain Lean: the frame of a body, whether a frame stands at the beginning of some bytes, the parts of a file. No program is in sight. -/
import Derived.Test.YtknllmcpogoeoaaCrc
namespace Go.Proofs.Ytknllmcpogoeoaa
open Go.RowKit
set_option linter.unusedVariables false
set_option linter.unusedSimpArgs false

def nn (l : List UInt8) (k : Nat) : Nat := (l[k]?.getD 0).toNat
theorem nb_nn (l : List UInt8) (k : Nat) : nb l k = (nn l k : Int) := rfl
theorem nn_lt (l : List UInt8) (k : Nat) : nn l k < 256 := (l[k]?.getD 0).toNat_lt
def n2 (l : List UInt8) : Nat := nn l 2 + 256 * nn l 3
def sum4 (l : List UInt8) : Nat := nn l 4 + 256 * nn l 5 + 65536 * nn l 6 + 16777216 * nn l 7
theorem sum4_lt (l : List UInt8) : sum4 l < 4294967296 := by
  unfold sum4
  have := nn_lt l 4
  have := nn_lt l 5
  have := nn_lt l 6
  have := nn_lt l 7
  omega
def crcOf (l : List UInt8) : BitVec 32 := crc ((l.drop 2).take 2 ++ (l.drop 8).take (n2 l))
def hd4 (l : List UInt8) : Prop := 8 ≤ l.length ∧ nn l 0 = 165 ∧ nn l 1 = 90 ∧ n2 l ≤ 4000 ∧ n2 l + 8 ≤ l.length
instance (l : List UInt8) : Decidable (hd4 l) := by unfold hd4; infer_instance
/-- a frame stands at the beginning -/
def stb (l : List UInt8) : Bool := decide (hd4 l) && ((crcOf l).toNat == sum4 l)
/-- its length; 0: none does -/
def st (l : List UInt8) : Nat := if stb l then 8 + n2 l else 0
theorem st_no {l : List UInt8} (h : stb l = false) : st l = 0 := by simp [st, h]
theorem st_yes {l : List UInt8} (h : stb l = true) : st l = 8 + n2 l := by simp [st, h]
theorem stb_hd {l : List UInt8} (h : stb l = true) : hd4 l := by
  simp only [stb, Bool.and_eq_true, decide_eq_true_eq] at h
  exact h.1
theorem stb_of {l : List UInt8} (h : hd4 l) (e : (crcOf l).toNat = sum4 l) : stb l = true := by simp [stb, h, e]
theorem stb_not {l : List UInt8} (h : ¬ hd4 l) : stb l = false := by simp [stb, h]
theorem stb_ne {l : List UInt8} (e : ¬ (crcOf l).toNat = sum4 l) : stb l = false := by simp [stb, e]
theorem st_pos {l : List UInt8} : stb l = decide (0 < st l) := by
  unfold st
  cases h : stb l <;> simp
  omega
theorem st_le (l : List UInt8) : st l ≤ l.length := by
  unfold st
  split
  · rename_i h
    have := stb_hd h
    unfold hd4 at this
    omega
  · omega

def le32 (x : BitVec 32) : List UInt8 := [UInt8.ofNat (x.toNat % 256), UInt8.ofNat (x.toNat / 256 % 256), UInt8.ofNat (x.toNat / 65536 % 256), UInt8.ofNat (x.toNat / 16777216)]
def hdr (b : List UInt8) : List UInt8 := [UInt8.ofNat (b.length % 256), UInt8.ofNat (b.length / 256)]
def frameOf (b : List UInt8) : List UInt8 := [165, 90] ++ hdr b ++ le32 (crc (hdr b ++ b)) ++ b
theorem frameOf_len (b : List UInt8) : (frameOf b).length = 8 + b.length := by simp [frameOf, hdr, le32]; omega

theorem eight {l : List UInt8} (h : 8 ≤ l.length) : ∃ a b c d e f g i r, l = a :: b :: c :: d :: e :: f :: g :: i :: r := by
  match l, h with
  | a :: b :: c :: d :: e :: f :: g :: i :: r, _ => exact ⟨a, b, c, d, e, f, g, i, r, rfl⟩

theorem u8_eq (a b : UInt8) (h : a.toNat = b.toNat) : a = b := UInt8.toNat_inj.1 h
theorem u8_ofNat (n : Nat) (h : n < 256) : (UInt8.ofNat n).toNat = n := by rw [UInt8.toNat_ofNat']; omega

theorem le32_iff (x : BitVec 32) (e f g i : UInt8) : le32 x = [e, f, g, i] ↔ x.toNat = e.toNat + 256 * f.toNat + 65536 * g.toNat + 16777216 * i.toNat := by
  have h1 := e.toNat_lt
  have h2 := f.toNat_lt
  have h3 := g.toNat_lt
  have h4 := i.toNat_lt
  have hx := x.isLt
  unfold le32
  simp only [List.cons.injEq, and_true]
  constructor
  · rintro ⟨a, b, c, d⟩
    have a := congrArg UInt8.toNat a
    have b := congrArg UInt8.toNat b
    have c := congrArg UInt8.toNat c
    have d := congrArg UInt8.toNat d
    rw [u8_ofNat _ (by omega)] at a b c d
    omega
  · intro h
    refine ⟨u8_eq _ _ ?_, u8_eq _ _ ?_, u8_eq _ _ ?_, u8_eq _ _ ?_⟩ <;> rw [u8_ofNat _ (by omega)] <;> omega

/-- the reference compares the whole frame: the same -/
theorem frame_iff {l : List UInt8} (h : hd4 l) : frameOf ((l.drop 8).take (n2 l)) = l.take (8 + n2 l) ↔ (crcOf l).toNat = sum4 l := by
  obtain ⟨h8, h0, h1, hn, hl⟩ := h
  obtain ⟨a, b, c, d, e, f, g, i, r, rfl⟩ := eight h8
  have hc := c.toNat_lt
  have hd := d.toNat_lt
  have en : n2 (a :: b :: c :: d :: e :: f :: g :: i :: r) = c.toNat + 256 * d.toNat := by simp [n2, nn]
  have es : sum4 (a :: b :: c :: d :: e :: f :: g :: i :: r) = e.toNat + 256 * f.toNat + 65536 * g.toNat + 16777216 * i.toNat := by simp [sum4, nn]
  simp [nn] at h0 h1
  have ha : a = 165 := u8_eq _ _ (by rw [h0]; rfl)
  have hb : b = 90 := u8_eq _ _ (by rw [h1]; rfl)
  subst ha hb
  unfold crcOf
  rw [en] at hl ⊢
  rw [es]
  simp only [List.length_cons] at hl
  generalize hm : c.toNat + 256 * d.toNat = m at *
  have eh : hdr ((List.drop 8 (165 :: 90 :: c :: d :: e :: f :: g :: i :: r)).take m) = [c, d] := by
    unfold hdr
    simp only [List.drop_succ_cons, List.drop_zero, List.length_take]
    rw [Nat.min_eq_left (by omega)]
    congr 1
    · exact u8_eq _ _ (by rw [u8_ofNat _ (by omega)]; omega)
    · congr 1
      exact u8_eq _ _ (by rw [u8_ofNat _ (by omega)]; omega)
  unfold frameOf
  rw [eh]
  rw [← le32_iff]
  simp only [List.drop_succ_cons, List.drop_zero, List.take_succ_cons, List.take_zero]
  rw [show 8 + m = m + 8 by omega]
  simp only [List.take_succ_cons]
  constructor
  · intro h
    simp only [List.cons_append, List.nil_append, List.append_assoc, List.cons.injEq, true_and] at h
    have h' := List.append_inj_left (t₁ := List.take m r) (t₂ := List.take m r) (s₂ := [e, f, g, i]) (by simpa using h) (by simp [le32])
    exact h'
  · intro h
    rw [h]
    simp
/-! The bits of two numbers that do not meet, in the walk's own numbers. -/
theorem or_nat (x y n : Nat) (hx : x < 2 ^ n) : x ||| (y * 2 ^ n) = x + y * 2 ^ n := by
  rw [Nat.or_comm, ← Nat.shiftLeft_eq, ← Nat.shiftLeft_add_eq_or_of_lt hx, Nat.add_comm]
theorem bits_or_u32 (x y : Nat) (hx : x < 4294967296) (hy : y < 4294967296) : bits .or .u32 (x : Int) (y : Int) = ((x ||| y : Nat) : Int) := by
  have h := or_u32 (BitVec.ofNat 32 x) (BitVec.ofNat 32 y)
  simp only [BitVec.toNat_or, BitVec.toNat_ofNat] at h
  rw [Nat.mod_eq_of_lt (by omega), Nat.mod_eq_of_lt (by omega)] at h
  exact h
theorem bits_or_i64 (x y : Nat) (hx : x < 4294967296) (hy : y < 4294967296) : bits .or .i64 (x : Int) (y : Int) = ((x ||| y : Nat) : Int) := by
  have hz : x ||| y < 2 ^ 32 := Nat.or_lt_two_pow (by omega) (by omega)
  show IntKind.i64.wrap ((BitVec.ofInt 64 (x : Int) ||| BitVec.ofInt 64 (y : Int)).toNat : Int) = _
  have e : (BitVec.ofInt 64 (x : Int) ||| BitVec.ofInt 64 (y : Int)).toNat = x ||| y := by
    rw [BitVec.toNat_or, BitVec.toNat_ofInt, BitVec.toNat_ofInt]
    congr 1 <;> omega
  rw [e, IntKind.wrap_i64]
  omega
theorem or_n2 (l : List UInt8) : bits .or .i64 (nb l 2) (nb l 3 * (256 : Int)) = (n2 l : Int) := by
  have h2 := nn_lt l 2
  have h3 := nn_lt l 3
  have e : nb l 3 * (256 : Int) = ((nn l 3 * 2 ^ 8 : Nat) : Int) := by rw [nb_nn]; omega
  rw [e, nb_nn, bits_or_i64 _ _ (by omega) (by omega), or_nat _ _ 8 (by omega)]
  unfold n2
  omega
def sA (l : List UInt8) : Int := ((nn l 4 + nn l 5 * 2 ^ 8 : Nat) : Int)
def sB (l : List UInt8) : Int := ((nn l 4 + nn l 5 * 2 ^ 8 + nn l 6 * 2 ^ 16 : Nat) : Int)
theorem or_s1 (l : List UInt8) : bits .or .u32 (nb l 4) (nb l 5 * (256 : Int)) = sA l := by
  unfold sA
  have h2 := nn_lt l 4
  have h3 := nn_lt l 5
  have e : nb l 5 * (256 : Int) = ((nn l 5 * 2 ^ 8 : Nat) : Int) := by rw [nb_nn]; omega
  rw [e, nb_nn, bits_or_u32 _ _ (by omega) (by omega), or_nat _ _ 8 (by omega)]
theorem or_s2 (l : List UInt8) : bits .or .u32 (sA l) (nb l 6 * (65536 : Int)) = sB l := by
  unfold sA sB
  have h2 := nn_lt l 4
  have h3 := nn_lt l 5
  have h4 := nn_lt l 6
  have e : nb l 6 * (65536 : Int) = ((nn l 6 * 2 ^ 16 : Nat) : Int) := by rw [nb_nn]; omega
  rw [e, bits_or_u32 _ _ (by omega) (by omega), or_nat _ _ 16 (by omega)]
theorem or_s3 (l : List UInt8) : bits .or .u32 (sB l) (nb l 7 * (16777216 : Int)) = (sum4 l : Int) := by
  unfold sB
  have h2 := nn_lt l 4
  have h3 := nn_lt l 5
  have h4 := nn_lt l 6
  have h5 := nn_lt l 7
  have e : nb l 7 * (16777216 : Int) = ((nn l 7 * 2 ^ 24 : Nat) : Int) := by rw [nb_nn]; omega
  rw [e, bits_or_u32 _ _ (by omega) (by omega), or_nat _ _ 24 (by omega)]
  unfold sum4
  omega
theorem nb_drop (l : List UInt8) (off k : Nat) : nb l (off + k) = nb (l.drop off) k := by simp [nb]
theorem take_eq (d x : List UInt8) (n : Nat) (hd : n ≤ d.length) (hx : x.length = n) (h : ∀ j, j < n → nb d j = nb x j) : x = d.take n := by
  apply List.ext_getElem
  · simp [hx]; omega
  · intro i h1 h2
    have := h i (by omega)
    unfold nb at this
    rw [List.getElem?_eq_getElem (by omega), List.getElem?_eq_getElem (by omega)] at this
    simp only [Option.getD_some] at this
    rw [List.getElem_take]
    exact u8_eq _ _ (by omega)
theorem take_ne (d x : List UInt8) (n k : Nat) (hk : k < n) (h : nb d k ≠ nb x k) : x ≠ d.take n := by
  intro e
  apply h
  rw [e]
  simp [nb, hk]
/-- the sum of the two length bytes, as the reference has it -/
theorem n2_sum (l : List UInt8) : nb l 2 + 256 * nb l 3 = (n2 l : Int) := by
  rw [nb_nn, nb_nn]; unfold n2; omega
end Go.Proofs.Ytknllmcpogoeoaa
