/- Plain laws for law03's last statements: files in a row, cut files, covered files, bursts in a frame. No program is in sight. -/
import Derived.Test.YtknllmcpogoeoaaBu
namespace Go.Proofs.Ytknllmcpogoeoaa
open Go.RowKit
set_option linter.unusedVariables false
set_option linter.unusedSimpArgs false
theorem fileOf_cons (x : List UInt8) (r : List (List UInt8)) : fileOf (x :: r) = frameOf x ++ fileOf r := by simp [fileOf]
theorem fileOf_append (a b : List (List UInt8)) : fileOf (a ++ b) = fileOf a ++ fileOf b := by simp [fileOf]
/-- the bodies of a file, and what follows -/
theorem scan_file : ∀ (ls : List (List UInt8)) (off : Nat) (r : List UInt8), (∀ x ∈ ls, x.length ≤ 4000) →
    bodL (scanP off (fileOf ls ++ r)) = ls ++ bodL (scanP (off + (fileOf ls).length) r) ∧ lostL (scanP off (fileOf ls ++ r)) = lostL (scanP (off + (fileOf ls).length) r)
  | [], off, r, _ => by simp [fileOf]
  | x :: ls, off, r, h => by
    have ih := scan_file ls (off + (8 + x.length)) r (fun y hy => h y (by simp [hy]))
    rw [fileOf_cons, List.append_assoc, scanP_frame off x _ (h x (by simp)), bodL_cons, lostL_cons, ih.1, ih.2, List.length_append, frameOf_len]
    rw [Nat.add_assoc off (8 + x.length)]
    exact ⟨rfl, by simp⟩
theorem scan_whole (ls : List (List UInt8)) (h : ∀ x ∈ ls, x.length ≤ 4000) : bodL (scanP 0 (fileOf ls)) = ls ∧ lostL (scanP 0 (fileOf ls)) = 0 := by
  have := scan_file ls 0 [] h
  rw [List.append_nil] at this
  rw [this.1, this.2, scanP_nil]
  simp [bodL, lostL]
/-- bytes that begin as a file does: the frames before that end are read -/
theorem scan_begins (ls : List (List UInt8)) (h : ∀ x ∈ ls, x.length ≤ 4000) (q : List UInt8) (n k : Nat) (hn : n ≤ ls.length) (hk : (fileOf (ls.take n)).length ≤ k) (hq : q.take k = (fileOf ls).take k) :
    (bodL (scanP 0 q)).take n = ls.take n := by
  have e : q = fileOf (ls.take n) ++ q.drop (fileOf (ls.take n)).length := by
    have h1 : q.take (fileOf (ls.take n)).length = fileOf (ls.take n) := by
      have h2 := congrArg (List.take (fileOf (ls.take n)).length) hq
      rw [List.take_take, List.take_take, Nat.min_eq_left hk] at h2
      rw [h2]
      conv => lhs; rw [← List.take_append_drop n ls, fileOf_append]
      simp
    conv => lhs; rw [← List.take_append_drop (fileOf (ls.take n)).length q, h1]
  rw [e, (scan_file (ls.take n) 0 _ (fun x hx => h x (List.mem_of_mem_take hx))).1]
  rw [List.take_append_of_le_length (by rw [List.length_take]; omega)]
  rw [List.take_take, Nat.min_self]
/-- the parts that cover a file from byte at on, where the part before was good or not -/
def Cov (L : List UInt8) : Nat → Bool → List PartS → Prop
  | at', g, [] => at' = L.length
  | at', g, x :: D => x.off = at' ∧ 1 ≤ x.len ∧ (x.good = false → g = true ∧ x.body = []) ∧ at' + x.len ≤ L.length ∧ (x.good = true → 8 ≤ x.len ∧ x.body = (L.drop (at' + 8)).take (x.len - 8)) ∧ Cov L (at' + x.len) x.good D
theorem cov_scan (L : List UInt8) : ∀ (n off : Nat) (g : Bool), off ≤ L.length → L.length - off ≤ n → (g = false → L.drop off = [] ∨ stb (L.drop off) = true) → Cov L off g (scanP off (L.drop off)) := by
  intro n
  induction n with
  | zero =>
    intro off g h1 h2 h3
    have : L.drop off = [] := List.drop_eq_nil_of_le (by omega)
    rw [this, scanP_nil]
    show off = L.length
    omega
  | succ n ih =>
    intro off g h1 h2 h3
    by_cases hl : L.drop off = []
    · rw [hl, scanP_nil]
      have := congrArg List.length hl
      rw [List.length_drop, List.length_nil] at this
      show off = L.length
      omega
    have hpos : 0 < (L.drop off).length := List.length_pos_iff.2 hl
    rw [List.length_drop] at hpos
    by_cases hs : stb (L.drop off) = true
    · have hd := stb_hd hs
      have hst := st_yes hs
      have hle := st_le (L.drop off)
      rw [List.length_drop] at hle
      rw [scanP_good hs]
      simp only [List.drop_drop]
      refine ⟨rfl, ?_, ?_, ?_, ?_, ?_⟩
      · show 1 ≤ st (L.drop off); omega
      · intro h; cases h
      · show off + st (L.drop off) ≤ L.length; omega
      · intro _
        refine ⟨?_, ?_⟩
        · show 8 ≤ st (L.drop off); omega
        · show _ = (L.drop (off + 8)).take (st (L.drop off) - 8)
          rw [hst, Nat.add_sub_cancel_left]
      · exact ih (off + st (L.drop off)) true (by omega) (by omega) (fun h => by cases h)
    · have hs : stb (L.drop off) = false := by simpa using hs
      have hg : g = true := by
        cases g with
        | true => rfl
        | false => rcases h3 rfl with h | h
                   · exact absurd h hl
                   · rw [hs] at h; cases h
      have hj := junk_pos hl hs
      have hle := junk_le (L.drop off)
      rw [List.length_drop] at hle
      rw [scanP_bad hl hs]
      simp only [List.drop_drop]
      refine ⟨rfl, hj, fun _ => ⟨hg, rfl⟩, ?_, ?_, ?_⟩
      · show off + junk (L.drop off) ≤ L.length; omega
      · intro h; cases h
      · refine ih (off + junk (L.drop off)) false (by omega) (by omega) (fun _ => ?_)
        rcases junk_stop (L.drop off) with h | h
        · left; rw [List.length_drop] at h; exact List.drop_eq_nil_of_le (by omega)
        · right; rw [List.drop_drop] at h; exact h
theorem cov_all (L : List UInt8) : Cov L 0 true (scanP 0 L) := by
  have := cov_scan L L.length 0 true (by omega) (by omega) (fun h => by cases h)
  simpa using this
/-! Changing bits. -/
/-- one bit is changed -/
def flipBit (l : List UInt8) (j : Nat) : List UInt8 := l.set (j / 8) ((l[j / 8]?.getD 0) ^^^ UInt8.ofNat (2 ^ (j % 8)))
theorem flipBit_len (l : List UInt8) (j : Nat) : (flipBit l j).length = l.length := by simp [flipBit]
theorem pow_bit (j : Nat) (hj : j < 8) : ∀ i, i < 8 → (UInt8.ofNat (2 ^ j)).toBitVec.getLsbD i = decide (i = j) := by
  intro i hi
  have h1 : (UInt8.ofNat (2 ^ j)).toBitVec = BitVec.ofNat 8 (2 ^ j) := rfl
  rw [h1, BitVec.getLsbD_ofNat, Nat.testBit_two_pow]
  simp only [hi, decide_true, Bool.true_and]
  by_cases h : i = j
  · simp [h]
  · simp [h]; omega
theorem bitAt_flip (l : List UInt8) (j i : Nat) (hj : j < 8 * l.length) : bitAt (flipBit l j) i = (bitAt l i ^^ decide (i = j)) := by
  unfold bitAt flipBit
  by_cases h : i / 8 = j / 8
  · rw [h, List.getElem?_set_self (by omega), List.getElem?_eq_getElem (by omega)]
    simp only [Option.getD_some, UInt8.toBitVec_xor, BitVec.getLsbD_xor]
    rw [pow_bit (j % 8) (by omega) (i % 8) (by omega)]
    congr 1
    rw [decide_eq_decide]
    omega
  · rw [List.getElem?_set_ne (by omega)]
    have : ¬ i = j := fun e => h (by rw [e])
    simp [this]
/-- the changes of a burst, the first n bits of it -/
def flips (l : List UInt8) (at' : Nat) (bits : Nat) (z : Nat) : Nat → List UInt8
  | 0 => l
  | i + 1 => if z.testBit i && decide (at' + i < bits) then flipBit (flips l at' bits z i) (at' + i) else flips l at' bits z i
theorem flips_len (l : List UInt8) (a b z : Nat) : ∀ n, (flips l a b z n).length = l.length
  | 0 => rfl
  | n + 1 => by
    unfold flips
    split
    · rw [flipBit_len, flips_len l a b z n]
    · exact flips_len l a b z n
theorem flips_bit (l : List UInt8) (a b z : Nat) (hb : b ≤ 8 * l.length) : ∀ n i, bitAt (flips l a b z n) i = (bitAt l i ^^ (decide (a ≤ i) && decide (i < b) && decide (i < a + n) && z.testBit (i - a)))
  | 0, i => by
    have : (decide (a ≤ i) && decide (i < b) && decide (i < a + 0) && z.testBit (i - a)) = false := by
      by_cases h : a ≤ i
      · have : ¬ i < a + 0 := by omega
        rw [decide_eq_false this]; simp
      · simp [h]
    rw [this]; simp [flips]
  | n + 1, i => by
    unfold flips
    by_cases hc : (z.testBit n && decide (a + n < b)) = true
    · rw [if_pos hc]
      rw [Bool.and_eq_true, decide_eq_true_eq] at hc
      rw [bitAt_flip _ _ _ (by rw [flips_len]; omega), flips_bit l a b z hb n i]
      by_cases hi : i = a + n
      · subst hi
        have h1 : ¬ a + n < a + n := by omega
        have h2 : a ≤ a + n := by omega
        have h3 : a + n < a + (n + 1) := by omega
        simp only [h1, h2, h3, hc.2, decide_true, decide_false, Bool.true_and, Bool.and_false, Bool.false_and, Bool.xor_false, Nat.add_sub_cancel_left, hc.1]
      · have h1 : (i < a + (n + 1)) = (i < a + n) ∨ ¬ a ≤ i ∨ ¬ i < a + (n + 1) ∧ ¬ i < a + n := by
          by_cases h : i < a + n
          · left; simp [h]; omega
          · right; right; omega
        have h4 : decide (i < a + (n + 1)) = decide (i < a + n) := by rw [decide_eq_decide]; omega
        rw [h4]
        simp [hi]
    · rw [if_neg hc, flips_bit l a b z hb n i]
      congr 1
      by_cases hi : i = a + n
      · subst hi
        have h1 : ¬ a + n < a + n := by omega
        have h3 : a + n < a + (n + 1) := by omega
        simp only [h1, decide_false, Bool.and_false, Bool.false_and, Nat.add_sub_cancel_left]
        have hc : (z.testBit n && decide (a + n < b)) = false := by simpa using hc
        cases h5 : z.testBit n
        · simp
        · rw [h5] at hc
          simp only [Bool.true_and, decide_eq_false_iff_not] at hc
          simp [hc]
      · have h4 : decide (i < a + (n + 1)) = decide (i < a + n) := by rw [decide_eq_decide]; omega
        rw [h4]
/-- whether a burst changes anything -/
def changed (at' bits z : Nat) : Nat → Bool
  | 0 => false
  | i + 1 => changed at' bits z i || (z.testBit i && decide (at' + i < bits))
theorem changed_iff (a b z : Nat) : ∀ n, changed a b z n = true ↔ ∃ i, i < n ∧ z.testBit i = true ∧ a + i < b
  | 0 => by simp [changed]
  | n + 1 => by
    unfold changed
    rw [Bool.or_eq_true, changed_iff a b z n, Bool.and_eq_true, decide_eq_true_eq]
    constructor
    · rintro (⟨i, h1, h2, h3⟩ | ⟨h1, h2⟩)
      · exact ⟨i, by omega, h2, h3⟩
      · exact ⟨n, by omega, h1, h2⟩
    · rintro ⟨i, h1, h2, h3⟩
      by_cases h : i = n
      · subst h; exact .inr ⟨h2, h3⟩
      · exact .inl ⟨i, by omega, h2, h3⟩
theorem flips_none (l : List UInt8) (a b z : Nat) : ∀ n, changed a b z n = false → flips l a b z n = l
  | 0, _ => rfl
  | n + 1, h => by
    unfold changed at h
    rw [Bool.or_eq_false_iff] at h
    unfold flips
    rw [if_neg (by rw [h.2]; simp)]
    exact flips_none l a b z n h.1
theorem byte_bits (l r : List UInt8) (k : Nat) (h : ∀ j, j < 8 → bitAt l (8 * k + j) = bitAt r (8 * k + j)) : l[k]?.getD 0 = r[k]?.getD 0 := by
  apply UInt8.toBitVec_inj.1
  apply BitVec.eq_of_getLsbD_eq
  intro i hi
  have := h i hi
  unfold bitAt at this
  rw [show (8 * k + i) / 8 = k by omega, show (8 * k + i) % 8 = i by omega] at this
  exact this
theorem bytes_bits (l r : List UInt8) (hl : l.length = r.length) (h : ∀ j, j < 8 * l.length → bitAt l j = bitAt r j) : l = r := by
  apply List.ext_getElem hl
  intro k h1 h2
  have := byte_bits l r k (fun j hj => h _ (by omega))
  rw [List.getElem?_eq_getElem h1, List.getElem?_eq_getElem h2] at this
  simpa using this
theorem bitAt_drop (l : List UInt8) (n j : Nat) : bitAt (l.drop n) j = bitAt l (8 * n + j) := by
  unfold bitAt
  rw [List.getElem?_drop, show (8 * n + j) / 8 = n + j / 8 by omega, show (8 * n + j) % 8 = j % 8 by omega]
theorem bitAt_take (l : List UInt8) (n j : Nat) (h : j < 8 * n) : bitAt (l.take n) j = bitAt l j := by
  unfold bitAt
  rw [List.getElem?_take, if_pos (by omega)]
/-- A frame in which a burst of the checksum or of the body was changed does not stand. -/
theorem burst_frame (b : List UInt8) (h4 : b.length ≤ 4000) (sum : Bool) (a z : Nat) (q : List UInt8)
    (hq : q = if sum then flips (frameOf b) (32 + a) 64 z 32 else flips (frameOf b) (64 + a) (64 + 8 * b.length) z 32)
    (hc : if sum then changed (32 + a) 64 z 32 = true else changed (64 + a) (64 + 8 * b.length) z 32 = true) : stb q = false := by
  have hfl := frameOf_len b
  have hs0 := frame_stands b [] h4
  rw [List.append_nil] at hs0
  have hsb := hs0.1
  have hstd := stb_hd hsb
  have hsum : (crcOf (frameOf b)).toNat = sum4 (frameOf b) := by
    simp only [stb, Bool.and_eq_true, beq_iff_eq] at hsb
    exact hsb.2
  have hql : q.length = (frameOf b).length := by rw [hq]; split <;> rw [flips_len]
  -- the bits
  have hbit : ∀ i, bitAt q i = (bitAt (frameOf b) i ^^ (if sum then (decide (32 + a ≤ i) && decide (i < 64) && decide (i < 32 + a + 32) && z.testBit (i - (32 + a))) else (decide (64 + a ≤ i) && decide (i < 64 + 8 * b.length) && decide (i < 64 + a + 32) && z.testBit (i - (64 + a))))) := by
    intro i
    rw [hq]
    cases sum with
    | true => simp only [if_true]; exact flips_bit _ _ _ _ (by omega) _ _
    | false => simp only [Bool.false_eq_true, if_false]; exact flips_bit _ _ _ _ (by omega) _ _
  have hbyte : ∀ k, (k < 4 ∨ (sum = true ∧ 8 ≤ k) ∨ (sum = false ∧ k < 8)) → q[k]?.getD 0 = (frameOf b)[k]?.getD 0 := by
    intro k hk
    refine byte_bits _ _ k (fun j hj => ?_)
    rw [hbit]
    cases sum with
    | true =>
      have : (decide (32 + a ≤ 8 * k + j) && decide (8 * k + j < 64)) = false := by
        rcases hk with h | ⟨_, h⟩ | ⟨h, _⟩
        · have : ¬ 32 + a ≤ 8 * k + j := by omega
          simp [this]
        · have : ¬ 8 * k + j < 64 := by omega
          simp [this]
        · cases h
      simp only [if_true, this, Bool.false_and, Bool.xor_false]
    | false =>
      have : ¬ 64 + a ≤ 8 * k + j := by
        rcases hk with h | ⟨h, _⟩ | ⟨_, h⟩
        · omega
        · cases h
        · omega
      simp [this]
  have hn2 : n2 q = n2 (frameOf b) := by unfold n2 nn; rw [hbyte 2 (by omega), hbyte 3 (by omega)]
  refine stb_ne (fun he => ?_)
  rw [show n2 (frameOf b) = b.length from hs0.2.1] at hn2
  cases sum with
  | true =>
    simp only [if_true] at hc
    -- the body and the length are the same, the sum is not
    have hdrop : q.drop 8 = (frameOf b).drop 8 := by
      apply bytes_bits
      · simp [hql]
      · intro j _
        rw [bitAt_drop, bitAt_drop, hbit]
        have : ¬ 8 * 8 + j < 64 := by omega
        simp [this]
    have htake : (q.drop 2).take 2 = ((frameOf b).drop 2).take 2 := by
      apply bytes_bits
      · simp [hql]
      · intro j hj
        have hj : j < 16 := by simp at hj; omega
        rw [bitAt_take _ _ _ (by omega), bitAt_take _ _ _ (by omega), bitAt_drop, bitAt_drop, hbit]
        have : ¬ 32 + a ≤ 8 * 2 + j := by omega
        simp [this]
    have hcrc : crcOf q = crcOf (frameOf b) := by unfold crcOf; rw [hn2, hdrop, htake, hs0.2.1]
    rw [hcrc, hsum] at he
    -- so the four bytes are the same
    have l1 := nn_lt q 4
    have l2 := nn_lt q 5
    have l3 := nn_lt q 6
    have l4 := nn_lt q 7
    have m1 := nn_lt (frameOf b) 4
    have m2 := nn_lt (frameOf b) 5
    have m3 := nn_lt (frameOf b) 6
    have m4 := nn_lt (frameOf b) 7
    unfold sum4 at he
    have e4 : q[4]?.getD 0 = (frameOf b)[4]?.getD 0 := u8_eq _ _ (by exact (by omega : nn q 4 = nn (frameOf b) 4))
    have e5 : q[5]?.getD 0 = (frameOf b)[5]?.getD 0 := u8_eq _ _ (by exact (by omega : nn q 5 = nn (frameOf b) 5))
    have e6 : q[6]?.getD 0 = (frameOf b)[6]?.getD 0 := u8_eq _ _ (by exact (by omega : nn q 6 = nn (frameOf b) 6))
    have e7 : q[7]?.getD 0 = (frameOf b)[7]?.getD 0 := u8_eq _ _ (by exact (by omega : nn q 7 = nn (frameOf b) 7))
    obtain ⟨i, hi, hz, hib⟩ := (changed_iff _ _ _ _).1 hc
    have hx := hbit (32 + a + i)
    have h1 : 32 + a ≤ 32 + a + i := by omega
    have h2 : 32 + a + i < 32 + a + 32 := by omega
    simp only [if_true, h1, h2, hib, decide_true, Bool.true_and, Nat.add_sub_cancel_left, hz] at hx
    have hsame : bitAt q (32 + a + i) = bitAt (frameOf b) (32 + a + i) := by
      unfold bitAt
      have : (32 + a + i) / 8 = 4 ∨ (32 + a + i) / 8 = 5 ∨ (32 + a + i) / 8 = 6 ∨ (32 + a + i) / 8 = 7 := by omega
      rcases this with h | h | h | h <;> rw [h]
      · rw [e4]
      · rw [e5]
      · rw [e6]
      · rw [e7]
    rw [hsame] at hx
    cases hy : bitAt (frameOf b) (32 + a + i) <;> rw [hy] at hx <;> simp at hx
  | false =>
    simp only [Bool.false_eq_true, if_false] at hc hbit
    have hs4 : sum4 q = sum4 (frameOf b) := by
      unfold sum4 nn
      rw [hbyte 4 (.inr (.inr ⟨rfl, by omega⟩)), hbyte 5 (.inr (.inr ⟨rfl, by omega⟩)), hbyte 6 (.inr (.inr ⟨rfl, by omega⟩)), hbyte 7 (.inr (.inr ⟨rfl, by omega⟩))]
    have htake : (q.drop 2).take 2 = ((frameOf b).drop 2).take 2 := by
      apply bytes_bits
      · simp [hql]
      · intro j hj
        have hj : j < 16 := by simp at hj; omega
        rw [bitAt_take _ _ _ (by omega), bitAt_take _ _ _ (by omega), bitAt_drop, bitAt_drop, hbit]
        have : ¬ 64 + a ≤ 8 * 2 + j := by omega
        simp [this]
    rw [hs4, ← hsum] at he
    have he := BitVec.eq_of_toNat_eq he
    unfold crcOf crc at he
    rw [hn2, hs0.2.1, htake, cupd_app, cupd_app] at he
    have he : cupd (cupd ones (((frameOf b).drop 2).take 2)) ((q.drop 8).take b.length) = cupd (cupd ones (((frameOf b).drop 2).take 2)) (((frameOf b).drop 8).take b.length) := by
      have := congrArg (fun z : BitVec 32 => ~~~ z) he
      simpa using this
    have hl1 : ((q.drop 8).take b.length).length = b.length := by rw [List.length_take, List.length_drop, hql, hfl]; omega
    have hl2 : (((frameOf b).drop 8).take b.length).length = b.length := by rw [List.length_take, List.length_drop, hfl]; omega
    obtain ⟨i, hi, hz, hib⟩ := (changed_iff _ _ _ _).1 hc
    refine crc_burst ((q.drop 8).take b.length) (((frameOf b).drop 8).take b.length) (by rw [hl1, hl2]) a (fun j => (decide (64 + a ≤ 64 + j) && decide (64 + j < 64 + 8 * b.length) && decide (64 + j < 64 + a + 32) && z.testBit (64 + j - (64 + a)))) ?_ ?_ ?_ _ he
    · intro j hj
      rw [hl1] at hj
      rw [bitAt_take _ _ _ hj, bitAt_take _ _ _ hj, bitAt_drop, bitAt_drop, hbit, show 8 * 8 + j = 64 + j by omega]
      cases bitAt (frameOf b) (64 + j) <;> simp
    · intro j hj hf
      simp only [Bool.and_eq_true, decide_eq_true_eq] at hf
      omega
    · refine ⟨a + i, by rw [hl1]; omega, ?_⟩
      have h1 : 64 + a ≤ 64 + (a + i) := by omega
      have h2 : 64 + (a + i) < 64 + a + 32 := by omega
      have h3 : 64 + (a + i) < 64 + 8 * b.length := by omega
      have h4 : 64 + (a + i) - (64 + a) = i := by omega
      simp only [h1, h2, h3, h4, decide_true, Bool.true_and, hz]
end Go.Proofs.Ytknllmcpogoeoaa
