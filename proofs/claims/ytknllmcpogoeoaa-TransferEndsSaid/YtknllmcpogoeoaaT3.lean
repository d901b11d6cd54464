/- Layer 29 in plain Lean, third part: acknowledgements, and rounds of packets and acknowledgements. No program is in sight. -/
import Derived.Test.YtknllmcpogoeoaaT2
namespace Go.Proofs.Ytknllmcpogoeoaa
open Go.RowKit
set_option linter.unusedVariables false
set_option linter.unusedSimpArgs false
/-- the bytes of marks, the first i of them -/
def markB (l : List Bool) : Nat → List UInt8
  | 0 => List.replicate 128 0
  | i + 1 => if gb l i then (markB l i).set (i / 8) (((markB l i)[i / 8]?.getD 0) ||| UInt8.ofNat (2 ^ (i % 8))) else markB l i
def usedB (l : List Bool) : Nat → Nat
  | 0 => 0
  | i + 1 => if gb l i then i / 8 + 1 else usedB l i
theorem markB_len (l : List Bool) : ∀ i, (markB l i).length = 128
  | 0 => by simp [markB]
  | i + 1 => by
    unfold markB
    split
    · rw [List.length_set, markB_len l i]
    · exact markB_len l i
theorem bitAt_or (l : List UInt8) (i j : Nat) (hi : i < 8 * l.length) : bitAt (l.set (i / 8) ((l[i / 8]?.getD 0) ||| UInt8.ofNat (2 ^ (i % 8)))) j = (bitAt l j || decide (j = i)) := by
  unfold bitAt
  by_cases h : j / 8 = i / 8
  · rw [h, List.getElem?_set_self (by omega), List.getElem?_eq_getElem (by omega)]
    simp only [Option.getD_some, UInt8.toBitVec_or, BitVec.getLsbD_or]
    rw [pow_bit (i % 8) (by omega) (j % 8) (by omega)]
    congr 1
    rw [decide_eq_decide]
    omega
  · rw [List.getElem?_set_ne (by omega)]
    have : ¬ j = i := fun e => h (by rw [e])
    simp [this]
theorem markB_bit (l : List Bool) : ∀ i, i ≤ 1024 → ∀ j, bitAt (markB l i) j = (decide (j < i) && gb l j)
  | 0, _, j => by
    unfold markB bitAt
    rw [List.getElem?_replicate]
    split <;> simp
  | i + 1, h, j => by
    unfold markB
    by_cases hg : gb l i = true
    · rw [if_pos hg, bitAt_or _ _ _ (by rw [markB_len]; omega), markB_bit l i (by omega) j]
      by_cases hj : j = i
      · subst hj
        have h1 : j < j + 1 := by omega
        simp [hg]
      · have h1 : decide (j < i + 1) = decide (j < i) := by rw [decide_eq_decide]; omega
        rw [h1]
        simp [hj]
    · rw [if_neg hg, markB_bit l i (by omega) j]
      by_cases hj : j = i
      · subst hj
        have : gb l j = false := by simpa using hg
        simp [this]
      · have h1 : decide (j < i + 1) = decide (j < i) := by rw [decide_eq_decide]; omega
        rw [h1]
theorem usedB_spec (l : List Bool) : ∀ i, usedB l i ≤ (i + 7) / 8 ∧ (∀ j, j < i → gb l j = true → j / 8 < usedB l i) ∧ (0 < usedB l i → ∃ j, j < i ∧ gb l j = true ∧ j / 8 + 1 = usedB l i)
  | 0 => ⟨by simp [usedB], fun j h => by omega, fun h => by simp [usedB] at h⟩
  | i + 1 => by
    obtain ⟨h1, h2, h3⟩ := usedB_spec l i
    unfold usedB
    by_cases hg : gb l i = true
    · rw [if_pos hg]
      refine ⟨by omega, fun j hj hgj => by omega, fun _ => ⟨i, by omega, hg, rfl⟩⟩
    · rw [if_neg hg]
      refine ⟨by omega, fun j hj hgj => ?_, fun h => ?_⟩
      · by_cases hji : j = i
        · rw [hji] at hgj; exact absurd hgj hg
        · exact h2 j (by omega) hgj
      · obtain ⟨j, h4, h5, h6⟩ := h3 h
        exact ⟨j, by omega, h5, h6⟩
def ackB (l : List Bool) : List UInt8 := (markB l 1024).take (usedB l 1024)
theorem ackB_len (l : List Bool) : (ackB l).length = usedB l 1024 ∧ usedB l 1024 ≤ 128 := by
  have := (usedB_spec l 1024).1
  unfold ackB
  rw [List.length_take, markB_len]
  omega
theorem ackB_bit (l : List Bool) (hl : l.length = 1024) (j : Nat) : bitAt (ackB l) j = gb l j := by
  obtain ⟨h1, h2⟩ := ackB_len l
  obtain ⟨_, h3, _⟩ := usedB_spec l 1024
  by_cases hj : j < 8 * usedB l 1024
  · unfold ackB
    rw [bitAt_take _ _ _ hj, markB_bit l 1024 (by omega) j]
    have : j < 1024 := by omega
    simp [this]
  · have hb : bitAt (ackB l) j = false := by
      unfold bitAt
      rw [List.getElem?_eq_none (by omega)]
      simp
    rw [hb]
    cases hg : gb l j with
    | false => rfl
    | true =>
      by_cases hj2 : j < 1024
      · have := h3 j hj2 hg; omega
      · unfold gb at hg
        rw [List.getElem?_eq_none (by omega)] at hg
        cases hg
theorem ackB_last (l : List Bool) (hl : l.length = 1024) (h : ackB l ≠ []) : nn (ackB l) ((ackB l).length - 1) ≠ 0 := by
  obtain ⟨h1, h2⟩ := ackB_len l
  have hp : 0 < usedB l 1024 := by rw [← h1]; exact List.length_pos_iff.2 h
  obtain ⟨j, hj, hg, hu⟩ := (usedB_spec l 1024).2.2 hp
  intro e
  have hb := ackB_bit l hl j
  rw [hg] at hb
  unfold bitAt at hb
  unfold nn at e
  rw [show (ackB l).length - 1 = j / 8 by omega] at e
  have : (ackB l)[j / 8]?.getD 0 = 0 := u8_eq _ _ (by rw [e]; rfl)
  rw [this] at hb
  simp at hb
def ackP (id : Nat) (l : List Bool) : List UInt8 := tseal (UInt8.ofNat 2 :: (putU id ++ putB (ackB l)))
theorem ackP_len (id : Nat) (l : List Bool) (hid : id < 4294967296) : (UInt8.ofNat 2 :: (putU id ++ putB (ackB l))).length ≤ 140 := by
  have h1 := putU_le 5 id (by have : (128 : Nat) ^ 5 = 34359738368 := by decide
                              omega) (by omega) (by omega)
  obtain ⟨h2, h3⟩ := ackB_len l
  have h4 := putU_le 2 (ackB l).length (by have : (128 : Nat) ^ 2 = 16384 := by decide
                                           omega) (by omega) (by omega)
  unfold putB
  simp only [List.length_cons, List.length_append]
  omega
/-! The sender. -/
structure Snd where
  id : Nat
  file : List UInt8
  acked : List Bool
def akC (o : Opn) : RSB := rsBytes o.left 0 128
/-- the marks of some bytes -/
def marked (b : List UInt8) : List Nat := unm (fun k => !bitAt b k) (8 * b.length)
def lastN (l : List Nat) : Nat := l[l.length - 1]?.getD 0
def setAll (a : List Bool) (l : List Nat) : List Bool := l.foldl (fun a i => a.set i true) a
def Snd.ack (s : Snd) (p : List UInt8) : Nat × Snd :=
  if (opn p 2).err ≠ 0 then ((opn p 2).err, s) else
  if rsEnd (akC (opn p 2)).left (akC (opn p 2)).err ≠ 0 then (6, s) else
  if (akC (opn p 2)).body ≠ [] ∧ nn (akC (opn p 2)).body ((akC (opn p 2)).body.length - 1) = 0 then (6, s) else
  if (opn p 2).id ≠ s.id then (13, s) else
  if marked (akC (opn p 2)).body ≠ [] ∧ chunksT s.file.length ≤ lastN (marked (akC (opn p 2)).body) then (2, s) else
  (0, ⟨s.id, s.file, setAll s.acked (marked (akC (opn p 2)).body)⟩)
theorem Snd.ack_errs (s : Snd) (p : List UInt8) : ((s.ack p).1 = 0 ∨ (s.ack p).1 = 6 ∨ (s.ack p).1 = 7 ∨ (s.ack p).1 = 13 ∨ (s.ack p).1 = 2) ∧ ((s.ack p).1 ≠ 0 → (s.ack p).2 = s) := by
  have := opn_errs p 2
  unfold Snd.ack
  split
  · exact ⟨by simp only; omega, fun _ => rfl⟩
  · split
    · exact ⟨by simp, fun _ => rfl⟩
    · split
      · exact ⟨by simp, fun _ => rfl⟩
      · split
        · exact ⟨by simp, fun _ => rfl⟩
        · split
          · exact ⟨by simp, fun _ => rfl⟩
          · exact ⟨by simp, fun h => by simp at h⟩
theorem setAll_len : ∀ (l : List Nat) (a : List Bool), (setAll a l).length = a.length
  | [], a => rfl
  | i :: l, a => by
    show (setAll (a.set i true) l).length = a.length
    rw [setAll_len l, List.length_set]
theorem setAll_gb : ∀ (l : List Nat) (a : List Bool), (∀ i ∈ l, i < a.length) → ∀ k, gb (setAll a l) k = (gb a k || decide (k ∈ l))
  | [], a, h, k => by simp [setAll]
  | i :: l, a, h, k => by
    show gb (setAll (a.set i true) l) k = _
    rw [setAll_gb l _ (fun j hj => by rw [List.length_set]; exact h j (by simp [hj])) k, gb_set _ _ _ (h i (by simp)), Bool.or_assoc]
    congr 1
    by_cases h1 : k = i <;> by_cases h2 : k ∈ l <;> simp [h1, h2]
theorem setAll_snoc (a : List Bool) (l : List Nat) (i : Nat) : setAll a (l ++ [i]) = (setAll a l).set i true := by simp [setAll]
theorem marked_mem {b : List UInt8} {k : Nat} : k ∈ marked b ↔ bitAt b k = true := by
  unfold marked
  rw [mem_unm]
  constructor
  · rintro ⟨_, h⟩; simpa using h
  · intro h
    refine ⟨?_, by simp [h]⟩
    by_cases hk : k < 8 * b.length
    · exact hk
    · unfold bitAt at h
      rw [List.getElem?_eq_none (by omega)] at h
      simp at h
/-- the last one is the greatest -/
theorem unm_last (f : Nat → Bool) : ∀ n, (unm f n ≠ [] → lastN (unm f n) ∈ unm f n) ∧ ∀ k ∈ unm f n, k ≤ lastN (unm f n)
  | 0 => ⟨fun h => absurd (by simp [unm]) h, fun k h => by simp [unm] at h⟩
  | n + 1 => by
    obtain ⟨h1, h2⟩ := unm_last f n
    rw [unm_succ]
    split
    · exact ⟨h1, h2⟩
    · have : lastN (unm f n ++ [n]) = n := by unfold lastN; simp
      rw [this]
      refine ⟨fun _ => by simp, fun k hk => ?_⟩
      rw [List.mem_append] at hk
      rcases hk with hk | hk
      · have := (mem_unm.1 hk).1; omega
      · have : k = n := by simpa using hk
        omega
theorem Snd.ack_put (s : Snd) (id : Nat) (l : List Bool) (hid : id < 4294967296) (hl : l.length = 1024) (ha : s.acked.length = 1024) :
    (id ≠ s.id → s.ack (ackP id l) = (13, s)) ∧
    (id = s.id → (∃ k, chunksT s.file.length ≤ k ∧ gb l k = true) → s.ack (ackP id l) = (2, s)) ∧
    (id = s.id → (∀ k, chunksT s.file.length ≤ k → gb l k = false) → (s.ack (ackP id l)).1 = 0 ∧ (s.ack (ackP id l)).2.id = s.id ∧ (s.ack (ackP id l)).2.file = s.file ∧ (s.ack (ackP id l)).2.acked.length = 1024 ∧ ∀ k, gb (s.ack (ackP id l)).2.acked k = (gb s.acked k || gb l k)) := by
  have hpl := ackP_len id l hid
  obtain ⟨hal, hau⟩ := ackB_len l
  have ho : opn (ackP id l) 2 = ⟨0, id, putB (ackB l)⟩ := opn_put 2 id _ (by omega) hid (by omega)
  have hc : akC (opn (ackP id l) 2) = ⟨ackB l, [], 0⟩ := by
    unfold akC
    rw [ho]
    have := rdB_put (ackB l) [] 128 (by omega) (by omega)
    rw [List.append_nil] at this
    unfold rsBytes
    rw [if_neg (by simp)]
    simp only
    rw [this, if_pos rfl]
    simp
  have hm : ∀ k, k ∈ marked (ackB l) ↔ gb l k = true := fun k => by rw [marked_mem, ackB_bit l hl]
  obtain ⟨hz1, hz2⟩ := unm_last (fun k => !bitAt (ackB l) k) (8 * (ackB l).length)
  have e : s.ack (ackP id l) = if id ≠ s.id then (13, s) else if marked (ackB l) ≠ [] ∧ chunksT s.file.length ≤ lastN (marked (ackB l)) then (2, s) else (0, ⟨s.id, s.file, setAll s.acked (marked (ackB l))⟩) := by
    unfold Snd.ack
    rw [hc, ho]
    simp only
    rw [if_neg (by simp), if_neg (by simp [rsEnd]), if_neg (fun h => ackB_last l hl h.1 h.2)]
  rw [e]
  refine ⟨fun h => by rw [if_pos h], fun h h2 => ?_, fun h h2 => ?_⟩
  · obtain ⟨k, h3, h4⟩ := h2
    have h5 := (hm k).2 h4
    rw [if_neg (by simp [h]), if_pos ⟨List.ne_nil_of_mem h5, Nat.le_trans h3 (hz2 k h5)⟩]
  · rw [if_neg (by simp [h]), if_neg]
    · refine ⟨rfl, rfl, rfl, by simp only; rw [setAll_len, ha], fun k => ?_⟩
      simp only
      rw [setAll_gb]
      · congr 1
        rw [Bool.eq_iff_iff, decide_eq_true_eq, hm]
      · intro i hi
        rw [ha]
        have := (hm i).1 hi
        by_cases hlt : i < 1024
        · exact hlt
        · unfold gb at this
          rw [List.getElem?_eq_none (by omega)] at this
          cases this
    · rintro ⟨h3, h4⟩
      have := (hm _).1 (hz1 h3)
      have h5 := h2 _ h4
      unfold marked at h5
      rw [h5] at this
      cases this
theorem Snd.ack_burst (s : Snd) (b q : List UInt8) (a z : Nat) (hq : q = flips (tseal b) a (8 * (tseal b).length) z 32) (hc : changed a (8 * (tseal b).length) z 32 = true) (hl : b.length ≤ 196) : s.ack q = (7, s) := by
  have := opn_burst b q a z 2 hq hc hl
  unfold Snd.ack
  rw [this]
  simp
theorem Rcv.in_burst (r : Rcv) (b q : List UInt8) (a z : Nat) (hq : q = flips (tseal b) a (8 * (tseal b).length) z 32) (hc : changed a (8 * (tseal b).length) z 32 = true) (hl : b.length ≤ 196) : r.in_ q = (7, r) := by
  have := rdPk_burst b q a z hq hc hl
  rw [Rcv.of_bad q (by omega), this]
/-! Rounds. -/
theorem unm_or (f h : Nat → Bool) (n : Nat) : unm (fun k => f k || h k) n = (unm f n).filter fun k => !h k := by
  unfold unm
  rw [List.filter_filter]
  apply List.filter_congr
  intro k _
  dsimp only
  cases f k <;> cases h k <;> rfl
/-- what is out is acknowledged -/
theorem left_round (f h : Nat → Bool) (n : Nat) (hh : ∀ k ∈ (unm f n).take 8, h k = true) : (unm (fun k => f k || h k) n).length ≤ (unm f n).length - min 8 (unm f n).length := by
  rw [unm_or]
  have e : (unm f n).filter (fun k => !h k) = ((unm f n).drop 8).filter (fun k => !h k) := by
    conv => lhs; rw [← List.take_append_drop 8 (unm f n), List.filter_append]
    have : ((unm f n).take 8).filter (fun k => !h k) = [] := by
      rw [List.filter_eq_nil_iff]
      intro k hk
      simp [hh k hk]
    rw [this, List.nil_append]
  rw [e]
  have := List.length_filter_le (fun k => !h k) ((unm f n).drop 8)
  rw [List.length_drop] at this
  omega
end Go.Proofs.Ytknllmcpogoeoaa
