/- Layer 29 in plain Lean, second part: what a receiver and a sender do with packets and acknowledgements. No program is in sight. -/
import Derived.Test.YtknllmcpogoeoaaT1
namespace Go.Proofs.Ytknllmcpogoeoaa
open Go.RowKit
set_option linter.unusedVariables false
set_option linter.unusedSimpArgs false
/-- mark k -/
def gb (l : List Bool) (k : Nat) : Bool := l[k]?.getD false
theorem gb_set (l : List Bool) (i k : Nat) (hi : i < l.length) : gb (l.set i true) k = (gb l k || decide (k = i)) := by
  unfold gb
  by_cases h : i = k
  · subst h; simp [hi]
  · rw [List.getElem?_set_ne h]
    have : ¬ k = i := fun e => h e.symm
    simp [this]
theorem gb_rep (n k : Nat) : gb (List.replicate n false) k = false := by
  unfold gb
  rw [List.getElem?_replicate]
  split <;> rfl
theorem gb_get (l : List Bool) (k : Nat) (h : k < l.length) : l[k]? = some (gb l k) := by
  unfold gb
  rw [List.getElem?_eq_getElem h]; rfl
/-! The receiver. -/
structure Rcv where
  id : Nat
  known : Bool
  data : List UInt8
  has : List Bool
/-- what the bytes of a packet say -/
structure Pk where
  err : Nat
  id : Nat
  len : Nat
  at_ : Nat
  body : List UInt8
def rdPk2 (o : Opn) (a b : RS) (c : RSB) : Pk :=
  if rsEnd c.left c.err ≠ 0 then ⟨6, 0, 0, 0, []⟩ else
  if chunksT a.val.toNat ≤ b.val.toNat then ⟨6, 0, 0, 0, []⟩ else
  if c.body.length ≠ min ((b.val.toNat + 1) * 64) a.val.toNat - b.val.toNat * 64 then ⟨6, 0, 0, 0, []⟩ else
  ⟨0, o.id, a.val.toNat, b.val.toNat, c.body⟩
def pkA (o : Opn) : RS := rsUint o.left 0 65535
def pkB (o : Opn) : RS := rsUint (pkA o).left (pkA o).err 1023
def pkC (o : Opn) : RSB := rsBytes (pkB o).left (pkB o).err 64
def rdPk (p : List UInt8) : Pk := if (opn p 1).err ≠ 0 then ⟨(opn p 1).err, 0, 0, 0, []⟩ else rdPk2 (opn p 1) (pkA (opn p 1)) (pkB (opn p 1)) (pkC (opn p 1))
/-- bytes of d from a place on are written anew -/
def over (d : List UInt8) (at' : Nat) (b : List UInt8) : List UInt8 := d.take at' ++ b ++ d.drop (at' + b.length)
def Rcv.clash (r : Rcv) (k : Pk) : Prop := r.known = true ∧ (k.len ≠ r.data.length ∨ (gb r.has k.at_ = true ∧ (r.data.drop (k.at_ * 64)).take (min ((k.at_ + 1) * 64) k.len - k.at_ * 64) ≠ k.body))
instance (r : Rcv) (k : Pk) : Decidable (r.clash k) := by unfold Rcv.clash; infer_instance
def Rcv.took (r : Rcv) (k : Pk) : Rcv := ⟨r.id, true, over (if r.known then r.data else List.replicate k.len 0) (k.at_ * 64) k.body, r.has.set k.at_ true⟩
def Rcv.in_ (r : Rcv) (p : List UInt8) : Nat × Rcv :=
  if (rdPk p).err ≠ 0 then ((rdPk p).err, r) else
  if (rdPk p).id ≠ r.id then (13, r) else
  if r.clash (rdPk p) then (14, r) else (0, r.took (rdPk p))
/-- what is read of a packet of one's own -/
theorem rdPk_pkt (id : Nat) (file : List UInt8) (i : Nat) (hid : id < 4294967296) (hf : file.length ≤ 65535) (hi : i < chunksT file.length) : rdPk (pkt id file i) = ⟨0, id, file.length, i, chk file i⟩ := by
  have hi2 : i < 1024 := by unfold chunksT at hi; omega
  have hpl := pktB_len id file i hid hf hi2
  have ho : opn (pkt id file i) 1 = ⟨0, id, putU file.length ++ (putU i ++ putB (chk file i))⟩ := opn_put 1 id _ (by omega) hid (by unfold pktB at hpl; omega)
  have hcl := chk_len file i
  have ha : pkA (opn (pkt id file i) 1) = ⟨(file.length : Int), putU i ++ putB (chk file i), 0⟩ := by unfold pkA; rw [ho]; exact rsU_put' _ _ _ (by omega) (by omega)
  have hb : pkB (opn (pkt id file i) 1) = ⟨(i : Int), putB (chk file i), 0⟩ := by unfold pkB; rw [ha]; exact rsU_put' _ _ _ (by omega) (by omega)
  have hc : pkC (opn (pkt id file i) 1) = ⟨chk file i, [], 0⟩ := by
    unfold pkC
    rw [hb]
    have := rdB_put (chk file i) [] 64 (by omega) (by omega)
    rw [List.append_nil] at this
    unfold rsBytes
    rw [if_neg (by simp)]
    simp only
    rw [this, if_pos rfl]
    simp
  unfold rdPk
  rw [ha, hb, hc, ho, if_neg (by simp)]
  unfold rdPk2
  simp only [Int.toNat_natCast]
  rw [if_neg (by simp [rsEnd]), if_neg (by omega), if_neg]
  rw [hcl]
  unfold chunksT at hi
  omega
theorem over_len (d : List UInt8) (at' : Nat) (b : List UInt8) (h : at' + b.length ≤ d.length) : (over d at' b).length = d.length := by
  unfold over
  simp only [List.length_append, List.length_take, List.length_drop]
  omega
/-! The chunks of two files of one length. -/
theorem chk_get (f : List UInt8) (i k : Nat) : (chk f i)[k]? = if k < 64 then f[64 * i + k]? else none := by
  unfold chk
  rw [List.getElem?_take]
  split
  · rw [List.getElem?_drop]
  · rfl
theorem chk_cut (f : List UInt8) (i : Nat) : (f.drop (i * 64)).take (min ((i + 1) * 64) f.length - i * 64) = chk f i := by
  unfold chk
  rw [Nat.mul_comm 64 i]
  apply List.ext_getElem?
  intro k
  rw [List.getElem?_take, List.getElem?_take]
  by_cases h : k < min ((i + 1) * 64) f.length - i * 64
  · rw [if_pos h, if_pos (by omega)]
  · rw [if_neg h]
    split
    · rw [List.getElem?_drop, List.getElem?_eq_none (by omega)]
    · rfl
theorem over_get (d : List UInt8) (at' : Nat) (b : List UInt8) (h : at' + b.length ≤ d.length) (k : Nat) : (over d at' b)[k]? = if at' ≤ k ∧ k < at' + b.length then b[k - at']? else d[k]? := by
  unfold over
  by_cases h1 : k < at'
  · rw [List.append_assoc, List.getElem?_append_left (by rw [List.length_take]; omega), List.getElem?_take, if_pos h1, if_neg (by omega)]
  · by_cases h2 : k < at' + b.length
    · rw [List.append_assoc, List.getElem?_append_right (by rw [List.length_take]; omega), List.length_take, Nat.min_eq_left (by omega), List.getElem?_append_left (by omega), if_pos ⟨by omega, h2⟩]
    · rw [List.getElem?_append_right (by simp only [List.length_append, List.length_take]; omega), List.getElem?_drop, if_neg (by omega)]
      simp only [List.length_append, List.length_take]
      congr 1
      omega
/-- the chunk that is written is the file's, the others stay -/
theorem chk_over (d file : List UInt8) (i j : Nat) (hd : d.length = file.length) (hi : 64 * i ≤ file.length) : chk (over d (i * 64) (chk file i)) j = if j = i then chk file i else chk d j := by
  have hcl := chk_len file i
  apply List.ext_getElem?
  intro k
  rw [chk_get]
  by_cases hk : k < 64
  · rw [if_pos hk, over_get _ _ _ (by omega)]
    by_cases hj : j = i
    · subst hj
      rw [if_pos rfl]
      by_cases h : 64 * j + k < file.length
      · rw [if_pos (by omega)]
        congr 1; omega
      · rw [if_neg (by omega), List.getElem?_eq_none (by omega), List.getElem?_eq_none (by omega)]
    · rw [if_neg hj, if_neg (by omega), chk_get, if_pos hk]
  · rw [if_neg hk]
    split
    · rw [List.getElem?_eq_none (by omega)]
    · rw [chk_get, if_neg hk]
/-- what a receiver of a file's packets knows -/
structure Rcv.of (r : Rcv) (id : Nat) (file : List UInt8) : Prop where
  id_ : r.id = id
  size : r.has.length = 1024
  beyond : ∀ k, chunksT file.length ≤ k → gb r.has k = false
  empty : r.known = false → r.data = [] ∧ ∀ k, gb r.has k = false
  len : r.known = true → r.data.length = file.length
  chunk : r.known = true → ∀ k, gb r.has k = true → chk r.data k = chk file k
theorem Rcv.of_new (id : Nat) (file : List UInt8) : (⟨id, false, [], List.replicate 1024 false⟩ : Rcv).of id file :=
  ⟨rfl, List.length_replicate .., fun k _ => gb_rep _ _, fun _ => ⟨rfl, fun k => gb_rep _ _⟩, fun h => by simp at h, fun h => by simp at h⟩
/-- a packet of the file comes -/
theorem Rcv.of.in_ {r : Rcv} {id : Nat} {file : List UInt8} (h : r.of id file) (i : Nat) (hid : id < 4294967296) (hf : file.length ≤ 65535) (hi : i < chunksT file.length) :
    (r.in_ (pkt id file i)).1 = 0 ∧ (r.in_ (pkt id file i)).2 = r.took ⟨0, id, file.length, i, chk file i⟩ ∧ (r.took ⟨0, id, file.length, i, chk file i⟩).of id file ∧
      ∀ k, gb (r.took ⟨0, id, file.length, i, chk file i⟩).has k = (gb r.has k || decide (k = i)) := by
  have hi2 : i < 1024 := by unfold chunksT at hi; omega
  have hi3 : 64 * i ≤ file.length := by unfold chunksT at hi; omega
  have hcl := chk_len file i
  have hno : ¬ r.clash ⟨0, id, file.length, i, chk file i⟩ := by
    rintro ⟨hk, h1⟩
    rcases h1 with h1 | ⟨h1, h2⟩
    · exact h1 (h.len hk).symm
    · simp only at h1 h2
      rw [← h.len hk, chk_cut] at h2
      exact h2 (h.chunk hk i h1)
  have hg : ∀ k, gb (r.took ⟨0, id, file.length, i, chk file i⟩).has k = (gb r.has k || decide (k = i)) := fun k => gb_set _ _ _ (by rw [h.size]; exact hi2)
  have hdl : (if r.known then r.data else List.replicate file.length 0).length = file.length := by
    cases hk : r.known with
    | true => simp only [if_true]; exact h.len hk
    | false => simp
  have e : r.in_ (pkt id file i) = (0, r.took ⟨0, id, file.length, i, chk file i⟩) := by
    unfold Rcv.in_
    rw [rdPk_pkt id file i hid hf hi]
    simp only
    rw [if_neg (by simp), if_neg (by rw [h.id_]; simp), if_neg hno]
  refine ⟨by rw [e], by rw [e], ⟨h.id_, ?_, ?_, ?_, ?_, ?_⟩, hg⟩
  · simp [Rcv.took, h.size]
  · intro k hk
    rw [hg, h.beyond k hk]
    have : ¬ k = i := by omega
    simp [this]
  · intro h0; simp [Rcv.took] at h0
  · intro _
    simp only [Rcv.took]
    rw [over_len _ _ _ (by rw [hdl]; omega), hdl]
  · intro _ k hk
    rw [hg] at hk
    simp only [Rcv.took]
    rw [chk_over _ _ _ _ hdl hi3]
    by_cases hki : k = i
    · rw [if_pos hki, hki]
    · rw [if_neg hki]
      simp only [hki, decide_false, Bool.or_false] at hk
      cases hkn : r.known with
      | true => simp only [if_true]; exact h.chunk hkn k hk
      | false => have := (h.empty hkn).2 k; rw [this] at hk; cases hk
theorem Rcv.of_bad {r : Rcv} (p : List UInt8) (h : (rdPk p).err ≠ 0) : r.in_ p = ((rdPk p).err, r) := by unfold Rcv.in_; rw [if_pos h]
theorem rdPk_errs (p : List UInt8) : (rdPk p).err = 0 ∨ (rdPk p).err = 6 ∨ (rdPk p).err = 7 := by
  unfold rdPk
  split
  · exact opn_errs p 1
  · unfold rdPk2
    split
    · simp
    · split
      · simp
      · split <;> simp
theorem Rcv.in_errs (r : Rcv) (p : List UInt8) : ((r.in_ p).1 = 0 ∨ (r.in_ p).1 = 6 ∨ (r.in_ p).1 = 7 ∨ (r.in_ p).1 = 13 ∨ (r.in_ p).1 = 14) ∧ ((r.in_ p).1 ≠ 0 → (r.in_ p).2 = r) := by
  have := rdPk_errs p
  unfold Rcv.in_
  split
  · exact ⟨by simp only; omega, fun _ => rfl⟩
  · split
    · exact ⟨by simp, fun _ => rfl⟩
    · split
      · exact ⟨by simp, fun _ => rfl⟩
      · exact ⟨by simp, fun h => by simp at h⟩
theorem rdPk_burst (b q : List UInt8) (a z : Nat) (hq : q = flips (tseal b) a (8 * (tseal b).length) z 32) (hc : changed a (8 * (tseal b).length) z 32 = true) (hl : b.length ≤ 196) : (rdPk q).err = 7 := by
  have := opn_burst b q a z 1 hq hc hl
  unfold rdPk
  rw [this]
  simp
/-! Counting and beginnings. -/
def unm (f : Nat → Bool) (n : Nat) : List Nat := (List.range n).filter fun k => !f k
theorem unm_succ (f : Nat → Bool) (n : Nat) : unm f (n + 1) = if f n then unm f n else unm f n ++ [n] := by
  unfold unm
  rw [List.range_succ, List.filter_append]
  cases h : f n <;> simp [h]
theorem unm_congr {f g : Nat → Bool} {n : Nat} (h : ∀ k, k < n → f k = g k) : unm f n = unm g n := by
  unfold unm
  apply List.filter_congr
  intro k hk
  rw [h k (List.mem_range.1 hk)]
theorem unm_len (f : Nat → Bool) (n : Nat) : (unm f n).length ≤ n := by
  have := List.length_filter_le (fun k => !f k) (List.range n)
  rwa [List.length_range] at this
theorem unm_pre (f : Nat → Bool) : ∀ (n i : Nat), i ≤ n → ∃ r, unm f n = unm f i ++ r
  | 0, i, h => ⟨[], by rw [show i = 0 by omega]; simp⟩
  | n + 1, i, h => by
    by_cases hi : i = n + 1
    · exact ⟨[], by rw [hi]; simp⟩
    · obtain ⟨r, hr⟩ := unm_pre f n i (by omega)
      rw [unm_succ]
      split
      · exact ⟨r, hr⟩
      · exact ⟨r ++ [n], by rw [hr, List.append_assoc]⟩
theorem unm_take (f : Nat → Bool) (n i m : Nat) (h : i ≤ n) (hl : i = n ∨ (unm f i).length = m) (hm : (unm f i).length ≤ m) : unm f i = (unm f n).take m := by
  obtain ⟨r, hr⟩ := unm_pre f n i h
  rcases hl with rfl | hl
  · exact (List.take_of_length_le hm).symm
  · rw [hr, ← hl, List.take_left]
theorem mem_unm {f : Nat → Bool} {n k : Nat} : k ∈ unm f n ↔ k < n ∧ f k = false := by
  unfold unm
  rw [List.mem_filter, List.mem_range]
  simp
def front (f : Nat → Bool) : Nat → Nat
  | 0 => 0
  | n + 1 => if front f n = n ∧ f n = true then n + 1 else front f n
theorem front_spec (f : Nat → Bool) : ∀ n, front f n ≤ n ∧ (∀ k, k < front f n → f k = true) ∧ (front f n < n → f (front f n) = false)
  | 0 => ⟨Nat.le_refl _, fun k h => by simp [front] at h, fun h => by simp [front] at h⟩
  | n + 1 => by
    obtain ⟨h1, h2, h3⟩ := front_spec f n
    unfold front
    split
    · rename_i h
      refine ⟨by omega, fun k hk => ?_, fun hk => by omega⟩
      by_cases hkn : k = n
      · rw [hkn]; exact h.2
      · exact h2 k (by omega)
    · rename_i h
      refine ⟨by omega, h2, fun hk => ?_⟩
      by_cases hn : front f n = n
      · rw [hn]
        cases hf : f n with
        | false => rfl
        | true => exact absurd ⟨hn, hf⟩ h
      · exact h3 (by omega)
theorem front_eq {f : Nat → Bool} {n j : Nat} (hj : j ≤ n) (h : ∀ k, k < j → f k = true) (he : j = n ∨ f j = false) : front f n = j := by
  obtain ⟨h1, h2, h3⟩ := front_spec f n
  rcases Nat.lt_trichotomy (front f n) j with hlt | heq | hgt
  · have := h3 (by omega)
    rw [h _ hlt] at this
    cases this
  · exact heq
  · have := h2 j hgt
    rcases he with he | he
    · omega
    · rw [he] at this; cases this
theorem front_congr {f g : Nat → Bool} {n : Nat} (h : ∀ k, k < n → f k = g k) : front f n = front g n := by
  obtain ⟨h1, h2, h3⟩ := front_spec g n
  refine front_eq h1 (fun k hk => by rw [h k (by omega)]; exact h2 k hk) ?_
  by_cases hn : front g n = n
  · exact .inl hn
  · right; rw [h _ (by omega)]; exact h3 (by omega)
theorem front_all {f : Nat → Bool} {n : Nat} : front f n = n ↔ ∀ k, k < n → f k = true := by
  constructor
  · intro h k hk
    exact (front_spec f n).2.1 k (by omega)
  · intro h
    exact front_eq (Nat.le_refl _) h (.inl rfl)
/-- what has come without a gap is the file's beginning -/
theorem take_chunks (d file : List UInt8) (j : Nat) (hl : d.length = file.length) (h : ∀ k, k < j → chk d k = chk file k) (n : Nat) (hn : n ≤ j * 64) : d.take n = file.take n := by
  apply List.ext_getElem?
  intro i
  rw [List.getElem?_take, List.getElem?_take]
  by_cases hi : i < n
  · rw [if_pos hi, if_pos hi]
    have := congrArg (fun l => l[i % 64]?) (h (i / 64) (by omega))
    simp only [chk_get] at this
    rw [if_pos (by omega), if_pos (by omega), show 64 * (i / 64) + i % 64 = i by omega] at this
    exact this
  · rw [if_neg hi, if_neg hi]
def Rcv.front_ (r : Rcv) : Nat := if r.known then front (gb r.has) (chunksT r.data.length) else 0
def Rcv.prefix_ (r : Rcv) : List UInt8 := r.data.take (min (r.front_ * 64) r.data.length)
theorem Rcv.of.front_ {r : Rcv} {id : Nat} {file : List UInt8} (h : r.of id file) : r.front_ = front (gb r.has) (chunksT file.length) := by
  unfold Rcv.front_
  cases hk : r.known with
  | true => simp only [if_true]; rw [h.len hk]
  | false =>
    simp only [Bool.false_eq_true, if_false]
    exact (front_eq (by omega) (fun k hk => by omega) (.inr ((h.empty hk).2 0))).symm
theorem Rcv.of.prefix_ {r : Rcv} {id : Nat} {file : List UInt8} (h : r.of id file) : r.prefix_ = file.take (min (front (gb r.has) (chunksT file.length) * 64) file.length) := by
  unfold Rcv.prefix_
  cases hk : r.known with
  | true =>
    rw [h.front_, h.len hk]
    refine take_chunks _ _ (front (gb r.has) (chunksT file.length)) (h.len hk) (fun k hk2 => ?_) _ (by omega)
    exact h.chunk hk k ((front_spec _ _).2.1 k hk2)
  | false =>
    rw [(h.empty hk).1]
    have h0 : front (gb r.has) (chunksT file.length) = 0 := front_eq (by omega) (fun k hk => by omega) (.inr ((h.empty hk).2 0))
    rw [h0]; simp
/-- whether the file is there -/
def Rcv.done (r : Rcv) : Bool := r.known && decide (chunksT r.data.length ≤ r.front_)
theorem chunksT_pos (n : Nat) : 1 ≤ chunksT n := by unfold chunksT; omega
theorem Rcv.of.done_ {r : Rcv} {id : Nat} {file : List UInt8} (h : r.of id file) : r.done = decide (front (gb r.has) (chunksT file.length) = chunksT file.length) := by
  have hf := (front_spec (gb r.has) (chunksT file.length)).1
  have hp := chunksT_pos file.length
  unfold Rcv.done
  cases hk : r.known with
  | true =>
    rw [h.front_, h.len hk, Bool.true_and, decide_eq_decide]
    omega
  | false =>
    have h0 : front (gb r.has) (chunksT file.length) = 0 := front_eq (by omega) (fun k hk => by omega) (.inr ((h.empty hk).2 0))
    rw [h0, Bool.false_and]
    symm
    simp
    omega
theorem Rcv.of.file_ {r : Rcv} {id : Nat} {file : List UInt8} (h : r.of id file) (hd : r.done = true) : r.data = file := by
  rw [h.done_, decide_eq_true_eq] at hd
  have hk : r.known = true := by
    cases hk : r.known with
    | true => rfl
    | false =>
      have := (front_spec (gb r.has) (chunksT file.length)).2.1 0 (by have := chunksT_pos file.length; omega)
      rw [(h.empty hk).2 0] at this; cases this
  have := take_chunks r.data file (chunksT file.length) (h.len hk) (fun k hk2 => h.chunk hk k ((front_spec (gb r.has) (chunksT file.length)).2.1 k (by omega))) file.length (by unfold chunksT; omega)
  rw [List.take_of_length_le (by rw [h.len hk]; omega), List.take_of_length_le (by omega)] at this
  exact this
end Go.Proofs.Ytknllmcpogoeoaa
