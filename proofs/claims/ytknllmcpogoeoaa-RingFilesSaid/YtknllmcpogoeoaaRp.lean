/- Records and rings, plainly: what is good, the bytes, what a ring keeps. -/
import Derived.Test.YtknllmcpogoeoaaRo
import Derived.Test.YtknllmcpogoeoaaN2
namespace Go.Proofs.Ytknllmcpogoeoaa
open Go.RowKit
set_option linter.unusedVariables false
set_option linter.unusedSimpArgs false
set_option maxRecDepth 100000
def evt0 : Evt := ⟨0, 0, 0, 0, 0, 0, 0, 0, []⟩
def zeros16 : List Nat := List.replicate 16 0
/-- neither a clock nor an event -/
def Rcd.bare (r : Rcd) : Bool := decide (r.words = zeros16) && r.ev.eqB evt0
/-- what is asked of a record by its kind -/
def Rcd.good0 (r : Rcd) : Bool :=
  if r.what = 1 then r.ev.good r.era && decide (r.lost = 0)
  else if r.what = 2 then r.bare && (decide (0 < r.lost) && decide (r.lost ≤ 18446744073709551615 - r.idx))
  else if r.what = 3 then r.bare && decide (r.lost = 0) else false
def Rcd.good (r : Rcd) : Bool := r.good0 && inN r.era 8
def Rcd.eqB (a b : Rcd) : Bool := (a.era == b.era) && decide (a.idx = b.idx) && decide (a.words = b.words) && decide (a.what = b.what) && a.ev.eqB b.ev && decide (a.lost = b.lost)
theorem evt_eq {x y : Evt} (h : x.eqB y = true) : x = y := by
  unfold Evt.eqB at h
  simp only [Bool.and_eq_true, beq_iff_eq, decide_eq_true_eq] at h
  obtain ⟨⟨⟨⟨⟨⟨⟨⟨h1, h2⟩, h3⟩, h4⟩, h5⟩, h6⟩, h7⟩, h8⟩, h9⟩ := h
  cases x; cases y
  simp only at h1 h2 h3 h4 h5 h6 h7 h8 h9
  obtain rfl := h1
  obtain rfl := h2
  have h3' := Int.ofNat.inj h3
  obtain rfl := h3'
  obtain rfl := h4
  obtain rfl := h5
  obtain rfl := h6
  obtain rfl := h7
  obtain rfl := h8
  obtain rfl := h9
  rfl
theorem evt_refl (x : Evt) : x.eqB x = true := by unfold Evt.eqB; simp
theorem rcd_refl (x : Rcd) : x.eqB x = true := by unfold Rcd.eqB; simp [evt_refl]
theorem rcd_eq {x y : Rcd} (h : x.eqB y = true) : x = y := by
  unfold Rcd.eqB at h
  simp only [Bool.and_eq_true, beq_iff_eq, decide_eq_true_eq] at h
  obtain ⟨⟨⟨⟨⟨h1, h2⟩, h3⟩, h4⟩, h5⟩, h6⟩ := h
  have h5' := evt_eq h5
  cases x; cases y
  simp only at h1 h2 h3 h4 h5' h6
  subst h1 h2 h3 h4 h5' h6
  rfl
/-- a clock as bytes -/
def wordsB (ws : List Nat) (k : Nat) : List UInt8 := (ws.take k).flatMap putU
def clkB (ws : List Nat) : List UInt8 := UInt8.ofNat (clen ws 16) :: wordsB ws (clen ws 16)
def argsB (zs : List Int) : List UInt8 := zs.flatMap fun z => putU (zz z)
def Evt.bytes (e : Evt) : List UInt8 := putU e.a.toNat ++ putU e.kind ++ putU e.c.toNat ++ putU e.d.toNat ++ putU e.e.toNat ++ putU e.f.toNat ++ putU (zz e.g) ++ putU e.args.length ++ argsB e.args
def Rcd.bytes0 (r : Rcd) : List UInt8 := UInt8.ofNat r.what :: (putU r.era.toNat ++ putU r.idx ++ (if r.what = 1 then clkB r.words ++ r.ev.bytes else if r.what = 2 then putU r.lost else []))
def Rcd.bytes (r : Rcd) : List UInt8 := if r.good then r.bytes0 else []
def Rcd.size (r : Rcd) : Nat := r.bytes.length
theorem flat_le {α : Type} (f : α → List UInt8) (c : Nat) : ∀ (l : List α), (∀ x ∈ l, (f x).length ≤ c) → (l.flatMap f).length ≤ l.length * c
  | [], _ => by simp
  | x :: r, h => by
    rw [List.flatMap_cons, List.length_append, List.length_cons, Nat.add_mul, Nat.one_mul]
    have h1 := h x (List.mem_cons_self ..)
    have h2 := flat_le f c r (fun y hy => h y (List.mem_cons_of_mem _ hy))
    omega
theorem good_args {r : Rcd} (h : r.good = true) (h1 : r.what = 1) : r.ev.args.length ≤ 4 := by
  unfold Rcd.good Rcd.good0 at h
  rw [if_pos h1] at h
  unfold Evt.good at h
  simp only [Bool.and_eq_true, decide_eq_true_eq] at h
  omega
theorem putU_le (v : Nat) : (putU v).length ≤ 11 := (putF_len 10 v).2
theorem bytes0_len (r : Rcd) (hw : r.words.length = 16) (ha : r.what = 1 → r.ev.args.length ≤ 4) : 1 ≤ r.bytes0.length ∧ r.bytes0.length ≤ 400 := by
  unfold Rcd.bytes0
  have hi : ∀ v, (putU v).length ≤ 11 := putU_le
  have h1 := hi r.era.toNat
  have h2 := hi r.idx
  simp only [List.length_cons, List.length_append]
  refine ⟨by omega, ?_⟩
  by_cases k1 : r.what = 1
  · rw [if_pos k1]
    unfold clkB Evt.bytes
    simp only [List.length_cons, List.length_append]
    have b1 : (wordsB r.words (clen r.words 16)).length ≤ 16 * 11 := by
      unfold wordsB
      refine Nat.le_trans (flat_le putU 11 _ (fun x _ => hi x)) ?_
      rw [List.length_take]
      exact Nat.mul_le_mul_right _ (by omega)
    have b2 : (argsB r.ev.args).length ≤ 4 * 11 := by
      unfold argsB
      refine Nat.le_trans (flat_le _ 11 _ (fun x _ => hi _)) ?_
      exact Nat.mul_le_mul_right _ (ha k1)
    have b3 := hi r.ev.a.toNat
    have b4 := hi r.ev.kind
    have b5 := hi r.ev.c.toNat
    have b6 := hi r.ev.d.toNat
    have b7 := hi r.ev.e.toNat
    have b8 := hi r.ev.f.toNat
    have b9 := hi (zz r.ev.g)
    have b10 := hi r.ev.args.length
    omega
  · rw [if_neg k1]
    split
    · have := hi r.lost; omega
    · simp only [List.length_nil]; omega
theorem size_le (r : Rcd) (hw : r.words.length = 16) : r.size ≤ 400 := by
  unfold Rcd.size Rcd.bytes
  split
  · rename_i h
    exact (bytes0_len r hw (good_args h)).2
  · simp
theorem size_pos (r : Rcd) (hw : r.words.length = 16) (h : r.good = true) : 1 ≤ r.size := by
  unfold Rcd.size Rcd.bytes
  rw [if_pos h]
  exact (bytes0_len r hw (good_args h)).1
/-! A ring, plainly. -/
structure Rg where
  cap : Int
  used : Nat
  list : List Rcd
  begun : Bool
  era : Int
  first : Nat
  next : Nat
/-- how many are dropped from the front, and what is used behind -/
def dropR (cap : Int) : Nat → List Rcd → Nat × Nat
  | u, [] => (0, u)
  | u, x :: r => if cap < (u : Int) ∨ x.what = 2 then ((dropR cap (u - x.size) r).1 + 1, (dropR cap (u - x.size) r).2) else (0, u)
def nextOf (x : Rcd) : Nat := if x.what = 2 then (x.idx + x.lost) % 18446744073709551616 else (x.idx + 1) % 18446744073709551616
def sizes (l : List Rcd) : Nat := (l.map Rcd.size).sum
def Rg.add (r : Rg) (x : Rcd) : Rg :=
  let d := dropR r.cap (r.used + x.size) (r.list ++ [x])
  ⟨r.cap, d.2, (r.list ++ [x]).drop d.1, true, if r.begun then r.era else x.era, if r.begun then r.first else x.idx, nextOf x⟩
def Rg.code (r : Rg) (x : Rcd) : Nat := if x.good = false ∨ x.what = 3 then 1 else if r.begun = true ∧ (x.era ≠ r.era ∨ x.idx ≠ r.next) then 11 else 0
/-- the ring behind a put, how many were dropped, the error -/
def Rg.put (r : Rg) (x : Rcd) : Rg × Nat × Nat := if r.code x = 0 then (r.add x, (dropR r.cap (r.used + x.size) (r.list ++ [x])).1, 0) else (r, 0, r.code x)
def Rg.lost (r : Rg) : Nat := match r.list with
  | [] => (r.next + (18446744073709551616 - r.first)) % 18446744073709551616
  | x :: _ => (x.idx + (18446744073709551616 - r.first)) % 18446744073709551616
def markR (r : Rg) : Rcd := ⟨r.era, r.first, zeros16, 2, evt0, r.lost⟩
def Rg.records (r : Rg) : List Rcd := if 0 < r.lost then markR r :: r.list else r.list
theorem dropR_le (cap : Int) : ∀ (l : List Rcd) (u : Nat), (dropR cap u l).1 ≤ l.length
  | [], u => by simp [dropR]
  | x :: r, u => by
    unfold dropR
    split
    · have := dropR_le cap r (u - x.size); simp only [List.length_cons]; omega
    · simp
theorem dropR_used (cap : Int) : ∀ (l : List Rcd) (u : Nat), (dropR cap (u + sizes l) l).2 = u + sizes (l.drop (dropR cap (u + sizes l) l).1)
  | [], u => by simp [dropR]
  | x :: r, u => by
    unfold dropR
    have e : u + sizes (x :: r) - x.size = u + sizes r := by unfold sizes; simp; omega
    split
    · rw [e]
      simp only [List.drop_succ_cons]
      exact dropR_used cap r u
    · simp
/-- where it stops -/
def stopsR (cap : Int) (l : List Rcd) : Prop := l = [] ∨ ((sizes l : Int) ≤ cap ∧ ∀ x, l.head? = some x → x.what ≠ 2)
theorem dropR_stops (cap : Int) : ∀ (l : List Rcd), stopsR cap (l.drop (dropR cap (sizes l) l).1)
  | [] => .inl (by simp)
  | x :: r => by
    unfold dropR
    have e : sizes (x :: r) - x.size = sizes r := by unfold sizes; simp
    split
    · rw [e]
      simp only [List.drop_succ_cons]
      exact dropR_stops cap r
    · rename_i h
      refine .inr ⟨by rw [List.drop_zero]; omega, fun y hy => ?_⟩
      simp at hy
      subst hy
      omega
theorem dropR_first (cap : Int) : ∀ (l : List Rcd) (k : Nat), stopsR cap (l.drop k) → (dropR cap (sizes l) l).1 ≤ k
  | [], k, _ => by simp [dropR]
  | x :: r, k, h => by
    unfold dropR
    have e : sizes (x :: r) - x.size = sizes r := by unfold sizes; simp
    split
    · rename_i hc
      rw [e]
      cases k with
      | zero =>
        exfalso
        rcases h with h | ⟨h1, h2⟩
        · simp at h
        · rw [List.drop_zero] at h1
          have := h2 x (by simp)
          omega
      | succ k =>
        simp only [List.drop_succ_cons] at h
        have := dropR_first cap r k h
        simp only
        omega
    · exact Nat.zero_le _
end Go.Proofs.Ytknllmcpogoeoaa
