/- Layer 1 walked: the reference's Uint; signs. -/
import Derived.Test.YtknllmcpogoeoaaN1
namespace Go.Proofs.Ytknllmcpogoeoaa
open Go.RowKit
set_option linter.unusedVariables false
set_option linter.unusedSimpArgs false
theorem add9 (v : Nat) (hv : v < 2 ^ (7 * 9)) : IntKind.u64.wrap ((v : Int) + 9223372036854775808) = ((v + 1 * 2 ^ (7 * 9) : Nat) : Int) := by
  rw [IntWalk.u64_in _ (by omega)]
  omega
theorem add0 (v x : Nat) (hv : v < 2 ^ (7 * 0)) (hx : x < 128) : IntKind.u64.wrap ((v : Int) + (x : Int)) = ((v + x * 2 ^ 0 : Nat) : Int) := by
  rw [IntWalk.u64_in _ (by omega)]
  omega
set_option maxRecDepth 100000 in
set_option maxHeartbeats 1600000 in
theorem ruint_any (a : Option Addr) (n c : Nat) (l : List UInt8) (w : World) (hb : Bs w a n l) (hn : n ≤ 140737488351232) :
    Calls Try.prog 49 #[.slice a n c] w (UPost l w) := by
  have hl := hb.leng
  go_enter Try.func49, Try.ntmps49
  go_wp2
  go_loop [5, 6] (fun x i => ∃ k v : Nat, k ≤ n ∧ i = .int .i64 (k : Int) ∧ x = .int .u64 (v : Int) ∧ k ≤ 9 ∧ v < 2 ^ (7 * k) ∧ Hid (rdU l = getU k v (l.drop k))) (fun _ i => n - (intOf i).toNat)
  case atStart => exact ⟨0, 0, by omega, rfl, rfl, by omega, by simp, Lib.hid (by simp [rdU])⟩
  case round =>
    obtain ⟨k, v, hk, rfl, rfl, hk9, hv, HU⟩ := hrel
    have Hv := Lib.hid hv
    clear hv
    by_cases hkn : k < n
    · have hkb : decide ((k : Int) < (n : Int)) = true := by simp; omega
      obtain ⟨b, o, rfl, hc⟩ := hb.cell k hkn
      have q2 : (k : Int) < (n : Int) := by omega
      have q3 : (0 : Int) ≤ (k : Int) := by omega
      have hst := getU_step l k v (by omega)
      rw [← HU.out] at hst
      have hrg := nb_rng l k
      rw [nb_nn] at hc hrg
      generalize nn l k = x at *
      by_cases h9 : k = 9
      · subst h9
        have q20 : (9 : Int) < (n : Int) := by omega
        by_cases h1 : 1 < x
        · rw [if_pos (by omega)] at hst
          have q6 : decide ((1 : Int) < (x : Int)) = true := by simp; omega
          have Hst := Lib.hid hst
          clear hl hb hst
          go_wp2
          go_ret3
          exact upost_none Hst.out w
        · have q6 : decide ((1 : Int) < (x : Int)) = false := by simp; omega
          by_cases h0 : x = 0
          · subst h0
            rw [if_pos (by omega)] at hst
            have Hst := Lib.hid hst
            clear hl hb hst
            go_wp2
            go_ret3
            exact upost_none Hst.out w
          · obtain rfl : x = 1 := by omega
            rw [if_neg (by omega), if_pos (by omega)] at hst
            have Hst := Lib.hid hst
            clear hl hb hst
            go_wp2
            go_ret3
            refine upost_some Hst.out _ _ ?_ (by omega) w
            exact add9 v Hv.out
      · have q6 : ((k : Int) == 9) = false := by simp; omega
        obtain ⟨s, hs⟩ : ∃ s, s = 7 * k := ⟨_, rfl⟩
        have hs7 : (7 : Int) * (k : Int) = (s : Int) := by omega
        have hs0 : (0 : Int) ≤ (s : Int) := by omega
        have had := (add_shl v (x % 128) s (by rw [hs]; exact Hv.out) (by omega) (by omega)).1
        rw [show IntKind.u64.wrap ((x % 128 : Nat) : Int) = ((x % 128 : Nat) : Int) from IntWalk.u64_in _ (by omega)] at had
        by_cases hk0 : k = 0
        · subst hk0
          rw [Nat.add_zero] at hc
          have hkb0 : decide ((0 : Int) < (n : Int)) = true := by simp; omega
          have q20 : (0 : Int) < (n : Int) := by omega
          have e0 : s = 0 := by omega
          subst e0
          rw [if_neg (by omega)] at hst
          by_cases hx : x < 128
          · rw [if_pos hx] at hst
            have q7 : decide ((x : Int) < 128) = true := by simp; omega
            have Hst := Lib.hid hst
            clear hl hb hst hs had
            go_wp2
            go_ret3
            refine upost_some Hst.out _ _ ?_ (by omega) w
            rw [show (x : Int) % 128 = (x : Int) by omega]
            exact add0 v x Hv.out hx
          · have q7 : decide ((x : Int) < 128) = false := by simp; omega
            rw [if_neg hx] at hst
            have Hst := Lib.hid hst
            clear hl hb hst hs had
            go_wp2
            go_round
            case rel => exact ⟨1, v + (x - 128) * 2 ^ 0, by omega, by go_num, by rw [show (x : Int) % 128 = ((x - 128 : Nat) : Int) by omega, add0 v (x - 128) Hv.out (by omega)], by omega, next_lt v (x - 128) 0 Hv.out (by omega), Hst⟩
            case measure => simp [intOf]; omega
        have q8 : decide ((0 : Int) < (k : Int)) = true := by simp; omega
        by_cases h0 : x = 0
        · subst h0
          rw [if_pos (by omega)] at hst
          have Hst := Lib.hid hst
          clear hl hb hst hs had
          go_wp2
          go_ret3
          exact upost_none Hst.out w
        have q9 : ((x : Int) == 0) = false := by simp; omega
        rw [if_neg (by omega), ← hs] at hst
        have hm : (x : Int) % 128 = ((x % 128 : Nat) : Int) := by omega
        by_cases hx : x < 128
        · rw [if_pos hx] at hst
          have hxy : x % 128 = x := Nat.mod_eq_of_lt hx
          have q7 : decide ((x : Int) < 128) = true := by simp; omega
          have Hst := Lib.hid hst
          rw [hxy] at had hm
          have Had := Lib.hid had
          clear hl hb hst hs had hxy hm
          go_wp2
          go_ret3
          refine upost_some Hst.out _ _ ?_ (by omega) w
          rw [show (x : Int) % 128 = (x : Int) by omega]
          exact Had.out
        · have hxy : x % 128 = x - 128 := by omega
          have q7 : decide ((x : Int) < 128) = false := by simp; omega
          rw [if_neg hx, ← hxy] at hst
          have Hst := Lib.hid hst
          have hy := Nat.mod_lt x (show 0 < 128 by omega)
          have hnl := next_lt v (x % 128) k Hv.out hy
          rw [← hs] at hnl
          clear hl hb hst hs hxy
          generalize x % 128 = y at *
          have Hnl := Lib.hid hnl
          clear hnl
          go_wp2
          go_round
          case rel => exact ⟨k + 1, v + y * 2 ^ s, by omega, by go_num, by first | rfl | rw [had], by omega, Hnl.out, Hst⟩
          case measure => simp [intOf]; omega
    · have hkb : decide ((k : Int) < (n : Int)) = false := by simp; omega
      have hst := HU.out
      rw [List.drop_eq_nil_of_le (by omega)] at hst
      have Hst : Hid (rdU l = none) := Lib.hid (by rw [hst]; rfl)
      clear hl hst
      go_wp2
      go_ret3
      exact upost_none Hst.out w
/-! Signs. -/
theorem ones64 : (18446744073709551615#64 : BitVec 64) = BitVec.allOnes 64 := by decide
theorem not_u64 (x : Nat) (hx : x < 18446744073709551616) : bits .xor .u64 IntKind.u64.max (x : Int) = 18446744073709551615 - (x : Int) := by
  show IntKind.u64.wrap ((BitVec.ofInt 64 IntKind.u64.max ^^^ BitVec.ofInt 64 (x : Int)).toNat : Int) = _
  have e1 : BitVec.ofInt 64 IntKind.u64.max = BitVec.allOnes 64 := by decide
  have e2 : (BitVec.ofInt 64 (x : Int)).toNat = x := by
    rw [BitVec.toNat_ofInt]
    omega
  rw [e1, BitVec.allOnes_xor, BitVec.toNat_not, e2, IntKind.wrap_u64]
  omega
theorem not_i64 (x : Nat) (hx : x < 9223372036854775808) : bits .xor .i64 (-1) (x : Int) = -(x : Int) - 1 := by
  show IntKind.i64.wrap ((BitVec.ofInt 64 (-1) ^^^ BitVec.ofInt 64 (x : Int)).toNat : Int) = _
  have e1 : BitVec.ofInt 64 (-1) = BitVec.allOnes 64 := by decide
  have e2 : (BitVec.ofInt 64 (x : Int)).toNat = x := by
    rw [BitVec.toNat_ofInt]
    omega
  rw [e1, BitVec.allOnes_xor, BitVec.toNat_not, e2, IntKind.wrap_i64]
  omega
theorem and1_u64 (x : Nat) (hx : x < 18446744073709551616) : bits .and .u64 (x : Int) 1 = ((x % 2 : Nat) : Int) := by
  show IntKind.u64.wrap ((BitVec.ofInt 64 (x : Int) &&& BitVec.ofInt 64 1).toNat : Int) = _
  have e1 : (BitVec.ofInt 64 1).toNat = 1 := by decide
  have e2 : (BitVec.ofInt 64 (x : Int)).toNat = x := by
    rw [BitVec.toNat_ofInt]
    omega
  rw [BitVec.toNat_and, e1, e2, Nat.and_one_is_mod, IntKind.wrap_u64]
  omega
theorem zz_neg (v : Int) (h1 : -9223372036854775808 ≤ v) (h : v < 0) : bits .xor .u64 IntKind.u64.max (IntKind.u64.wrap (IntKind.u64.wrap v * 2)) = (zz v : Int) := by
  have e : IntKind.u64.wrap (IntKind.u64.wrap v * 2) = ((2 * v + 18446744073709551616).toNat : Int) := by
    rw [IntKind.wrap_u64, IntKind.wrap_u64]; omega
  rw [e, not_u64 _ (by omega)]
  unfold zz
  rw [if_pos h]
  omega
theorem zz_val (v : Int) : (zz v : Int) = if v < 0 then -2 * v - 1 else 2 * v := by
  unfold zz
  split <;> omega
theorem uz_val (u : Nat) : uz u = if u % 2 = 1 then -((u : Int) / 2) - 1 else (u : Int) / 2 := by
  unfold uz
  split <;> simp
theorem ret_u64 {a b : Int} (h : a = b) : Ending.returned (.int .u64 a) = .returned (.int .u64 b) := by rw [h]
theorem ret_i64 {a b : Int} (h : a = b) : Ending.returned (.int .i64 a) = .returned (.int .i64 b) := by rw [h]
set_option maxHeartbeats 800000 in
theorem zigzag_any (v : Int) (w : World) (h1 : -9223372036854775808 ≤ v) (h2 : v ≤ 9223372036854775807) :
    Calls Try.prog 59 #[.int .i64 v] w (fun e w' => e = .returned (.int .u64 (zz v : Int)) ∧ w = w') := by
  by_cases h : v < 0
  · have hb : decide (v < 0) = true := by simp; omega
    go_enter Try.func59, Try.ntmps59
    go_wp2
    all_goals
      go_ret
      exact ⟨ret_u64 (zz_neg v h1 (by assumption)), rfl⟩
  · have hb : decide (v < 0) = false := by simp; omega
    go_enter Try.func59, Try.ntmps59
    go_wp2
    go_ret
    exact ⟨ret_u64 (by rw [zz_val, if_neg (by omega)]; omega), rfl⟩
set_option maxHeartbeats 800000 in
theorem rzigzag_any (v : Int) (w : World) (h1 : -9223372036854775808 ≤ v) (h2 : v ≤ 9223372036854775807) :
    Calls Try.prog 60 #[.int .i64 v] w (fun e w' => e = .returned (.int .u64 (zz v : Int)) ∧ w = w') := by
  by_cases h : v < 0
  · have hb : decide (v < 0) = true := by simp; omega
    go_enter Try.func60, Try.ntmps60
    go_wp2
    go_ret
    exact ⟨ret_u64 (by rw [zz_val, if_pos (by omega)]; omega), rfl⟩
  · have hb : decide (v < 0) = false := by simp; omega
    go_enter Try.func60, Try.ntmps60
    go_wp2
    go_ret
    exact ⟨ret_u64 (by rw [zz_val, if_neg (by omega)]), rfl⟩
set_option maxHeartbeats 800000 in
theorem unzigzag_any (u : Nat) (w : World) (h : u < 18446744073709551616) :
    Calls Try.prog 61 #[.int .u64 (u : Int)] w (fun e w' => e = .returned (.int .i64 (uz u)) ∧ w = w') := by
  have ha := and1_u64 u h
  by_cases ho : u % 2 = 1
  · have hb : (bits .and .u64 (u : Int) 1 == 1) = true := by rw [ha, ho]; rfl
    have hx := not_i64 (u / 2) (by omega)
    rw [show ((u / 2 : Nat) : Int) = (u : Int) / 2 by omega] at hx
    clear ha
    go_enter Try.func61, Try.ntmps61
    go_wp2
    all_goals
      go_ret
      exact ⟨ret_i64 (by rw [uz_val, if_pos ho] <;> first | exact hx | rfl), rfl⟩
  · have hb : (bits .and .u64 (u : Int) 1 == 1) = false := by rw [ha]; simp; omega
    clear ha
    go_enter Try.func61, Try.ntmps61
    go_wp2
    all_goals
      go_ret
      exact ⟨ret_i64 (by rw [uz_val, if_neg ho]), rfl⟩
set_option maxHeartbeats 800000 in
theorem runzigzag_any (u : Nat) (w : World) (h : u < 18446744073709551616) :
    Calls Try.prog 62 #[.int .u64 (u : Int)] w (fun e w' => e = .returned (.int .i64 (uz u)) ∧ w = w') := by
  by_cases ho : u % 2 = 1
  · have hb : ((u : Int) % 2 == 1) = true := by simp; omega
    go_enter Try.func62, Try.ntmps62
    go_wp2
    all_goals
      go_ret
      exact ⟨ret_i64 (by rw [uz_val, if_pos ho]), rfl⟩
  · have hb : ((u : Int) % 2 == 1) = false := by simp; omega
    go_enter Try.func62, Try.ntmps62
    go_wp2
    all_goals
      go_ret
      exact ⟨ret_i64 (by rw [uz_val, if_neg ho]), rfl⟩
theorem uval_lt (l : List UInt8) : uVal l < 18446744073709551616 := by
  unfold uVal
  cases h : rdU l with
  | none => simp
  | some p => obtain ⟨v, n⟩ := p; exact (rdU_form h).2.2.2.1
/-- num.Int -/
def IPost (l : List UInt8) (w : World) (e : Ending) (w' : World) : Prop := e = .returned (.tuple #[.int .i64 (uz (uVal l)), .int .i64 (uLen l : Int), .int .i64 (uErr l : Int)]) ∧ w' = w
set_option maxHeartbeats 800000 in
theorem int_any (a : Option Addr) (n c : Nat) (l : List UInt8) (w : World) (hb : Bs w a n l) (hn : n ≤ 140737488351232) :
    Calls Try.prog 63 #[.slice a n c] w (IPost l w) := by
  have hv := uval_lt l
  go_enter Try.func63, Try.ntmps63
  go_wp2_with (first
    | (go_at_call 48; refine (uint_any a n c l w hb hn).mono ?_; rintro e w1 ⟨rfl, rfl⟩)
    | (go_at_call 61; refine (unzigzag_any (uVal l) _ hv).mono ?_; rintro e w2 ⟨rfl, rfl⟩))
  go_ret3
  exact ⟨rfl, rfl⟩
set_option maxHeartbeats 800000 in
theorem putInt_any (a : Option Addr) (n c : Nat) (l : List UInt8) (v : Int) (w : World) (hb : Bs w a n l) (hz : a = none → c = 0) (h1 : -9223372036854775808 ≤ v) (h2 : v ≤ 9223372036854775807) (hn : n ≤ 140737488351232) :
    Calls Try.prog 64 #[.slice a n c, .int .i64 v] w (OutPost (l ++ putU (zz v)) w) := by
  have hv := zz_lt v h1 h2
  go_enter Try.func64, Try.ntmps64
  go_wp2_with (first
    | (go_at_call 59; refine (zigzag_any v w h1 h2).mono ?_; rintro e w1 ⟨rfl, rfl⟩)
    | (go_at_call 46; refine (putUint_any a n c l (zz v) _ hb hz hv hn).mono ?_; rintro e w2 ⟨a2, c2, rfl, O2, E2⟩))
  go_ret
  exact ⟨a2, c2, by rw [List.length_append]; rfl, O2, E2⟩
end Go.Proofs.Ytknllmcpogoeoaa
