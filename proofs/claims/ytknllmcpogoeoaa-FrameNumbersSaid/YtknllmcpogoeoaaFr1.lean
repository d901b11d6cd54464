import Derived.Test.YtknllmcpogoeoaaFs
namespace Go.Proofs.Ytknllmcpogoeoaa
open Go.RowKit
set_option linter.unusedVariables false
set_option linter.unusedSimpArgs false

set_option maxHeartbeats 400000 in
theorem update_any (x : BitVec 32) (a : Option Addr) (len cap : Nat) (l : List UInt8) (w : World) (hb : Bs w a len l) (hm : len ≤ 140737488355328) :
    Calls Try.prog 134 #[.int .u32 (x.toNat : Int), .slice a len cap] w fun e w' => e = .returned (.int .u32 ((cupd x l).toNat : Int)) ∧ w = w' := by
  go_enter Try.func134, Try.ntmps134
  go_wp2
  go_loop [0, 10] (fun t i => ∃ k : Nat, k ≤ len ∧ i = .int .i64 k ∧ t = .int .u32 ((cupd x (l.take k)).toNat : Int)) (fun _ i => len - (intOf i).toNat)
  case atStart => exact ⟨0, Nat.zero_le _, rfl, rfl⟩
  case round =>
    obtain ⟨k, hk, rfl, rfl⟩ := hrel
    by_cases hlt : k < len
    · obtain ⟨b, off, rfl, hc⟩ := hb.at (by omega)
      have hck := hc k hlt
      clear hc
      have hr := nb_rng l k
      have hx0 : bits .xor .u32 ((cupd x (l.take k)).toNat : Int) (nb l k) = ((cupd x (l.take k) ^^^ zx (l[k]?.getD 0)).toNat : Int) := by rw [nb_zx, xor_u32]
      have hfin : cupd x (l.take (k + 1)) = prnd (cupd x (l.take k) ^^^ zx (l[k]?.getD 0)) 8 := by
        rw [cupd_take x l k (by rw [hb.leng]; exact hlt), prnd8]
      have Hfin := Lib.hid hfin
      clear hfin
      generalize cupd x (l.take k) ^^^ zx (l[k]?.getD 0) = y at *
      go_wp2
      go_loop [0, 18] (fun t i => ∃ j : Nat, j ≤ 8 ∧ i = .int .i64 j ∧ t = .int .u32 ((prnd y j).toNat : Int)) (fun _ i => 8 - (intOf i).toNat)
      case atStart => exact ⟨0, Nat.zero_le _, rfl, rfl⟩
      case round =>
        obtain ⟨j, hj, rfl, rfl⟩ := hrel
        by_cases hj8 : j < 8
        · have hs : prnd y (j + 1) = cbit (prnd y j) false := rfl
          have Hs := Lib.hid hs
          clear hs
          generalize prnd y j = z at *
          have h1 := and1_u32 z
          have h2 := half_u32 z
          have h3 := halfx_u32 z
          by_cases hz : z.getLsbD 0 = true
          · rw [if_pos hz] at h1
            have Hz := Lib.hid hz
            clear hz
            go_wp2
            go_round
            case rel => exact ⟨j + 1, by omega, by go_num, by rw [Hs.out, cbit_ne (by rw [Hz.out]; rfl)]⟩
            case measure => simp [intOf]; omega
          · rw [if_neg hz] at h1
            have hz : z.getLsbD 0 = false := by simpa using hz
            have Hz := Lib.hid hz
            clear hz
            go_wp2
            go_round
            case rel => exact ⟨j + 1, by omega, by go_num, by rw [Hs.out, cbit_eq (by rw [Hz.out]; rfl)]⟩
            case measure => simp [intOf]; omega
        · go_wp2
          go_round
          case rel => exact ⟨k + 1, by omega, by go_num, by rw [Hfin.out, show j = 8 by omega]⟩
          case measure => simp [intOf]; omega
    · go_wp2
      go_ret
      rw [show l.take k = l by rw [List.take_of_length_le]; rw [hb.leng]; omega]
      exact ⟨rfl, rfl⟩
set_option maxHeartbeats 400000 in
theorem sum_any (a : Option Addr) (len cap : Nat) (l : List UInt8) (w : World) (hb : Bs w a len l) (hm : len ≤ 140737488355328) :
    Calls Try.prog 104 #[.slice a len cap] w fun e w' => e = .returned (.int .u32 ((crc l).toNat : Int)) ∧ w = w' := by
  go_enter Try.func104, Try.ntmps104
  go_wp2
  go_loop [3, 11] (fun t i => ∃ k : Nat, k ≤ len ∧ i = .int .i64 k ∧ t = .int .u32 ((cupd (ones) (l.take k)).toNat : Int)) (fun _ i => len - (intOf i).toNat)
  case atStart => exact ⟨0, Nat.zero_le _, rfl, rfl⟩
  case round =>
    obtain ⟨k, hk, rfl, rfl⟩ := hrel
    by_cases hlt : k < len
    · obtain ⟨b, off, rfl, hc⟩ := hb.at (by omega)
      have hck := hc k hlt
      clear hc
      have hr := nb_rng l k
      have Hfin := Lib.hid (cupd_take (ones) l k (by rw [hb.leng]; exact hlt))
      generalize cupd (ones) (l.take k) = y at *
      go_wp2
      go_loop [3, 6] (fun t i => ∃ j : Nat, j ≤ 8 ∧ i = .int .i64 j ∧ t = .int .u32 ((cbits y (l[k]?.getD 0) j).toNat : Int)) (fun _ i => 8 - (intOf i).toNat)
      case atStart => exact ⟨0, Nat.zero_le _, rfl, rfl⟩
      case round =>
        obtain ⟨j, hj, rfl, rfl⟩ := hrel
        by_cases hj8 : j < 8
        · have hs : cbits y (l[k]?.getD 0) (j + 1) = cbit (cbits y (l[k]?.getD 0) j) ((l[k]?.getD 0).toBitVec.getLsbD j) := rfl
          have Hs := Lib.hid hs
          clear hs
          generalize cbits y (l[k]?.getD 0) j = z at *
          have h1 := rem_u32 z
          have h2 := half_u32 z
          have h3 := halfx_u32 z
          have Hz := Lib.hid (bit_test z l k j hj8)
          clear h1
          go_wp2
          · have ht : ((z.toNat : Int) % (2 : Int) != (nb l k / (2 : Int) ^ j).tmod 2) = true := by assumption
            go_round
            case rel => exact ⟨j + 1, by omega, by go_num, by rw [Hs.out, cbit_ne (by rw [← Hz.out]; exact ht)]⟩
            case measure => simp [intOf]; omega
          · have ht : ((z.toNat : Int) % (2 : Int) != (nb l k / (2 : Int) ^ j).tmod 2) = false := by assumption
            go_round
            case rel => exact ⟨j + 1, by omega, by go_num, by rw [Hs.out, cbit_eq (by rw [← Hz.out]; exact ht)]⟩
            case measure => simp [intOf]; omega
        · go_wp2
          go_round
          case rel => exact ⟨k + 1, by omega, by go_num, by rw [Hfin.out, show j = 8 by omega]⟩
          case measure => simp [intOf]; omega
    · go_wp2
      go_ret
      rw [show l.take k = l by rw [List.take_of_length_le]; rw [hb.leng]; omega]
      have hf : (4294967295 : Int) - ((cupd ones l).toNat : Int) = ((crc l).toNat : Int) := not_u32 _
      exact ⟨by rw [← hf]; rfl, rfl⟩

set_option maxHeartbeats 400000 in
theorem checksum_any (a1 a2 : Option Addr) (n1 c1 n2 c2 : Nat) (l1 l2 : List UInt8) (w : World) (h1 : Bs w a1 n1 l1) (h2 : Bs w a2 n2 l2) (hm1 : n1 ≤ 140737488355328) (hm2 : n2 ≤ 140737488355328) :
    Calls Try.prog 103 #[.slice a1 n1 c1, .slice a2 n2 c2] w fun e w' => e = .returned (.int .u32 ((crc (l1 ++ l2)).toNat : Int)) ∧ w = w' := by
  have hf := flip_u32' (cupd (cupd ones l1) l2)
  rw [crc_app] at hf
  go_enter Try.func103, Try.ntmps103
  go_wp2_with fail
  rw [ones_nat]
  refine (update_any _ _ _ _ _ _ h1 hm1).mono ?_
  rintro e w' ⟨rfl, rfl⟩
  go_wp2_with fail
  refine (update_any _ _ _ _ _ _ h2 hm2).mono ?_
  rintro e w' ⟨rfl, rfl⟩
  go_wp2_with fail
  go_ret
  exact ⟨rfl, rfl⟩


def StandsPost (l : List UInt8) (w : World) (e : Ending) (w' : World) : Prop := e = .returned (.tuple #[.int .i64 (st l : Int), .bool (stb l)]) ∧ ∃ n, w' = w.drewN n
theorem stands_no {l : List UInt8} {w : World} (h : stb l = false) (n : Nat) : StandsPost l w (.returned (.tuple #[.int .i64 0, .bool false])) (w.drewN n) := ⟨by rw [st_no h, h]; rfl, n, rfl⟩
theorem stands_yes {l : List UInt8} {w : World} (h : stb l = true) (n : Nat) : StandsPost l w (.returned (.tuple #[.int .i64 (8 + (n2 l : Int)), .bool true])) (w.drewN n) := by
  refine ⟨?_, n, rfl⟩
  rw [st_yes h, h]
  simp
set_option maxHeartbeats 800000 in
theorem stands_any (a : Option Addr) (len cap : Nat) (l : List UInt8) (w : World) (hb : Bs w a len l) (hm : len ≤ 140737488355328) (hc : len ≤ cap) :
    Calls Try.prog 142 #[.slice a len cap] w (StandsPost l w) := by
  have hl := hb.leng
  by_cases h8 : len < 8
  · go_enter Try.func142, Try.ntmps142
    go_wp2_with fail
    go_ret2
    exact stands_no (stb_not (by unfold hd4; omega)) 0
  · obtain ⟨b, off, rfl, hcell⟩ := hb.at (by omega)
    have c0 : w.cell? ⟨b, off, none⟩ = _ := hcell 0 (by omega)
    have c1 := hcell 1 (by omega)
    have c2 := hcell 2 (by omega)
    have c3 := hcell 3 (by omega)
    have r0 := nb_rng l 0
    have r1 := nb_rng l 1
    have r2 := nb_rng l 2
    have r3 := nb_rng l 3
    have hd8 : decide ((len : Int) < 8) = false := by simp; omega
    by_cases hm01 : nb l 0 = 165 ∧ nb l 1 = 90
    · have c4 := hcell 4 (by omega)
      have c5 := hcell 5 (by omega)
      have c6 := hcell 6 (by omega)
      have c7 := hcell 7 (by omega)
      have r4 := nb_rng l 4
      have r5 := nb_rng l 5
      have r6 := nb_rng l 6
      have r7 := nb_rng l 7
      clear hcell
      have m0 : (nb l 0 != 165) = false := by simp [hm01.1]
      have m1 : (nb l 1 != 90) = false := by simp [hm01.2]
      have hn0 : nn l 0 = 165 := by have := hm01.1; rw [nb_nn] at this; omega
      have hn1 : nn l 1 = 90 := by have := hm01.2; rw [nb_nn] at this; omega
      clear hm01
      have o2 := or_n2 l
      have o3 := or_s1 l
      have o4 := or_s2 l
      have o5 := or_s3 l
      by_cases hn : n2 l ≤ 4000 ∧ n2 l + 8 ≤ len
      · obtain ⟨hna, hnb⟩ := hn
        have hh : hd4 l := ⟨by omega, hn0, hn1, hna, by omega⟩
        have t1 : decide ((4000 : Int) < n2 l) = false := by simp; omega
        have t2 : decide ((len : Int) - 8 < n2 l) = false := by simp; omega
        have t3 : decide ((4000 : Int) < n2 l ∨ (len : Int) - 8 < n2 l) = false := by simp; omega
        have Hl := Lib.hid hl
        have Hn0 := Lib.hid hn0
        have Hn1 := Lib.hid hn1
        have B1 := hb.sub 2 2 (by omega) (a' := some ⟨b, off + 2, none⟩) (by intro b' o' e _; simp at e; rw [e.1, e.2])
        have B2 := hb.sub 8 (n2 l) (by omega) (a' := if cap = 8 then some ⟨b, off, none⟩ else some ⟨b, off + 8, none⟩) (fun b' o' e h => cut_addr e (by omega))
        have hcr : crc ((l.drop 2).take 2 ++ (l.drop 8).take (n2 l)) = crcOf l := rfl
        have Hcr := Lib.hid hcr
        clear hcr
        generalize (l.drop 2).take 2 = x1 at *
        generalize (l.drop 8).take (n2 l) = x2 at *
        clear hl hn0 hn1
        go_enter Try.func142, Try.ntmps142
        go_wp2_with fail
        go_quiet (fail)
        go_wp2_with fail
        go_quiet (fail)
        go_wp2_with fail
        have k4 : (4 : Int) ≤ (cap : Int) := by omega
        have k5 : ¬ cap = 2 := by omega
        have k6 : (8 : Int) + (n2 l : Int) ≤ (cap : Int) := by omega
        have k7 : (0 : Int) ≤ 8 + (n2 l : Int) := by omega
        have k8 : (8 : Int) ≤ 8 + (n2 l : Int) := by omega
        have k9 : IntKind.i64.wrap (8 + (n2 l : Int)) = 8 + (n2 l : Int) := IntWalk.i64_in _ (by omega)
        have k10 : (8 + (n2 l : Int)).toNat = 8 + n2 l := by omega
        go_quiet ((go_at_call 103; refine (checksum_any _ _ _ _ _ _ _ _ _ (B1.drewN _) (B2.drewN _) (by omega) (by omega)).mono ?_; rintro e w' ⟨rfl, rfl⟩; exact ⟨rfl, _, rfl⟩))
        clear k4 k5 k6 k7 k8 k9 k10
        rw [Hcr.out]
        go_wp2_with fail
        all_goals (go_ret2; (try simp only [World.drewN_drewN]))
        all_goals first
          | (have ht : ((sum4 l : Int) != ((crcOf l).toNat : Int)) = true := by assumption
             exact stands_no (stb_ne (fun e => by rw [e] at ht; simp at ht)) _)
          | (have ht : ((sum4 l : Int) != ((crcOf l).toNat : Int)) = false := by assumption
             exact stands_yes (stb_of hh (by have h := WalkArith.int_eq' ht; omega)) _)
      · have hh : ¬ hd4 l := by unfold hd4; omega
        have Hl := Lib.hid hl
        have Hn0 := Lib.hid hn0
        have Hn1 := Lib.hid hn1
        have Hn := Lib.hid hn
        clear hl hn0 hn1
        by_cases hna : n2 l ≤ 4000
        · have t1 : decide ((4000 : Int) < n2 l) = false := by simp; omega
          have t2 : decide ((len : Int) - 8 < n2 l) = true := by simp; omega
          clear hn
          go_enter Try.func142, Try.ntmps142
          go_wp2_with fail
          go_quiet (fail)
          go_wp2_with fail
          all_goals (go_ret2; (try simp only [World.drewN_drewN]))
          all_goals exact stands_no (stb_not hh) _
        · have t1 : decide ((4000 : Int) < n2 l) = true := by simp; omega
          clear hn
          go_enter Try.func142, Try.ntmps142
          go_wp2_with fail
          go_quiet (fail)
          go_wp2_with fail
          all_goals (go_ret2; (try simp only [World.drewN_drewN]))
          all_goals exact stands_no (stb_not hh) _
    · have hh : stb l = false := by
        refine stb_not (fun h => hm01 ?_)
        unfold hd4 at h
        rw [nb_nn, nb_nn]
        omega
      have Hm := Lib.hid hm01
      clear hm01
      have Hl := Lib.hid hl
      clear hl hcell
      go_enter Try.func142, Try.ntmps142
      go_wp2_with fail
      all_goals first
        | (go_ret2; exact stands_no hh 0)
        | (exact (Hm.out ⟨by assumption, WalkArith.int_eq' (by assumption)⟩).elim)

end Go.Proofs.Ytknllmcpogoeoaa
