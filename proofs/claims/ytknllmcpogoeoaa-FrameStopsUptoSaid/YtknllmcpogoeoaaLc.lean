/- FrameStops, walked. -/
import Derived.Test.YtknllmcpogoeoaaLb
import Derived.Deep.RegionWith
namespace Go.Proofs.Ytknllmcpogoeoaa
open Go.RowKit
set_option linter.unusedVariables false
set_option linter.unusedSimpArgs false
theorem Prow.cap {e : Nat} {w : World} {B : Nat} {a : Option Addr} {c : Nat} {rows : List (Value × PartS)} (h : Prow e w B a c rows) : rows.length ≤ c := by
  rcases h.1.2 with ⟨e1, h0⟩ | ⟨g, cap, cur, e2, hg, hh, hn, _⟩
  · omega
  · simp only [Value.slice.injEq] at e2
    omega
set_option maxRecDepth 100000 in
set_option maxHeartbeats 1600000 in
theorem stops_any (a : Option Addr) (n c : Nat) (l : List UInt8) (x : Nat) (w : World) (hb : Bs w a n l) (hn : n ≤ 1048576) (hc : n ≤ c) (hz : a = none → c = 0) (hx : x ≤ 255) :
    Calls Try.prog 7 #[.slice a n c, .int .u8 (x : Int)] w (fun e w' => e = .returned (.bool true) ∧ Ext w w') := by
  have hl := hb.leng
  subst hl
  have hsl := scanP_len l 0
  go_enter Try.func7, Try.ntmps7
  go_wp2_with (first
    | (go_at_call 32; refine (awake3_any w).mono ?_; rintro e w1 ⟨rfl, E1⟩; have hb1 := E1.bs hb)
    | (go_at_call 37; refine (rscan_any a l.length c l w1 hb1 (by omega) hc).mono ?_; rintro e w2 ⟨a3, c3, rows3, rfl, P3, hD3, E2⟩; have hb2 := E2.bs hb1; have E12 := E1.tr E2; have V3 := P3.pv; have hr3 : rows3.length ≤ l.length := (by rw [← hD3, List.length_map] at hsl; exact hsl)))
  obtain ⟨kk, hkk⟩ : ∃ kk : Nat, (x : Int) % 20 = (kk : Int) := ⟨x % 20, by omega⟩
  have hk20 : kk ≤ 19 := by omega
  rw [hkk]
  have hcap := P3.cap
  obtain ⟨m, hm⟩ : ∃ m : Nat, m = min kk rows3.length := ⟨_, rfl⟩
  have q1 : (m : Int) ≤ (c3 : Int) := by omega
  have hb3 := hb2.drew
  have E3 := E12.dr
  have V4 : Pv w2.drew a3 rows3.length (List.map (fun x => x.snd) rows3) := V3.ext ((Ext.refl w2).dr)
  have V5 := V4.take m (by omega)
  clear hkk hx hb hb1 hb2 E1 E2 E12 V3 V4
  have hrows : (rows3.map (·.2)).take m = (scanP 0 l).take kk := by
    rw [hD3]
    have : rows3.length = (scanP 0 l).length := by rw [← hD3, List.length_map]
    by_cases h : kk ≤ rows3.length
    · rw [show m = kk by omega]
    · rw [List.take_of_length_le (by omega), List.take_of_length_le (by omega)]
  have Hrows := Lib.hid hrows
  have Hm := Lib.hid hm
  clear hrows hD3 P3
  rcases Nat.lt_or_ge rows3.length kk with hlt | hge
  · have hA : ((rows3.length : Int) < (kk : Int)) = True := by simp; omega
    obtain rfl : m = rows3.length := by omega
    clear hm hlt
    go_region_with (first
      | (go_at_call 36; refine (parts_any a l.length c l _ _ hb3 (by omega) hz (by omega)).mono ?_; rintro e w4 ⟨a4, c4, rows4, rfl, P4, hD4, E4⟩; have E5 := E3.tr E4; have V6 := V5.ext E4; have V7 := P4.pv; have hr4 : rows4.length ≤ 19 := (by have := congrArg List.length hD4; rw [List.length_map, List.length_take] at this; omega))
      | (go_at_call 35; refine (same_any a4 rows4.length c4 a3 _ _ _ _ _ V7 V6 (by omega) (by omega)).mono ?_; rintro e w5 ⟨rfl, E6⟩; rw [Hrows.out, hD4, decide_eq_true rfl]; have E7 := E5.tr E6))
    all_goals
      go_wp2
      go_ret
      exact ⟨rfl, E7⟩
  · have hA : ((rows3.length : Int) < (kk : Int)) = False := by simp; omega
    obtain rfl : m = kk := by omega
    clear hm hge
    go_region_with (first
      | (go_at_call 36; refine (parts_any a l.length c l _ _ hb3 (by omega) hz (by omega)).mono ?_; rintro e w4 ⟨a4, c4, rows4, rfl, P4, hD4, E4⟩; have E5 := E3.tr E4; have V6 := V5.ext E4; have V7 := P4.pv; have hr4 : rows4.length ≤ 19 := (by have := congrArg List.length hD4; rw [List.length_map, List.length_take] at this; omega))
      | (go_at_call 35; refine (same_any a4 rows4.length c4 a3 _ _ _ _ _ V7 V6 (by omega) (by omega)).mono ?_; rintro e w5 ⟨rfl, E6⟩; rw [Hrows.out, hD4, decide_eq_true rfl]; have E7 := E5.tr E6))
    all_goals
      go_wp2
      go_ret
      exact ⟨rfl, E7⟩
end Go.Proofs.Ytknllmcpogoeoaa
