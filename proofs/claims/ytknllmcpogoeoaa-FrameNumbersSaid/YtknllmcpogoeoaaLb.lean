/- FrameScans and FrameBodies, walked. -/
import Derived.Test.YtknllmcpogoeoaaAw
import Derived.Test.YtknllmcpogoeoaaL3b
namespace Go.Proofs.Ytknllmcpogoeoaa
open Go.RowKit
set_option linter.unusedVariables false
set_option linter.unusedSimpArgs false
set_option maxRecDepth 100000 in
set_option maxHeartbeats 1600000 in
theorem scans_any (a : Option Addr) (n c : Nat) (l : List UInt8) (w : World) (hb : Bs w a n l) (hn : n ≤ 1048576) (hc : n ≤ c) (hz : a = none → c = 0) :
    Calls Try.prog 4 #[.slice a n c] w (fun e w' => e = .returned (.bool true) ∧ Ext w w') := by
  have hl := hb.leng
  subst hl
  have hsl := scanP_len l 0
  go_enter Try.func4, Try.ntmps4
  go_wp2_with (first
    | (go_at_call 32; refine (awake3_any w).mono ?_; rintro e w1 ⟨rfl, E1⟩; have hb1 := E1.bs hb; have hv1 := conv_bs (cap := c) hb1)
    | (go_at_call 36; refine (parts_any a l.length c l 1073741824 w1 hb1 (by omega) hz (by omega)).mono ?_; rintro e w2 ⟨a2, c2, rows2, rfl, P2, hD2, E2⟩; rw [List.take_of_length_le (by omega)] at hD2; have hb2 := E2.bs hb1; have E12 := E1.tr E2; have hr2 : rows2.length ≤ l.length := (by rw [← hD2, List.length_map] at hsl; exact hsl))
    | (go_at_call 37; refine (rscan_any a l.length c l w2 hb2 (by omega) hc).mono ?_; rintro e w3 ⟨a3, c3, rows3, rfl, P3, hD3, E3⟩; have hb3 := E3.bs hb2; have E13 := E12.tr E3; have V2 := (P2.pv).ext E3; have V3 := P3.pv; have hr3 : rows3.length ≤ l.length := (by rw [← hD3, List.length_map] at hsl; exact hsl))
    | (go_at_call 35; refine (same_any a2 rows2.length c2 a3 rows3.length c3 _ _ w3 V2 V3 (by omega) (by omega)).mono ?_; rintro e w4 ⟨rfl, E4⟩; rw [hD2, hD3, decide_eq_true rfl]; have hv4 := conv_bs (cap := c) (E4.bs hb3)))
  go_ret
  exact ⟨rfl, E13.tr E4⟩
set_option maxRecDepth 100000 in
set_option maxHeartbeats 1600000 in
theorem bodiesLaw_any (a : Option Addr) (n c : Nat) (l : List UInt8) (w : World) (hb : Bs w a n l) (hn : n ≤ 1048576) (hc : n ≤ c) (hz : a = none → c = 0) :
    Calls Try.prog 6 #[.slice a n c] w (fun e w' => e = .returned (.bool true) ∧ Ext w w') := by
  have hl := hb.leng
  subst hl
  have hsl := scanP_len l 0
  have hbl : (bodL (scanP 0 l)).length ≤ l.length := by
    have := bodL_len (scanP 0 l) (scanP 0 l).length
    rw [List.take_of_length_le (Nat.le_refl _)] at this
    omega
  have hbody : ∀ x ∈ bodL (scanP 0 l), x.length ≤ 140737488351232 := fun x hx => by
    unfold bodL at hx
    obtain ⟨p, hp, rfl⟩ := List.mem_map.1 hx
    have := body_len l 0 p (List.mem_filter.1 hp).1
    omega
  have hrows : ∀ rows : List (Value × List UInt8), rows.map (·.2) = bodL (scanP 0 l) → (∀ r ∈ rows, r.2.length ≤ 140737488351232) ∧ rows.length = (bodL (scanP 0 l)).length := fun rows h => ⟨fun r hr => hbody _ (by rw [← h]; exact List.mem_map_of_mem hr), by rw [← h, List.length_map]⟩
  have Hrows := Lib.hid hrows
  clear hrows hbody
  go_enter Try.func6, Try.ntmps6
  go_wp2_with (first
    | (go_at_call 32; refine (awake3_any w).mono ?_; rintro e w1 ⟨rfl, E1⟩; have hb1 := E1.bs hb)
    | (go_at_call 38; refine (bodies_any a l.length c l w1 hb1 (by omega) hz).mono ?_; rintro e w2 ⟨a2, c2, rows2, rfl, V2, hD2, E2⟩; have hb2 := E2.bs hb1; have E12 := E1.tr E2; have L2 := V2.ls (Hrows.out _ hD2).1; have hr2 := (Hrows.out _ hD2).2; rw [hD2, hr2] at L2; rw [hr2])
    | (go_at_call 39; refine (rbodies_any a l.length c l w2 hb2 (by omega) hc).mono ?_; rintro e w3 ⟨a3, c3, rows3, rfl, V3, hD3, E3⟩; have E13 := E12.tr E3; have L2' := E3.ls L2; have L3 := V3.ls (Hrows.out _ hD3).1; have hr3 := (Hrows.out _ hD3).2; rw [hD3, hr3] at L3; rw [hr3])
    | (go_at_call 40; refine (begins_any a2 _ c2 a3 _ c3 _ _ w3 L2' L3 (by omega) (by omega)).mono ?_; rintro e w4 ⟨rfl, E4⟩; rw [List.take_of_length_le (Nat.le_refl _), decide_eq_true rfl]))
  go_ret
  exact ⟨rfl, E13.tr E4⟩
end Go.Proofs.Ytknllmcpogoeoaa
