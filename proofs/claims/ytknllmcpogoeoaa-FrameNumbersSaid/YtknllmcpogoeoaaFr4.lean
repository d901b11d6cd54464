/- rootcauseref03.Stands, walked. -/
import Derived.Test.YtknllmcpogoeoaaFr3
namespace Go.Proofs.Ytknllmcpogoeoaa
open Go.RowKit
set_option linter.unusedVariables false
set_option linter.unusedSimpArgs false
def RStandsPost (d : List UInt8) (w : World) (e : Ending) (w' : World) : Prop := e = .returned (.int .i64 (st d : Int)) ∧ Ext w w'
theorem rstands_no {d : List UInt8} {w w' : World} (h : stb d = false) (hE : Ext w w') : RStandsPost d w (.returned (.int .i64 0)) w' := ⟨by rw [st_no h]; rfl, hE⟩
set_option maxHeartbeats 800000 in
theorem rstands_any (a : Option Addr) (len cap off : Nat) (l : List UInt8) (w : World) (hb : Bs w a len l) (hm : len ≤ 140737488355328) (hc : len ≤ cap) (ho : off ≤ len) :
    Calls Try.prog 106 #[.slice a len cap, .int .i64 (off : Int)] w (RStandsPost (l.drop off) w) := by
  have hl := hb.leng
  by_cases h8 : len < off + 8
  · have hd8 : decide ((len : Int) - off < 8) = true := by simp; omega
    have hh : stb (l.drop off) = false := stb_not (by unfold hd4; rw [List.length_drop]; omega)
    clear hl
    go_enter Try.func106, Try.ntmps106
    go_wp2_with fail
    go_ret
    exact rstands_no hh (Ext.refl w)
  · have hd8 : decide ((len : Int) - off < 8) = false := by simp; omega
    obtain ⟨b, o, rfl, hcell⟩ := hb.at (by omega)
    have c0 : w.cell? ⟨b, o + off, none⟩ = some (.int .u8 (nb (l.drop off) 0)) := by rw [hcell off (by omega), ← nb_drop]; rfl
    have c1 : w.cell? ⟨b, o + (off + 1), none⟩ = some (.int .u8 (nb (l.drop off) 1)) := by rw [hcell (off + 1) (by omega), ← nb_drop]
    have c2 : w.cell? ⟨b, o + (off + 2), none⟩ = some (.int .u8 (nb (l.drop off) 2)) := by rw [hcell (off + 2) (by omega), ← nb_drop]
    have c3 : w.cell? ⟨b, o + (off + 3), none⟩ = some (.int .u8 (nb (l.drop off) 3)) := by rw [hcell (off + 3) (by omega), ← nb_drop]
    have hdl : (l.drop off).length = len - off := by simp [hl]
    have Hcell := Lib.hid hcell
    clear hcell hl
    have B8 := hb
    have Hdrop : Hid (∀ k, nb l (off + k) = nb (l.drop off) k) := Lib.hid (nb_drop l off)
    have Hsub : Hid (∀ k n, (l.drop (off + k)).take n = ((l.drop off).drop k).take n) := Lib.hid (fun k n => by rw [List.drop_drop])
    generalize l.drop off = d at *
    have r0 := nb_rng d 0
    have r1 := nb_rng d 1
    have r2 := nb_rng d 2
    have r3 := nb_rng d 3
    by_cases hm0 : nb d 0 = 165
    · by_cases hm1 : nb d 1 = 90
      · have m0 : (nb d 0 != 165) = false := by simp [hm0]
        have m1 : (nb d 1 != 90) = false := by simp [hm1]
        have hn0 : nn d 0 = 165 := by rw [nb_nn] at hm0; omega
        have hn1 : nn d 1 = 90 := by rw [nb_nn] at hm1; omega
        clear hm0 hm1
        have o2 := n2_sum d
        by_cases hna : n2 d ≤ 4000
        · by_cases hnb : off + 8 + n2 d ≤ len
          · have hh : hd4 d := ⟨by omega, hn0, hn1, hna, by omega⟩
            have t1 : decide ((4000 : Int) < n2 d) = false := by simp; omega
            have t2 : decide ((len : Int) - off - 8 < n2 d) = false := by simp; omega
            have Hn0 := Lib.hid hn0
            have Hn1 := Lib.hid hn1
            have Hdl := Lib.hid hdl
            clear hn0 hn1 hdl
            have k1 : (off : Int) + 2 < len := by omega
            have k2 : (off : Int) + 3 < len := by omega
            have BS := hb.sub (off + 8) (n2 d) (by omega) (a' := if cap = off + 8 then some ⟨b, o, none⟩ else some ⟨b, o + (off + 8), none⟩) (fun b' o' e h => cut_addr e (by omega))
            rw [Hsub.out] at BS
            have hfi := frame_iff hh
            have Hfi := Lib.hid hfi
            have hbl : (List.take (n2 d) (List.drop 8 d)).length = n2 d := BS.leng
            have Hbl := Lib.hid hbl
            clear hfi hbl
            generalize List.take (n2 d) (List.drop 8 d) = body at *
            go_enter Try.func106, Try.ntmps106
            go_wp2_with fail
            go_quiet (fail)
            have hE0 := (Ext.refl w).drN nq
            go_wp2_with (go_at_call 34; go_loud (refine (rframe_any _ _ _ _ _ (BS.drewN _) (by omega) (by split <;> simp)).mono ?_); rintro e w1 ⟨a1, c1, rfl, O1, E1⟩; rw [Hbl.out] at O1 ⊢; generalize (if cap = off + 8 then some (⟨b, o, none⟩ : Addr) else some ⟨b, o + (off + 8), none⟩) = ax)
            have hE1 := hE0.tr E1
            clear E1 hE0
            go_loopw [64] (fun i wr => ∃ k : Nat, k ≤ 8 + n2 d ∧ i = .int .i64 k ∧ (∃ m, wr = w1.drewN m) ∧ Hid (∀ j, j < k → nb d j = nb (frameOf body) j)) (fun i _ => 8 + n2 d - (intOf i).toNat)
            case atStart => exact ⟨0, Nat.zero_le _, rfl, ⟨0, rfl⟩, Lib.hid (fun j hj => by omega)⟩
            case round =>
              obtain ⟨k, hk, rfl, ⟨m, rfl⟩, Hk⟩ := hrel
              by_cases hlt : k < 8 + n2 d
              · have g1 : w1.cell? ⟨b, o + (off + k), none⟩ = some (.int .u8 (nb d k)) := by
                  rw [← Hdrop.out]; exact hE1.cell (Hcell.out (off + k) (by omega))
                obtain ⟨b2, o2', e2, g2⟩ := O1.bs.cell k hlt
                subst e2
                have q1 : (off : Int) + k < len := by omega
                have q2 : (0 : Int) ≤ (off : Int) + k := by omega
                have q3 : IntKind.i64.wrap ((off : Int) + k) = (off : Int) + k := IntWalk.i64_in _ (by omega)
                have q4 : ((off : Int) + k).toNat = off + k := by omega
                have q5 : (k : Int) < 8 + (n2 d : Int) := by omega
                by_cases heq : nb d k = nb (frameOf body) k
                · have t3 : (nb d k != nb (frameOf body) k) = false := by simp [heq]
                  have Heq := Lib.hid heq
                  clear heq
                  go_wp2_with fail
                  go_quiet (fail)
                  clear q1 q2 q3 q4 q5
                  go_wp2_with fail
                  go_roundw
                  case rel => exact ⟨k + 1, by omega, by go_num, ⟨_, rfl⟩, Lib.hid (fun j hj => by
                    by_cases e : j = k
                    · subst e; exact Heq.out
                    · exact Hk.out j (by omega))⟩
                  case measure => simp [intOf]; omega
                · have t3 : (nb d k != nb (frameOf body) k) = true := by simp [heq]
                  have hno : stb d = false := stb_ne (fun e => take_ne d (frameOf body) (8 + n2 d) k hlt heq (Hfi.out.2 e))
                  clear heq
                  go_wp2_with fail
                  go_quiet (fail)
                  clear q1 q2 q3 q4 q5
                  go_wp2_with fail
                  go_ret
                  exact rstands_no hno ((hE1.drN _).drN _)
              · have hyes : stb d = true := stb_of hh (Hfi.out.1 (take_eq d (frameOf body) (8 + n2 d) (by rw [Hdl.out]; omega) (by rw [frameOf_len, Hbl.out]) (fun j hj => Hk.out j (by omega))))
                go_wp2_with fail
                go_ret
                refine ⟨?_, hE1.drN _⟩
                rw [st_yes hyes]
                simp
          · have hno : stb d = false := stb_not (by unfold hd4; omega)
            have t1 : decide ((4000 : Int) < n2 d) = false := by simp; omega
            have t2 : decide ((len : Int) - off - 8 < n2 d) = true := by simp; omega
            have Hx := Lib.hid (And.intro hn0 (And.intro hn1 hdl))
            clear hn0 hn1 hdl
            have k1 : (off : Int) + 2 < len := by omega
            have k2 : (off : Int) + 3 < len := by omega
            go_enter Try.func106, Try.ntmps106
            go_wp2_with fail
            go_quiet (fail)
            go_wp2_with fail
            go_ret
            exact rstands_no hno ((Ext.refl w).drN _)
        · have hno : stb d = false := stb_not (by unfold hd4; omega)
          have t1 : decide ((4000 : Int) < n2 d) = true := by simp; omega
          have Hx := Lib.hid (And.intro hn0 (And.intro hn1 hdl))
          clear hn0 hn1 hdl
          have k1 : (off : Int) + 2 < len := by omega
          have k2 : (off : Int) + 3 < len := by omega
          go_enter Try.func106, Try.ntmps106
          go_wp2_with fail
          go_quiet (fail)
          go_wp2_with fail
          go_ret
          exact rstands_no hno ((Ext.refl w).drN _)
      · have hno : stb d = false := stb_not (by unfold hd4; rw [nb_nn] at hm1; omega)
        have m0 : (nb d 0 != 165) = false := by simp [hm0]
        have m1 : (nb d 1 != 90) = true := by simp [hm1]
        have Hx := Lib.hid (And.intro hm0 (And.intro hm1 hdl))
        clear hm0 hm1 hdl
        go_enter Try.func106, Try.ntmps106
        go_wp2_with fail
        go_ret
        exact rstands_no hno (Ext.refl w)
    · have hno : stb d = false := stb_not (by unfold hd4; rw [nb_nn] at hm0; omega)
      have m0 : (nb d 0 != 165) = true := by simp [hm0]
      have Hx := Lib.hid (And.intro hm0 hdl)
      clear hm0 hdl
      go_enter Try.func106, Try.ntmps106
      go_wp2_with fail
      go_ret
      exact rstands_no hno (Ext.refl w)
end Go.Proofs.Ytknllmcpogoeoaa
