/- rootcauseref03.Scan, walked. -/
import Derived.Test.YtknllmcpogoeoaaFr4
import Derived.Test.YtknllmcpogoeoaaSc
namespace Go.Proofs.Ytknllmcpogoeoaa
open Go.RowKit
set_option linter.unusedVariables false
set_option linter.unusedSimpArgs false
theorem rstands_at (a : Option Addr) (len cap off : Nat) (io : Int) (l : List UInt8) (w : World) (hio : io = (off : Int)) (hb : Bs w a len l) (hm : len ≤ 140737488355328) (hc : len ≤ cap) (ho : off ≤ len) :
    Calls Try.prog 106 #[.slice a len cap, .int .i64 io] w (RStandsPost (l.drop off) w) := by
  subst hio; exact rstands_any a len cap off l w hb hm hc ho
def RScanPost (l : List UInt8) (w : World) (e : Ending) (w' : World) : Prop :=
  ∃ a c rows, e = .returned (.slice a rows.length c) ∧ Prow 173 w' w.heap.size a c rows ∧ rows.map (·.2) = scanP 0 l ∧ Ext w w'
def RScanRel (l : List UInt8) (w : World) (len : Nat) (v i : Value) (wr : World) : Prop :=
  ∃ (k : Nat) (rows : List (Value × PartS)) (a : Option Addr) (c : Nat), k ≤ len ∧ i = .int .i64 (k : Int) ∧ v = .slice a rows.length c ∧ Prow 173 wr w.heap.size a c rows ∧ Ext w wr ∧ rows.map (·.2) ++ scanP k (l.drop k) = scanP 0 l ∧ rows.length ≤ k
set_option maxHeartbeats 1600000 in
theorem rscan_any (a : Option Addr) (len cap : Nat) (l : List UInt8) (w : World) (hb : Bs w a len l) (hm : len ≤ 1099511627776) (hc : len ≤ cap) :
    Calls Try.prog 37 #[.slice a len cap] w (RScanPost l w) := by
  have hl := hb.leng
  have Hl := Lib.hid hl
  clear hl
  go_enter Try.func37, Try.ntmps37
  go_wp2
  go_loopw [3, 4] (fun v i wr => RScanRel l w len v i wr) (fun _ i _ => len - (intOf i).toNat)
  case atStart => exact ⟨0, [], none, 0, Nat.zero_le _, rfl, rfl, Prow.nil _ _ _, Ext.refl w, rfl, Nat.le_refl _⟩
  case round =>
    obtain ⟨k, rows, a1, c1, hk, rfl, rfl, hP, hE, hrows, hrl⟩ := hrel
    have Hrows := Lib.hid hrows
    clear hrows
    by_cases hlt : k < len
    · obtain ⟨b, o, rfl, hcell⟩ := hb.at (by omega)
      clear hcell
      have hst : Hid (st (l.drop k) ≤ len - k) := Lib.hid (by have := st_le (l.drop k); rw [List.length_drop, Hl.out] at this; exact this)
      by_cases hs : stb (l.drop k) = true
      · have e8 := st_yes hs
        have hgood := Lib.hid (scanP_good (off := k) hs)
        have h8 : 8 ≤ st (l.drop k) := by omega
        have hs2 : k + st (l.drop k) ≤ len := by have := hst.out; omega
        have hn2 : Hid (n2 (l.drop k) = st (l.drop k) - 8) := Lib.hid (by omega)
        have Hbody := fun a' => hb.sub (k + 8) (st (l.drop k) - 8) (by omega) (a' := a')
        clear e8 hs
        go_wp2_with (first
          | (go_at_call 106; refine (rstands_any _ _ _ _ _ _ (hE.bs hb) (by omega) hc (by omega)).mono ?_; rintro e w1 ⟨rfl, E1⟩; generalize st (List.drop k l) = s at *; have P1 := hP.ext E1; have E01 := hE.tr E1; have Z := Ow.zero w1 w1.heap.size rfl w1.heap.size (Nat.le_refl _))
          | (at_builtin; refine wp_app (s := .tmp 19) (x := .tmp 26) w1.heap.size (r := (l.drop (k + 8)).take (s - 8)) (s - 8) ((l.drop (k + 8)).take (s - 8)) rfl rfl Z (by rw [show k + s - (k + 8) = s - 8 by omega]; exact ((E01.al _).bs (Hbody _ (fun b' o' e h => cut_addr e (by omega))))) (by split <;> simp) (by omega) rfl (by omega) (by simp) ?_; intro a2 c2 w2 O2 G2; have E12 := ((Ext.refl w1).al (.cells #[] 5)).app Z (Nat.le_refl _) G2; have P2 := P1.ext E12; have E2 := E01.tr E12)
          | (at_builtin; refine wp_appE el32 (s := .tmp 16) (x := .tmp 29) w.heap.size (pcells (.slice a2 (s - 8) c2, ⟨k, s, (l.drop (k + 8)).take (s - 8), true⟩)) (rows.length + 1) rfl rfl (row_al P2.1 _) rfl (news_at w2 _ rfl _ 173) (by simp [pcells, Value.oneCell']) rfl (by omega) (by omega) (by have := E2.sz; simp <;> omega) (by omega) ?_; intro g3 c3 w3 O3 G3; have P3 := (P2.ext ((Ext.refl w2).al (.cells (pcells (.slice a2 (s - 8) c2, ⟨k, s, (l.drop (k + 8)).take (s - 8), true⟩)).toArray 173))).snoc (by decide) ⟨a2, s - 8, c2, rfl, row_mono (row_al O2 _) E01.sz⟩ G3 O3; have E3 := (E2.al _).app (row_al P2.1 _) (Nat.le_refl _) G3; clear Hbody Z G2 O2 P1 P2 E1 E12 E2 G3 O3))
        go_roundw
        case rel =>
          refine ⟨k + s, _, _, c3, hs2, by go_num, by simp, P3, E3, ?_, by simp; omega⟩
          rw [← Hrows.out, hgood.out, hn2.out]
          simp [List.drop_drop]
        case measure => simp [intOf]; omega
      · have hs0 : stb (l.drop k) = false := by simpa using hs
        have hst0 := st_no hs0
        have Hs0 := Lib.hid hs0
        have Hne : Hid (l.drop k ≠ []) := Lib.hid (fun e => by have := congrArg List.length e; rw [List.length_drop, Hl.out] at this; simp at this; omega)
        clear hs hs0
        go_wp2_with (go_at_call 106; refine (rstands_any _ _ _ _ _ _ (hE.bs hb) (by omega) hc (by omega)).mono ?_; rintro e w1 ⟨rfl, E1⟩; rw [hst0]; clear hst0; have P1 := hP.ext E1; have E01 := hE.tr E1)
        clear E1 hP
        go_loopw [4] (fun i wr => ∃ n : Nat, 1 ≤ n ∧ k + n ≤ len ∧ i = .int .i64 ((k : Int) + n) ∧ Ext w1 wr ∧ Hid (∀ m, m < n → stb ((l.drop k).drop m) = false)) (fun i _ => len - (intOf i).toNat)
        case atStart => exact ⟨1, by omega, by omega, rfl, Ext.refl _, Lib.hid (fun m hm => by rw [show m = 0 by omega]; exact Hs0.out)⟩
        case round =>
          obtain ⟨n, hn1, hn2, rfl, E2, Hn⟩ := hrel
          rename World => wr2
          have P2 := P1.ext E2
          have hkn : (k : Int) + (n : Int) - (k : Int) = (n : Int) := by omega
          have E02 := E01.tr E2
          by_cases hj : k + n < len
          · by_cases hsj : stb (l.drop (k + n)) = true
            · have hpos : st (l.drop (k + n)) ≠ 0 := by rw [st_yes hsj]; omega
              have hjunk : Hid (junk (l.drop k) = n) := Lib.hid (junk_eq _ n (by rw [List.length_drop, Hl.out]; omega) Hn.out (.inr (by rw [List.drop_drop]; exact hsj)))
              have Hsj := Lib.hid hsj
              clear hsj
              have ht : ((st (l.drop (k + n)) : Int) == 0) = false := by simpa using hpos
              clear hpos
              go_wp2_with (first
                | (go_at_call 106; refine (rstands_at _ _ _ (k + n) _ _ _ (by omega) (E02.bs hb) (by omega) hc (by omega)).mono ?_; rintro e w2 ⟨rfl, E4⟩; have P2 := P2.ext E4; have E02 := E02.tr E4)
                | (at_builtin; refine wp_appE el32 (s := .tmp 49) (x := .tmp 55) w.heap.size (pcells (.slice none 0 0, ⟨k, n, [], false⟩)) (rows.length + 1) rfl rfl (row_al P2.1 _) rfl (news_at w2 _ rfl _ 173) (by simp [pcells, Value.oneCell']) rfl (by omega) (by omega) (by have := E02.sz; simp <;> omega) (by omega) ?_; intro g3 c3 w3 O3 G3; have P3 := (P2.ext ((Ext.refl w2).al (.cells (pcells (.slice none 0 0, ⟨k, n, [], false⟩)).toArray 173))).snoc (by decide) ⟨none, 0, 0, rfl, World.ownsRow_nil _ _ _ _⟩ G3 O3; have E3 := (E02.al _).app (row_al P2.1 _) (Nat.le_refl _) G3; clear P1 P2 E2 E02 E01 G3 O3))
              go_roundw
              case rel =>
                refine ⟨k + n, _, _, c3, hn2, by go_num, by simp, P3, E3, ?_, by simp; omega⟩
                rw [← Hrows.out, scanP_bad (Hne.out) Hs0.out, hjunk.out]
                simp [List.drop_drop]
              case measure => simp [intOf]; omega
            · have hsj0 : stb (l.drop (k + n)) = false := by simpa using hsj
              have hst1 := st_no hsj0
              have Hsj := Lib.hid hsj0
              clear hsj hsj0
              go_wp2_with (go_at_call 106; refine (rstands_at _ _ _ (k + n) _ _ _ (by omega) (E02.bs hb) (by omega) hc (by omega)).mono ?_; rintro e w2 ⟨rfl, E4⟩; rw [hst1]; clear hst1; have E5 := E2.tr E4)
              go_roundw
              case rel => exact ⟨n + 1, by omega, by omega, by go_num, E5, Lib.hid (fun m hm => by
                by_cases e : m = n
                · rw [e, List.drop_drop]; exact Hsj.out
                · exact Hn.out m (by omega))⟩
              case measure => simp [intOf]; omega
          · have hjunk : Hid (junk (l.drop k) = n) := Lib.hid (junk_eq _ n (by rw [List.length_drop, Hl.out]; omega) Hn.out (.inl (by rw [List.length_drop, Hl.out]; omega)))
            go_wp2_with (first
              | (go_at_call 106; refine (rstands_at _ _ _ (k + n) _ _ _ (by omega) (E02.bs hb) (by omega) hc (by omega)).mono ?_; rintro e w2 ⟨rfl, E4⟩)
              | (at_builtin; refine wp_appE el32 (s := .tmp 49) (x := .tmp 55) w.heap.size (pcells (.slice none 0 0, ⟨k, n, [], false⟩)) (rows.length + 1) rfl rfl (row_al P2.1 _) rfl (news_at wr2 _ rfl _ 173) (by simp [pcells, Value.oneCell']) rfl (by omega) (by omega) (by have := E02.sz; simp <;> omega) (by omega) ?_; intro g3 c3 w3 O3 G3; have P3 := (P2.ext ((Ext.refl wr2).al (.cells (pcells (.slice none 0 0, ⟨k, n, [], false⟩)).toArray 173))).snoc (by decide) ⟨none, 0, 0, rfl, World.ownsRow_nil _ _ _ _⟩ G3 O3; have E3 := (E02.al _).app (row_al P2.1 _) (Nat.le_refl _) G3; clear P1 P2 E2 E02 E01 G3 O3))
            go_roundw
            case rel =>
              refine ⟨k + n, _, _, c3, hn2, by go_num, by simp, P3, E3, ?_, by simp; omega⟩
              rw [← Hrows.out, scanP_bad (Hne.out) Hs0.out, hjunk.out]
              simp [List.drop_drop]
            case measure => simp [intOf]; omega
    · go_wp2
      go_ret
      refine ⟨a1, c1, rows, rfl, hP, ?_, hE⟩
      rw [← Hrows.out, show k = len by omega, show l.drop len = [] by rw [List.drop_eq_nil_of_le]; rw [Hl.out]; omega]
      simp [scanP_nil]
end Go.Proofs.Ytknllmcpogoeoaa
