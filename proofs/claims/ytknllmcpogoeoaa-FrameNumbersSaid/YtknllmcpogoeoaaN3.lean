/- Layer 1 walked: byte strings. -/
import Derived.Test.YtknllmcpogoeoaaN2
import Derived.Test.YtknllmcpogoeoaaLf
namespace Go.Proofs.Ytknllmcpogoeoaa
open Go.RowKit
set_option linter.unusedVariables false
set_option linter.unusedSimpArgs false
theorem rdB_neg {l : List UInt8} {most : Int} (h : most < 0) : rdB l most = ⟨1, [], 0⟩ := by unfold rdB; rw [if_pos h]
theorem rdB_none {l : List UInt8} {most : Int} (h : ¬ most < 0) (hu : rdU l = none) : rdB l most = ⟨6, [], 0⟩ := by unfold rdB; rw [if_neg h, hu]
theorem rdB_some {l : List UInt8} {most : Int} (h : ¬ most < 0) {v n : Nat} (hu : rdU l = some (v, n)) :
    rdB l most = if most < (v : Int) then ⟨3, [], 0⟩ else if l.length - n < v then ⟨6, [], 0⟩ else ⟨0, (l.drop n).take v, n + v⟩ := by unfold rdB; rw [if_neg h, hu]
def BPost (r : RdB) (w : World) (e : Ending) (w' : World) : Prop :=
  ∃ a c, e = .returned (.tuple #[.slice a r.body.length c, .int .i64 (r.used : Int), .int .i64 (r.err : Int)]) ∧ Ow w' w.heap.size a r.body.length c r.body ∧ Ext w w'
theorem bpost_bad {r : RdB} {k : Nat} (h : r = ⟨k, [], 0⟩) (w : World) (i : Int) (hi : i = (k : Int)) : BPost r w (.returned (.tuple #[.slice none 0 0, .int .i64 0, .int .i64 i])) w := by
  subst h hi
  exact ⟨none, 0, rfl, World.ownsRow_nil _ _ _ _, Ext.refl w⟩
set_option maxRecDepth 100000 in
set_option maxHeartbeats 1600000 in
theorem bytes_any (a : Option Addr) (n c : Nat) (l : List UInt8) (most : Int) (w : World) (hb : Bs w a n l) (hn : n ≤ 140737488351232) (hc : n ≤ c) (hz : a = none → c = 0) (h1 : -9223372036854775808 ≤ most) (h2 : most ≤ 9223372036854775807) :
    Calls Try.prog 74 #[.slice a n c, .int .i64 most] w (BPost (rdB l most) w) := by
  have hl := hb.leng
  by_cases hm : most < 0
  · have q1 : decide (most < 0) = true := by simp; omega
    have hr := rdB_neg (l := l) hm
    have Hr := Lib.hid hr
    clear hr
    go_enter Try.func74, Try.ntmps74
    go_wp2
    go_ret3
    exact bpost_bad Hr.out w _ rfl
  have q1 : decide (most < 0) = false := by simp; omega
  have hm0 : 0 ≤ most := by omega
  cases hu : rdU l with
  | none =>
    have hr := rdB_none hm hu
    have Hr := Lib.hid hr
    have ev : uVal l = 0 := by unfold uVal; rw [hu]
    have en : uLen l = 0 := by unfold uLen; rw [hu]
    have ee : uErr l = 6 := by unfold uErr; rw [hu]
    clear hr hu
    go_enter Try.func74, Try.ntmps74
    go_wp2_with (go_at_call 48; refine (uint_any a n c l w hb hn).mono ?_; rintro e w1 ⟨rfl, rfl⟩; rw [ev, en, ee])
    go_ret3
    exact bpost_bad Hr.out _ _ rfl
  | some p =>
    obtain ⟨v, u⟩ := p
    have hr := rdB_some hm hu
    have Hu := Lib.hid hu
    have hform := rdU_form hu
    have hvlt : v < 18446744073709551616 := hform.2.2.2.1
    have hul : u ≤ n := by omega
    have ev : uVal l = v := by unfold uVal; rw [hu]
    have en : uLen l = u := by unfold uLen; rw [hu]
    have ee : uErr l = 0 := by unfold uErr; rw [hu]
    clear hu hform
    by_cases hbig : most < (v : Int)
    · rw [if_pos hbig] at hr
      have Hr := Lib.hid hr
      have q2 : decide (most < (v : Int)) = true := by simp; omega
      clear hr
      go_enter Try.func74, Try.ntmps74
      go_wp2_with (go_at_call 48; refine (uint_any a n c l w hb hn).mono ?_; rintro e w1 ⟨rfl, rfl⟩; rw [ev, en, ee])
      go_ret3
      exact bpost_bad Hr.out _ _ rfl
    · rw [if_neg hbig, hl] at hr
      have q2 : decide (most < (v : Int)) = false := by simp; omega
      by_cases hsh : n - u < v
      · rw [if_pos hsh] at hr
        have Hr := Lib.hid hr
        have q3 : decide ((n : Int) - (u : Int) < (v : Int)) = true := by simp; omega
        clear hr hl
        go_enter Try.func74, Try.ntmps74
        go_wp2_with (go_at_call 48; refine (uint_any a n c l w hb hn).mono ?_; rintro e w1 ⟨rfl, rfl⟩; rw [ev, en, ee])
        go_ret3
        exact bpost_bad Hr.out _ _ rfl
      · rw [if_neg hsh] at hr
        have q3 : decide ((n : Int) - (u : Int) < (v : Int)) = false := by simp; omega
        have hsub := hb.cutAt u (u + v) c (by omega) (by omega) hc
        rw [Nat.add_sub_cancel_left] at hsub
        have hq1 : (0 : Int) ≤ (u : Int) := by omega
        have hq2 : (u : Int) ≤ (u : Int) + (v : Int) := by omega
        have hq3 : (u : Int) + (v : Int) ≤ (c : Int) := by omega
        have hq4 : ((u : Int) + (v : Int)).toNat = u + v := by omega
        have hq5 : u + v - u = v := by omega
        have hnn : (if c = u then a else Option.map (fun x => x.add u) a) = none → c - u = 0 := by
          intro e
          by_cases hcu : c = u
          · omega
          · rw [if_neg hcu] at e
            have := hz (by simpa using e)
            omega
        have hbl := hsub.leng
        generalize (l.drop u).take v = bd at *
        have Hr := Lib.hid hr
        have Z := Ow.zero w w.heap.size rfl w.heap.size (Nat.le_refl _)
        have E0 := (Ext.refl w).al (.cells #[] 5)
        clear hr hl
        go_enter Try.func74, Try.ntmps74
        go_wp2_with (first
          | (go_at_call 48; refine (uint_any a n c l w hb hn).mono ?_; rintro e w1 ⟨rfl, rfl⟩; rw [ev, en, ee])
          | (at_builtin; refine wp_app (s := .tmp 38) (x := .tmp 42) w1.heap.size v bd rfl rfl Z (E0.bs hsub) hnn (by omega) rfl (by omega) (by simp) ?_; intro a3 c3 w3 O3 G3; have E3 := E0.app Z (Nat.le_refl _) G3))
        all_goals
          go_ret3
          rw [Hr.out]
          refine ⟨a3, c3, ?_, ?_, E3⟩
          · show _ = Ending.returned (.tuple #[.slice a3 bd.length c3, .int .i64 ((u + v : Nat) : Int), .int .i64 0])
            rw [hbl, Int.natCast_add]
            rfl
          · show Ow w3 _ a3 bd.length c3 bd
            rw [hbl]
            exact O3
def RBPost (r : RdB) (w : World) (e : Ending) (w' : World) : Prop :=
  ∃ a c, e = .returned (.tuple #[.slice a r.body.length c, .int .i64 (r.used : Int), .int .i64 (r.err : Int)]) ∧ Bs w a r.body.length r.body ∧ w' = w
theorem rbpost_bad {r : RdB} {k : Nat} (h : r = ⟨k, [], 0⟩) (w : World) (i : Int) (hi : i = (k : Int)) : RBPost r w (.returned (.tuple #[.slice none 0 0, .int .i64 0, .int .i64 i])) w := by
  subst h hi
  exact ⟨none, 0, rfl, Bs.nil _ _, rfl⟩
set_option maxRecDepth 100000 in
set_option maxHeartbeats 1600000 in
theorem rbytes_any1 (a : Option Addr) (n c : Nat) (l : List UInt8) (most : Int) (w : World) (hb : Bs w a n l) (hn : n ≤ 140737488351232) (hc : n ≤ c) (h1 : -9223372036854775808 ≤ most) (h2 : most ≤ 9223372036854775807) :
    Calls Try.prog 75 #[.slice a n c, .int .i64 most] w (RBPost (rdB l most) w) := by
  have hl := hb.leng
  by_cases hm : most < 0
  · have q1 : decide (most < 0) = true := by simp; omega
    have hr := rdB_neg (l := l) hm
    have Hr := Lib.hid hr
    clear hr
    go_enter Try.func75, Try.ntmps75
    go_wp2
    go_ret3
    exact rbpost_bad Hr.out w _ rfl
  have q1 : decide (most < 0) = false := by simp; omega
  have hm0 : 0 ≤ most := by omega
  cases hu : rdU l with
  | none =>
    have hr := rdB_none hm hu
    have Hr := Lib.hid hr
    have ev : uVal l = 0 := by unfold uVal; rw [hu]
    have en : uLen l = 0 := by unfold uLen; rw [hu]
    have ee : uErr l = 6 := by unfold uErr; rw [hu]
    clear hr hu
    go_enter Try.func75, Try.ntmps75
    go_wp2_with (go_at_call 49; refine (ruint_any a n c l w hb hn).mono ?_; rintro e w1 ⟨rfl, rfl⟩; rw [ev, en, ee])
    go_ret3
    exact rbpost_bad Hr.out _ _ rfl
  | some p =>
    obtain ⟨v, u⟩ := p
    have hr := rdB_some hm hu
    have hform := rdU_form hu
    have hvlt : v < 18446744073709551616 := hform.2.2.2.1
    have hul : u ≤ n := by omega
    have ev : uVal l = v := by unfold uVal; rw [hu]
    have en : uLen l = u := by unfold uLen; rw [hu]
    have ee : uErr l = 0 := by unfold uErr; rw [hu]
    clear hu hform
    by_cases hbig : most < (v : Int)
    · rw [if_pos hbig] at hr
      have Hr := Lib.hid hr
      have q2 : decide (most < (v : Int)) = true := by simp; omega
      clear hr
      go_enter Try.func75, Try.ntmps75
      go_wp2_with (go_at_call 49; refine (ruint_any a n c l w hb hn).mono ?_; rintro e w1 ⟨rfl, rfl⟩; rw [ev, en, ee])
      go_ret3
      exact rbpost_bad Hr.out _ _ rfl
    · rw [if_neg hbig, hl] at hr
      have q2 : decide (most < (v : Int)) = false := by simp; omega
      by_cases hsh : n - u < v
      · rw [if_pos hsh] at hr
        have Hr := Lib.hid hr
        have q3 : decide ((n : Int) - (u : Int) < (v : Int)) = true := by simp; omega
        clear hr hl
        go_enter Try.func75, Try.ntmps75
        go_wp2_with (go_at_call 49; refine (ruint_any a n c l w hb hn).mono ?_; rintro e w1 ⟨rfl, rfl⟩; rw [ev, en, ee])
        go_ret3
        exact rbpost_bad Hr.out _ _ rfl
      · rw [if_neg hsh] at hr
        have q3 : decide ((n : Int) - (u : Int) < (v : Int)) = false := by simp; omega
        have hsub := hb.cutAt u (u + v) c (by omega) (by omega) hc
        rw [Nat.add_sub_cancel_left] at hsub
        have hq1 : (0 : Int) ≤ (u : Int) := by omega
        have hq2 : (u : Int) ≤ (u : Int) + (v : Int) := by omega
        have hq3 : (u : Int) + (v : Int) ≤ (c : Int) := by omega
        have hq4 : ((u : Int) + (v : Int)).toNat = u + v := by omega
        have hq5 : u + v - u = v := by omega
        have hbl := hsub.leng
        generalize (l.drop u).take v = bd at *
        have Hr := Lib.hid hr
        have Hsub := Lib.hid hsub
        clear hr hl hsub
        go_enter Try.func75, Try.ntmps75
        go_wp2_with (go_at_call 49; refine (ruint_any a n c l w hb hn).mono ?_; rintro e w1 ⟨rfl, rfl⟩; rw [ev, en, ee])
        all_goals
          go_ret3
          rw [Hr.out]
          have hs := Hsub.out
          unfold RBPost
          dsimp only
          rw [hbl]
          by_cases hcu : c = u
          · subst hcu
            rw [if_pos rfl] at hs
            refine ⟨a, 0, ?_, hs, rfl⟩
            rw [Int.natCast_add]
            first | rfl | contradiction
          · rw [if_neg hcu] at hs
            refine ⟨_, c - u, ?_, hs, rfl⟩
            rw [Int.natCast_add]
            first | rfl | contradiction
set_option maxRecDepth 100000 in
set_option maxHeartbeats 1600000 in
theorem putBytes_any (a1 a2 : Option Addr) (n1 c1 n2 c2 : Nat) (l b : List UInt8) (w : World) (h1 : Bs w a1 n1 l) (h2 : Bs w a2 n2 b) (hz1 : a1 = none → c1 = 0) (hz2 : a2 = none → c2 = 0) (hn1 : n1 ≤ 70368744175000) (hn2 : n2 ≤ 70368744175000) :
    Calls Try.prog 76 #[.slice a1 n1 c1, .slice a2 n2 c2] w (OutPost (l ++ putB b) w) := by
  have hbl := h2.leng
  have hll := h1.leng
  have hpl := putU_len b.length (by omega)
  have hL : l ++ putU b.length ++ b = l ++ putB b := by unfold putB; rw [List.append_assoc]
  have hLn : (l ++ putB b).length = l.length + (putU b.length).length + n2 := by unfold putB; simp; omega
  have HL := Lib.hid hL
  have HLn := Lib.hid hLn
  clear hL hLn
  rw [hbl] at hpl
  go_enter Try.func76, Try.ntmps76
  go_wp2_with (first
    | (go_at_call 107; refine (put_any w.heap.size _ _ _ l n2 w2 O2 (by omega) (by omega) E2.sz).mono ?_; rintro e w3 ⟨a3, c3, rfl, O3, E3⟩; rw [List.length_append, hll] at O3; have E23 : Ext w w3 := Below.trans E2 E3)
    | (refine wp_make w.heap.size (n1 + 10 + n2) rfl rfl (by omega) (by omega) (Nat.le_refl _) ?_; intro w1 O1 G1; have E1 := (Ext.refl w).grown G1 (fun k e => by cases e))
    | (at_builtin; refine wp_app (s := .tmp 13) (x := .tmp 14) w.heap.size n1 l rfl rfl O1 (E1.bs h1) hz1 (by omega) (by simp) (by omega) E1.sz ?_; intro a2' c2' w2 O2 G2; have E2 := E1.app O1 (Nat.le_refl _) G2)
    | (at_builtin; refine wp_app (s := .tmp 20) (x := .tmp 21) w.heap.size (n1 + (putU n2).length + n2) (l ++ putU n2 ++ b) rfl rfl O3 (E23.bs h2) hz2 (by rfl) rfl (by omega) E23.sz ?_; intro a4 c4 w4 O4 G4; have E4 := E23.app O3 (Nat.le_refl _) G4))
  go_ret
  have e : l ++ putU n2 ++ b = l ++ putB b := by rw [← hbl]; exact HL.out
  have e2 : n1 + (putU n2).length + n2 = (l ++ putB b).length := by rw [← e]; simp; omega
  rw [e, e2] at O4
  exact ⟨a4, c4, by rw [← e2]; rfl, O4, E4⟩
end Go.Proofs.Ytknllmcpogoeoaa
