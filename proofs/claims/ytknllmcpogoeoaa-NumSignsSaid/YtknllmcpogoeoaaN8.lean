/- NumSigns, NumBytes, walked. -/
import Derived.Test.YtknllmcpogoeoaaN5
import Derived.Test.YtknllmcpogoeoaaRw
namespace Go.Proofs.Ytknllmcpogoeoaa
open Go.RowKit
set_option linter.unusedVariables false
set_option linter.unusedSimpArgs false
set_option maxRecDepth 100000 in
set_option maxHeartbeats 1600000 in
theorem numSigns_any (a : Option Addr) (n c : Nat) (l : List UInt8) (v : Int) (u : Nat) (w : World) (hb : Bs w a n l) (hn : n ≤ 140737488351232) (hz : a = none → c = 0) (h1 : -9223372036854775808 ≤ v) (h2 : v ≤ 9223372036854775807) (hu : u < 18446744073709551616) :
    Calls Try.prog 15 #[.slice a n c, .int .i64 v, .int .u64 (u : Int)] w (fun e w' => e = .returned (.bool true) ∧ Ext w w') := by
  have hl := hb.leng
  subst hl
  have hzl := zz_lt v h1 h2
  have hzl : zz v < 18446744073709551616 := hzl
  obtain ⟨hr1, hr2⟩ := uz_rng u hu
  have hpl := putU_len (zz v) hzl
  cases hrd : rdU l with
  | none =>
    obtain ⟨ev, en, ee⟩ := uvals0 hrd
    clear hrd
    go_enter Try.func15, Try.ntmps15
    go_wp2_with fail
    refine (awake1_any w).mono ?_
    rintro e w1 ⟨rfl, E1⟩
    have hb1 := E1.bs hb
    go_wp2_with fail
    refine (zigzag_any v _ h1 h2).mono ?_
    rintro e w' ⟨rfl, rfl⟩
    go_wp2_with fail
    refine (rzigzag_any v _ h1 h2).mono ?_
    rintro e w' ⟨rfl, rfl⟩
    go_wp2_with fail
    refine (unzigzag_any u _ hu).mono ?_
    rintro e w' ⟨rfl, rfl⟩
    go_wp2_with fail
    refine (runzigzag_any u _ hu).mono ?_
    rintro e w' ⟨rfl, rfl⟩
    go_wp2_with fail
    refine (zigzag_any v _ h1 h2).mono ?_
    rintro e w' ⟨rfl, rfl⟩
    go_wp2_with fail
    refine (unzigzag_any (zz v) _ hzl).mono ?_
    rintro e w' ⟨rfl, rfl⟩
    rw [uz_zz]
    go_wp2_with fail
    refine (unzigzag_any u _ hu).mono ?_
    rintro e w' ⟨rfl, rfl⟩
    go_wp2_with fail
    refine (zigzag_any (uz u) _ hr1 hr2).mono ?_
    rintro e w' ⟨rfl, rfl⟩
    rw [zz_uz]
    go_wp2_with fail
    refine (int_any a l.length c l _ hb1 (by omega)).mono ?_
    rintro e w' ⟨rfl, rfl⟩
    rw [ev, en, ee, show uz 0 = 0 from rfl]
    go_wp2_with fail
    refine (ruint_any a l.length c l _ hb1 (by omega)).mono ?_
    rintro e w' ⟨rfl, rfl⟩
    rw [ev, en, ee]
    go_wp2_with fail
    refine (putInt_any a l.length c l v _ hb1 hz h1 h2 (by omega)).mono ?_
    rintro e w2 ⟨a2, c2, rfl, O2, E2⟩
    have hb2 := E2.bs hb1
    have Z := Ow.zero w2 w2.heap.size rfl w2.heap.size (Nat.le_refl _)
    have EZ := (Ext.refl w2).al (.cells #[] 5)
    rw [List.length_append] at O2 ⊢
    go_wp2_with (first
      | (at_builtin; refine wp_appW (s := .tmp 85) (x := .tmp 86) w2.heap.size l.length l rfl rfl rfl Z (EZ.bs hb2) hz (by omega) rfl (by omega) (by simp) ?_; intro a3 c3 w3 O3 G3; have E3 := EZ.app Z (Nat.le_refl _) G3)
      | (go_at_call 60; refine (rzigzag_any v _ h1 h2).mono ?_; rintro e w' ⟨rfl, rfl⟩)
      | (go_at_call 47; refine (rput_any (zz v) w3 hzl).mono ?_; rintro e w4 ⟨a4, c4, rfl, O4, E4⟩; have O3' := E4.row O3)
      | (at_builtin; refine wp_appW (s := .tmp 87) (x := .tmp 90) w2.heap.size (l.length + (putU (zz v)).length) (l ++ putU (zz v)) rfl rfl rfl O3' O4.bs O4.cap.2 rfl rfl (by omega) (by have := E3.sz; have := E4.sz; omega) ?_; intro a5 c5 w5 O5 G5; have E5 := (E3.tr E4).app O3' (Nat.le_refl _) G5)
      | (go_at_call 45; refine (same1_any a2 _ c2 a5 _ c5 (l ++ putU (zz v)) (l ++ putU (zz v)) w5 (E5.bs O2.bs) O5.bs (by omega)).mono ?_; rintro e w6 ⟨rfl, E6⟩; rw [decide_eq_true rfl]))
    go_ret
    exact ⟨rfl, ((E1.tr E2).tr E5).tr E6⟩
  | some p =>
    obtain ⟨y, k⟩ := p
    obtain ⟨ev, en, ee⟩ := uvals hrd
    have hyl : y < 18446744073709551616 := (rdU_form hrd).2.2.2.1
    clear hrd
    go_enter Try.func15, Try.ntmps15
    go_wp2_with fail
    refine (awake1_any w).mono ?_
    rintro e w1 ⟨rfl, E1⟩
    have hb1 := E1.bs hb
    go_wp2_with fail
    refine (zigzag_any v _ h1 h2).mono ?_
    rintro e w' ⟨rfl, rfl⟩
    go_wp2_with fail
    refine (rzigzag_any v _ h1 h2).mono ?_
    rintro e w' ⟨rfl, rfl⟩
    go_wp2_with fail
    refine (unzigzag_any u _ hu).mono ?_
    rintro e w' ⟨rfl, rfl⟩
    go_wp2_with fail
    refine (runzigzag_any u _ hu).mono ?_
    rintro e w' ⟨rfl, rfl⟩
    go_wp2_with fail
    refine (zigzag_any v _ h1 h2).mono ?_
    rintro e w' ⟨rfl, rfl⟩
    go_wp2_with fail
    refine (unzigzag_any (zz v) _ hzl).mono ?_
    rintro e w' ⟨rfl, rfl⟩
    rw [uz_zz]
    go_wp2_with fail
    refine (unzigzag_any u _ hu).mono ?_
    rintro e w' ⟨rfl, rfl⟩
    go_wp2_with fail
    refine (zigzag_any (uz u) _ hr1 hr2).mono ?_
    rintro e w' ⟨rfl, rfl⟩
    rw [zz_uz]
    go_wp2_with fail
    refine (int_any a l.length c l _ hb1 (by omega)).mono ?_
    rintro e w' ⟨rfl, rfl⟩
    rw [ev, en, ee]
    go_wp2_with fail
    refine (ruint_any a l.length c l _ hb1 (by omega)).mono ?_
    rintro e w' ⟨rfl, rfl⟩
    rw [ev, en, ee]
    go_wp2_with fail
    refine (runzigzag_any y _ hyl).mono ?_
    rintro e w' ⟨rfl, rfl⟩
    go_wp2_with fail
    refine (putInt_any a l.length c l v _ hb1 hz h1 h2 (by omega)).mono ?_
    rintro e w2 ⟨a2, c2, rfl, O2, E2⟩
    have hb2 := E2.bs hb1
    have Z := Ow.zero w2 w2.heap.size rfl w2.heap.size (Nat.le_refl _)
    have EZ := (Ext.refl w2).al (.cells #[] 5)
    rw [List.length_append] at O2 ⊢
    go_wp2_with (first
      | (at_builtin; refine wp_appW (s := .tmp 85) (x := .tmp 86) w2.heap.size l.length l rfl rfl rfl Z (EZ.bs hb2) hz (by omega) rfl (by omega) (by simp) ?_; intro a3 c3 w3 O3 G3; have E3 := EZ.app Z (Nat.le_refl _) G3)
      | (go_at_call 60; refine (rzigzag_any v _ h1 h2).mono ?_; rintro e w' ⟨rfl, rfl⟩)
      | (go_at_call 47; refine (rput_any (zz v) w3 hzl).mono ?_; rintro e w4 ⟨a4, c4, rfl, O4, E4⟩; have O3' := E4.row O3)
      | (at_builtin; refine wp_appW (s := .tmp 87) (x := .tmp 90) w2.heap.size (l.length + (putU (zz v)).length) (l ++ putU (zz v)) rfl rfl rfl O3' O4.bs O4.cap.2 rfl rfl (by omega) (by have := E3.sz; have := E4.sz; omega) ?_; intro a5 c5 w5 O5 G5; have E5 := (E3.tr E4).app O3' (Nat.le_refl _) G5)
      | (go_at_call 45; refine (same1_any a2 _ c2 a5 _ c5 (l ++ putU (zz v)) (l ++ putU (zz v)) w5 (E5.bs O2.bs) O5.bs (by omega)).mono ?_; rintro e w6 ⟨rfl, E6⟩; rw [decide_eq_true rfl]))
    go_ret
    exact ⟨rfl, ((E1.tr E2).tr E5).tr E6⟩
end Go.Proofs.Ytknllmcpogoeoaa
