/- NumOnce, walked. -/
import Derived.Test.YtknllmcpogoeoaaN5
import Derived.Test.YtknllmcpogoeoaaRw
namespace Go.Proofs.Ytknllmcpogoeoaa
open Go.RowKit
set_option linter.unusedVariables false
set_option linter.unusedSimpArgs false
set_option maxRecDepth 100000 in
set_option maxHeartbeats 1600000 in
theorem numOnce_any (a : Option Addr) (n c : Nat) (l : List UInt8) (x y : Nat) (w : World) (hb : Bs w a n l) (hn : n ≤ 140737488351232) (hc : n ≤ c) (hz : a = none → c = 0) (hx : x < 18446744073709551616) (hy : y < 18446744073709551616) :
    Calls Try.prog 14 #[.slice a n c, .int .u64 (x : Int), .int .u64 (y : Int)] w (fun e w' => e = .returned (.bool true) ∧ Ext w w') := by
  have hl := hb.leng
  have hxl := putU_len x hx
  have hyl := putU_len y hy
  have hinj : decide (putU x = putU y) = decide (x = y) := by
    rw [decide_eq_decide]
    exact ⟨putU_inj hx hy, fun e => by rw [e]⟩
  have hmono : x ≤ y → (putU x).length ≤ (putU y).length := putU_mono x y
  have Hinj := Lib.hid hinj
  have Hmono := Lib.hid hmono
  clear hinj hmono
  have key : ∀ w1 : World, Ext w w1 → True := fun _ _ => trivial
  cases hu : rdU l with
  | none =>
    obtain ⟨ev, en, ee⟩ := uvals0 hu
    clear hu
    go_enter Try.func14, Try.ntmps14
    go_wp2_with (first
      | (go_at_call 44; refine (awake1_any w).mono ?_; rintro e w1 ⟨rfl, E1⟩; have hb1 := E1.bs hb)
      | (go_at_call 48; refine (uint_any a n c l w1 hb1 (by omega)).mono ?_; rintro e w2 ⟨rfl, rfl⟩; rw [ev, en, ee]))
    clear ev en ee
    refine rt_start (by kernel_rfl) ?_
    refine rt_take (i := 0) (d := (some 20)) (v := ?_) rfl rfl (by kernel_rfl) (by kernel_rfl) (by kernel_rfl) (fun _ _ _ h => h) (by rfl) ?_ ?_
    rotate_left
    · (intro w'; go_simp) <;> with_reducible rfl
    simp only [Act.put, List.setIfInBounds_toArray, List.set_cons_zero, List.set_cons_succ]
    refine rt_take (i := 1) (d := (some 21)) (v := ?_) rfl rfl (by kernel_rfl) (by kernel_rfl) (by kernel_rfl) (fun _ _ _ h => h) (by rfl) ?_ ?_
    rotate_left
    · (intro w'; go_simp) <;> with_reducible rfl
    simp only [Act.put, List.setIfInBounds_toArray, List.set_cons_zero, List.set_cons_succ]
    refine rt_take (i := 2) (d := (some 22)) (v := ?_) rfl rfl (by kernel_rfl) (by kernel_rfl) (by kernel_rfl) (fun _ _ _ h => h) (by rfl) ?_ ?_
    rotate_left
    · (intro w'; go_simp) <;> with_reducible rfl
    simp only [Act.put, List.setIfInBounds_toArray, List.set_cons_zero, List.set_cons_succ]
    refine rt_skip (i := 3) (d := (some 23)) rfl rfl (by kernel_rfl) (by kernel_rfl) (by kernel_rfl) (fun _ _ _ h => h) (by rfl) ?_
    simp only [Act.put, List.setIfInBounds_toArray, List.set_cons_zero, List.set_cons_succ]
    refine rt_skip (i := 4) (d := (some 24)) rfl rfl (by kernel_rfl) (by kernel_rfl) (by kernel_rfl) (fun _ _ _ h => h) (by rfl) ?_
    simp only [Act.put, List.setIfInBounds_toArray, List.set_cons_zero, List.set_cons_succ]
    refine rt_skip (i := 5) (d := (some 25)) rfl rfl (by kernel_rfl) (by kernel_rfl) (by kernel_rfl) (fun _ _ _ h => h) (by rfl) ?_
    simp only [Act.put, List.setIfInBounds_toArray, List.set_cons_zero, List.set_cons_succ]
    refine rt_skip (i := 6) (d := (some 26)) rfl rfl (by kernel_rfl) (by kernel_rfl) (by kernel_rfl) (fun _ _ _ h => h) (by rfl) ?_
    simp only [Act.put, List.setIfInBounds_toArray, List.set_cons_zero, List.set_cons_succ]
    refine rt_skip (i := 7) (d := (some 27)) rfl rfl (by kernel_rfl) (by kernel_rfl) (by kernel_rfl) (fun _ _ _ h => h) (by rfl) ?_
    simp only [Act.put, List.setIfInBounds_toArray, List.set_cons_zero, List.set_cons_succ]
    refine rt_skip (i := 8) (d := (some 28)) rfl rfl (by kernel_rfl) (by kernel_rfl) (by kernel_rfl) (fun _ _ _ h => h) (by rfl) ?_
    simp only [Act.put, List.setIfInBounds_toArray, List.set_cons_zero, List.set_cons_succ]
    refine rt_skip (i := 9) (d := (some 29)) rfl rfl (by kernel_rfl) (by kernel_rfl) (by kernel_rfl) (fun _ _ _ h => h) (by rfl) ?_
    simp only [Act.put, List.setIfInBounds_toArray, List.set_cons_zero, List.set_cons_succ]
    refine rt_skip (i := 10) (d := (some 30)) rfl rfl (by kernel_rfl) (by kernel_rfl) (by kernel_rfl) (fun _ _ _ h => h) (by rfl) ?_
    simp only [Act.put, List.setIfInBounds_toArray, List.set_cons_zero, List.set_cons_succ]
    refine rt_skip (i := 11) (d := (some 31)) rfl rfl (by kernel_rfl) (by kernel_rfl) (by kernel_rfl) (fun _ _ _ h => h) (by rfl) ?_
    simp only [Act.put, List.setIfInBounds_toArray, List.set_cons_zero, List.set_cons_succ]
    refine rt_skip (i := 12) (d := (some 32)) rfl rfl (by kernel_rfl) (by kernel_rfl) (by kernel_rfl) (fun _ _ _ h => h) (by rfl) ?_
    simp only [Act.put, List.setIfInBounds_toArray, List.set_cons_zero, List.set_cons_succ]
    refine rt_skip (i := 13) (d := (some 33)) rfl rfl (by kernel_rfl) (by kernel_rfl) (by kernel_rfl) (fun _ _ _ h => h) (by rfl) ?_
    simp only [Act.put, List.setIfInBounds_toArray, List.set_cons_zero, List.set_cons_succ]
    refine rt_skip (i := 14) (d := (some 34)) rfl rfl (by kernel_rfl) (by kernel_rfl) (by kernel_rfl) (fun _ _ _ h => h) (by rfl) ?_
    simp only [Act.put, List.setIfInBounds_toArray, List.set_cons_zero, List.set_cons_succ]
    refine rt_skip (i := 15) (d := (some 35)) rfl rfl (by kernel_rfl) (by kernel_rfl) (by kernel_rfl) (fun _ _ _ h => h) (by rfl) ?_
    simp only [Act.put, List.setIfInBounds_toArray, List.set_cons_zero, List.set_cons_succ]
    refine rt_skip (i := 16) (d := (some 36)) rfl rfl (by kernel_rfl) (by kernel_rfl) (by kernel_rfl) (fun _ _ _ h => h) (by rfl) ?_
    simp only [Act.put, List.setIfInBounds_toArray, List.set_cons_zero, List.set_cons_succ]
    refine rt_skip (i := 17) (d := (some 37)) rfl rfl (by kernel_rfl) (by kernel_rfl) (by kernel_rfl) (fun _ _ _ h => h) (by rfl) ?_
    simp only [Act.put, List.setIfInBounds_toArray, List.set_cons_zero, List.set_cons_succ]
    refine rt_skip (i := 18) (d := (some 38)) rfl rfl (by kernel_rfl) (by kernel_rfl) (by kernel_rfl) (fun _ _ _ h => h) (by rfl) ?_
    simp only [Act.put, List.setIfInBounds_toArray, List.set_cons_zero, List.set_cons_succ]
    refine rt_skip (i := 19) (d := (some 39)) rfl rfl (by kernel_rfl) (by kernel_rfl) (by kernel_rfl) (fun _ _ _ h => h) (by rfl) ?_
    simp only [Act.put, List.setIfInBounds_toArray, List.set_cons_zero, List.set_cons_succ]
    refine rt_take (i := 20) (d := (some 40)) (v := ?_) rfl rfl (by kernel_rfl) (by kernel_rfl) (by kernel_rfl) (fun _ _ _ h => h) (by rfl) ?_ ?_
    rotate_left
    · (intro w'; go_simp) <;> with_reducible rfl
    simp only [Act.put, List.setIfInBounds_toArray, List.set_cons_zero, List.set_cons_succ]
    refine rt_done (by kernel_rfl) ?_
    have E4 := E1.dr
    go_wp2_with fail
    refine (putUint_any none 0 0 [] x _ (Bs.nil _ _) (fun _ => rfl) hx (by omega)).mono ?_
    rintro e w5 ⟨a5, c5, rfl, O5, E5⟩
    rw [List.nil_append] at O5 ⊢
    go_wp2_with fail
    refine (putUint_any none 0 0 [] y _ (Bs.nil _ _) (fun _ => rfl) hy (by omega)).mono ?_
    rintro e w6 ⟨a6, c6, rfl, O6, E6⟩
    rw [List.nil_append] at O6 ⊢
    go_wp2_with fail
    refine (same1_any a5 (putU x).length c5 a6 (putU y).length c6 (putU x) (putU y) _ (E6.bs O5.bs) O6.bs (by omega)).mono ?_
    rintro e w7 ⟨rfl, E7⟩
    rw [Hinj.out]
    by_cases hxy : x = y
    · subst hxy
      have t1 : decide (x = x) = true := by simp
      rw [t1]
      go_wp2
      all_goals
        go_ret
        exact ⟨by simp, ((E4.tr E5).tr E6).tr E7⟩
    · have t1 : decide (x = y) = false := by simpa using hxy
      have t2 : ((x : Int) == (y : Int)) = false := by simp; omega
      rw [t1]
      by_cases hgt : y < x
      · have t3 : decide ((y : Int) < (x : Int)) = true := by simp; omega
        go_wp2
        all_goals
          go_ret
          exact ⟨by simp, ((E4.tr E5).tr E6).tr E7⟩
      · have t3 : decide ((y : Int) < (x : Int)) = false := by simp; omega
        have hm := Hmono.out (by omega)
        have t4 : decide (((putU x).length : Int) ≤ ((putU y).length : Int)) = true := by simp; omega
        have Hm := Lib.hid hm
        clear hm
        go_wp2
        all_goals
          go_ret
          exact ⟨by first | (simp; done) | (simp; exact Hm.out), ((E4.tr E5).tr E6).tr E7⟩
  | some p =>
    obtain ⟨v, u⟩ := p
    obtain ⟨ev, en, ee⟩ := uvals hu
    obtain ⟨f1, f2, f3, f4, f5⟩ := rdU_form hu
    have hvlt : v < 18446744073709551616 := f4
    have hsubl : (l.take u) = putU v := f5
    have hsub := hb.sub 0 u (by omega) (a' := a) (fun b' o' e _ => by rw [e]; simp)
    rw [List.drop_zero, hsubl] at hsub
    have hpl := putU_len v hvlt
    have hul := hsub.leng
    have q1 : decide ((u : Int) < 1) = false := by simp; omega
    have q1' : decide (u = 0) = false := by simp; omega
    have q2 : decide ((n : Int) < (u : Int)) = false := by simp; omega
    have q2' : decide (n < u) = false := by simp; omega
    have q3 : (u : Int) ≤ (c : Int) := by omega
    have q4 : (0 : Int) ≤ (u : Int) := by omega
    clear hu f1 f2 f3 f4 f5 hsubl
    go_enter Try.func14, Try.ntmps14
    go_wp2_with (first
      | (go_at_call 44; refine (awake1_any w).mono ?_; rintro e w1 ⟨rfl, E1⟩; have hb1 := E1.bs hb)
      | (go_at_call 48; refine (uint_any a n c l w1 hb1 (by omega)).mono ?_; rintro e w2 ⟨rfl, rfl⟩; rw [ev, en, ee]))
    clear ev en ee
    refine rt_start (by kernel_rfl) ?_
    refine rt_take (i := 0) (d := (some 20)) (v := ?_) rfl rfl (by kernel_rfl) (by kernel_rfl) (by kernel_rfl) (fun _ _ _ h => h) (by rfl) ?_ ?_
    rotate_left
    · (intro w'; go_simp) <;> with_reducible rfl
    simp only [Act.put, List.setIfInBounds_toArray, List.set_cons_zero, List.set_cons_succ]
    refine rt_take (i := 1) (d := (some 21)) (v := ?_) rfl rfl (by kernel_rfl) (by kernel_rfl) (by kernel_rfl) (fun _ _ _ h => h) (by rfl) ?_ ?_
    rotate_left
    · (intro w'; go_simp) <;> with_reducible rfl
    simp only [Act.put, List.setIfInBounds_toArray, List.set_cons_zero, List.set_cons_succ]
    refine rt_take (i := 2) (d := (some 22)) (v := ?_) rfl rfl (by kernel_rfl) (by kernel_rfl) (by kernel_rfl) (fun _ _ _ h => h) (by rfl) ?_ ?_
    rotate_left
    · (intro w'; go_simp) <;> with_reducible rfl
    simp only [Act.put, List.setIfInBounds_toArray, List.set_cons_zero, List.set_cons_succ]
    refine rt_take (i := 3) (d := (some 23)) (v := ?_) rfl rfl (by kernel_rfl) (by kernel_rfl) (by kernel_rfl) (fun _ _ _ h => h) (by rfl) ?_ ?_
    rotate_left
    · (intro w'; go_simp) <;> with_reducible rfl
    simp only [Act.put, List.setIfInBounds_toArray, List.set_cons_zero, List.set_cons_succ]
    refine rt_take (i := 4) (d := (some 24)) (v := ?_) rfl rfl (by kernel_rfl) (by kernel_rfl) (by kernel_rfl) (fun _ _ _ h => h) (by rfl) ?_ ?_
    rotate_left
    · (intro w'; go_simp) <;> with_reducible rfl
    simp only [Act.put, List.setIfInBounds_toArray, List.set_cons_zero, List.set_cons_succ]
    refine rt_take (i := 5) (d := (some 25)) (v := ?_) rfl rfl (by kernel_rfl) (by kernel_rfl) (by kernel_rfl) (fun _ _ _ h => h) (by rfl) ?_ ?_
    rotate_left
    · (intro w'; go_simp) <;> with_reducible rfl
    simp only [Act.put, List.setIfInBounds_toArray, List.set_cons_zero, List.set_cons_succ]
    refine rt_take (i := 6) (d := (some 26)) (v := ?_) rfl rfl (by kernel_rfl) (by kernel_rfl) (by kernel_rfl) (fun _ _ _ h => h) (by rfl) ?_ ?_
    rotate_left
    · (intro w'; go_simp) <;> with_reducible rfl
    simp only [Act.put, List.setIfInBounds_toArray, List.set_cons_zero, List.set_cons_succ]
    refine rt_take (i := 7) (d := (some 27)) (v := ?_) rfl rfl (by kernel_rfl) (by kernel_rfl) (by kernel_rfl) (fun _ _ _ h => h) (by rfl) ?_ ?_
    rotate_left
    · (intro w'; go_simp) <;> with_reducible rfl
    simp only [Act.put, List.setIfInBounds_toArray, List.set_cons_zero, List.set_cons_succ]
    refine rt_take (i := 8) (d := (some 28)) (v := ?_) rfl rfl (by kernel_rfl) (by kernel_rfl) (by kernel_rfl) (fun _ _ _ h => h) (by rfl) ?_ ?_
    rotate_left
    · (intro w'; go_simp) <;> with_reducible rfl
    simp only [Act.put, List.setIfInBounds_toArray, List.set_cons_zero, List.set_cons_succ]
    refine rt_take (i := 9) (d := (some 29)) (v := ?_) rfl rfl (by kernel_rfl) (by kernel_rfl) (by kernel_rfl) (fun _ _ _ h => h) (by rfl) ?_ ?_
    rotate_left
    · (intro w'; go_simp) <;> with_reducible rfl
    simp only [Act.put, List.setIfInBounds_toArray, List.set_cons_zero, List.set_cons_succ]
    refine rt_take (i := 10) (d := (some 30)) (v := ?_) rfl rfl (by kernel_rfl) (by kernel_rfl) (by kernel_rfl) (fun _ _ _ h => h) (by rfl) ?_ ?_
    rotate_left
    · (intro w'; go_simp) <;> with_reducible rfl
    simp only [Act.put, List.setIfInBounds_toArray, List.set_cons_zero, List.set_cons_succ]
    refine rt_take (i := 11) (d := (some 31)) (v := ?_) rfl rfl (by kernel_rfl) (by kernel_rfl) (by kernel_rfl) (fun _ _ _ h => h) (by rfl) ?_ ?_
    rotate_left
    · (intro w'; go_simp) <;> with_reducible rfl
    simp only [Act.put, List.setIfInBounds_toArray, List.set_cons_zero, List.set_cons_succ]
    refine rt_take (i := 12) (d := (some 32)) (v := ?_) rfl rfl (by kernel_rfl) (by kernel_rfl) (by kernel_rfl) (fun _ _ _ h => h) (by rfl) ?_ ?_
    rotate_left
    · (intro w'; go_simp) <;> with_reducible rfl
    simp only [Act.put, List.setIfInBounds_toArray, List.set_cons_zero, List.set_cons_succ]
    refine rt_take (i := 14) (d := (some 34)) (v := ?_) rfl rfl (by kernel_rfl) (by kernel_rfl) (by kernel_rfl) (fun _ _ _ h => h) (by rfl) ?_ ?_
    rotate_left
    · (intro w'; go_simp) <;> with_reducible rfl
    simp only [Act.put, List.setIfInBounds_toArray, List.set_cons_zero, List.set_cons_succ]
    refine rt_take (i := 15) (d := (some 35)) (v := ?_) rfl rfl (by kernel_rfl) (by kernel_rfl) (by kernel_rfl) (fun _ _ _ h => h) (by rfl) ?_ ?_
    rotate_left
    · (intro w'; go_simp) <;> with_reducible rfl
    simp only [Act.put, List.setIfInBounds_toArray, List.set_cons_zero, List.set_cons_succ]
    refine rt_take (i := 16) (d := (some 36)) (v := ?_) rfl rfl (by kernel_rfl) (by kernel_rfl) (by kernel_rfl) (fun _ _ _ h => h) (by rfl) ?_ ?_
    rotate_left
    · (intro w'; go_simp) <;> with_reducible rfl
    simp only [Act.put, List.setIfInBounds_toArray, List.set_cons_zero, List.set_cons_succ]
    refine rt_one (i := 13) rfl (by kernel_rfl) (by rfl) (fun K hK => ?_)
    go_simp
    refine (putUint_any none 0 0 [] v _ (Bs.nil _ _) (fun _ => rfl) hvlt (by omega)).mono ?_
    rintro e w3 ⟨a3, c3, rfl, O3, E3⟩
    rw [List.nil_append, hul]
    rw [List.nil_append, hul] at O3
    refine hK.out _ _ ?_
    clear hK K
    try simp only [Act.put, List.setIfInBounds_toArray, List.set_cons_zero, List.set_cons_succ]
    refine rt_one (i := 17) rfl (by kernel_rfl) (by rfl) (fun K hK => ?_)
    go_simp
    refine (same1_any a3 u c3 a u c (putU v) (putU v) _ O3.bs ((E1.dr.tr E3).bs hsub) (by omega)).mono ?_
    rintro e w4 ⟨rfl, E4⟩
    rw [decide_eq_true rfl]
    refine hK.out _ _ ?_
    clear hK K
    try simp only [Act.put, List.setIfInBounds_toArray, List.set_cons_zero, List.set_cons_succ]
    refine rt_take (i := 18) (d := (some 38)) (v := ?_) rfl rfl (by kernel_rfl) (by kernel_rfl) (by kernel_rfl) (fun _ _ _ h => h) (by rfl) ?_ ?_
    rotate_left
    · (intro w'; go_simp) <;> with_reducible rfl
    simp only [Act.put, List.setIfInBounds_toArray, List.set_cons_zero, List.set_cons_succ]
    refine rt_take (i := 19) (d := (some 39)) (v := ?_) rfl rfl (by kernel_rfl) (by kernel_rfl) (by kernel_rfl) (fun _ _ _ h => h) (by rfl) ?_ ?_
    rotate_left
    · (intro w'; go_simp) <;> with_reducible rfl
    simp only [Act.put, List.setIfInBounds_toArray, List.set_cons_zero, List.set_cons_succ]
    refine rt_take (i := 20) (d := (some 40)) (v := ?_) rfl rfl (by kernel_rfl) (by kernel_rfl) (by kernel_rfl) (fun _ _ _ h => h) (by rfl) ?_ ?_
    rotate_left
    · (intro w'; go_simp) <;> with_reducible rfl
    simp only [Act.put, List.setIfInBounds_toArray, List.set_cons_zero, List.set_cons_succ]
    refine rt_done (by kernel_rfl) ?_
    have E4 := ((E1.dr).tr E3).tr E4
    go_wp2_with fail
    refine (putUint_any none 0 0 [] x _ (Bs.nil _ _) (fun _ => rfl) hx (by omega)).mono ?_
    rintro e w5 ⟨a5, c5, rfl, O5, E5⟩
    rw [List.nil_append] at O5 ⊢
    go_wp2_with fail
    refine (putUint_any none 0 0 [] y _ (Bs.nil _ _) (fun _ => rfl) hy (by omega)).mono ?_
    rintro e w6 ⟨a6, c6, rfl, O6, E6⟩
    rw [List.nil_append] at O6 ⊢
    go_wp2_with fail
    refine (same1_any a5 (putU x).length c5 a6 (putU y).length c6 (putU x) (putU y) _ (E6.bs O5.bs) O6.bs (by omega)).mono ?_
    rintro e w7 ⟨rfl, E7⟩
    rw [Hinj.out]
    by_cases hxy : x = y
    · subst hxy
      have t1 : decide (x = x) = true := by simp
      rw [t1]
      go_wp2
      all_goals
        go_ret
        exact ⟨by simp, ((E4.tr E5).tr E6).tr E7⟩
    · have t1 : decide (x = y) = false := by simpa using hxy
      have t2 : ((x : Int) == (y : Int)) = false := by simp; omega
      rw [t1]
      by_cases hgt : y < x
      · have t3 : decide ((y : Int) < (x : Int)) = true := by simp; omega
        go_wp2
        all_goals
          go_ret
          exact ⟨by simp, ((E4.tr E5).tr E6).tr E7⟩
      · have t3 : decide ((y : Int) < (x : Int)) = false := by simp; omega
        have hm := Hmono.out (by omega)
        have t4 : decide (((putU x).length : Int) ≤ ((putU y).length : Int)) = true := by simp; omega
        have Hm := Lib.hid hm
        clear hm
        go_wp2
        all_goals
          go_ret
          exact ⟨by first | (simp; done) | (simp; exact Hm.out), ((E4.tr E5).tr E6).tr E7⟩
end Go.Proofs.Ytknllmcpogoeoaa
