/- NumBack, walked. -/
import Derived.Test.YtknllmcpogoeoaaN5
namespace Go.Proofs.Ytknllmcpogoeoaa
open Go.RowKit
set_option linter.unusedVariables false
set_option linter.unusedSimpArgs false
theorem putB_len (b : List UInt8) : (putB b).length = (putU b.length).length + b.length := by simp [putB]
theorem rdB_cut (b : List UInt8) (h : b.length < 18446744073709551616) : (rdB ((putB b).take ((putB b).length - 1)) (b.length : Int)).err = 6 := by
  have hpl := putU_len b.length h
  unfold rdB
  rw [if_neg (by omega)]
  by_cases hb : b.length = 0
  · have hb0 : b = [] := List.eq_nil_of_length_eq_zero hb
    subst hb0
    rfl
  · have e : (putB b).take ((putB b).length - 1) = putU b.length ++ b.take (b.length - 1) := by
      unfold putB
      rw [List.length_append, List.take_append, List.take_of_length_le (by omega)]
      congr 2
      omega
    rw [e, rdU_put _ _ h]
    dsimp only
    rw [if_neg (by omega), if_pos (by rw [List.length_append, List.length_take]; omega)]
theorem rdB_less (b : List UInt8) (h : b.length < 18446744073709551616) : (rdB (putB b) ((b.length : Int) - 1)).err = if b.length = 0 then 1 else 3 := by
  unfold rdB
  by_cases hb : b.length = 0
  · rw [if_pos (by omega), if_pos hb]
  · rw [if_neg (by omega), if_neg hb]
    unfold putB
    rw [rdU_put _ _ h]
    dsimp only
    rw [if_pos (by omega)]
set_option maxRecDepth 100000 in
set_option maxHeartbeats 1600000 in
theorem numBack_any (v : Nat) (a1 a2 : Option Addr) (n1 c1 n2 c2 : Nat) (b m : List UInt8) (w : World) (hv : v < 18446744073709551616) (h1 : Bs w a1 n1 b) (h2 : Bs w a2 n2 m) (hn1 : n1 ≤ 1048576) (hn2 : n2 ≤ 1048576) (hz1 : a1 = none → c1 = 0) (hz2 : a2 = none → c2 = 0) :
    Calls Try.prog 18 #[.int .u64 (v : Int), .slice a1 n1 c1, .slice a2 n2 c2] w (fun e w' => e = .returned (.bool true) ∧ Ext w w') := by
  have hl := h1.leng
  have hml := h2.leng
  subst hl hml
  have hpl := putU_len v hv
  have hbl := putU_len b.length (by omega)
  have hcut := rdU_cut v hv ((putU v).length - 1) (by omega)
  have hrd := rdU_put v m hv
  have hbc := rdB_cut b (by omega)
  have hbs := rdB_less b (by omega)
  have hbp := rdB_put b m b.length (by omega) (by omega)
  have hpb := putB_len b
  obtain ⟨P, hP⟩ : ∃ P, P = putU v := ⟨_, rfl⟩
  obtain ⟨k, hk⟩ : ∃ k, k = (putU v).length := ⟨_, rfl⟩
  obtain ⟨Q, hQ⟩ : ∃ Q, Q = putB b := ⟨_, rfl⟩
  obtain ⟨q, hq⟩ : ∃ q, q = (putB b).length := ⟨_, rfl⟩
  rw [← hk] at hcut hrd hpl
  rw [← hP] at hcut hrd
  rw [← hq, ← hQ] at hbc hbp
  rw [← hQ] at hbs
  rw [← hq] at hpb
  have HP := Lib.hid hP
  have Hk := Lib.hid hk
  have HQ := Lib.hid hQ
  have Hq := Lib.hid hq
  have Hcut := Lib.hid hcut
  have Hrd := Lib.hid hrd
  have Hbc := Lib.hid hbc
  have Hbs := Lib.hid hbs
  have Hbp := Lib.hid hbp
  have hq1 : 1 ≤ q := by omega
  have hq2 : q ≤ b.length + 10 := by omega
  clear hP hk hQ hq hcut hrd hbc hbs hbp hpb hbl
  have t1 : decide ((k : Int) < 1) = false := by simp; omega
  have t2 : decide ((10 : Int) < (k : Int)) = false := by simp; omega
  have t3 : decide ((q : Int) < 1) = false := by simp; omega
  go_enter Try.func18, Try.ntmps18
  go_wp2_with fail
  refine (awake1_any w).mono ?_
  rintro e w1 ⟨rfl, E1⟩
  have hb1 := E1.bs h1
  have hm1 := E1.bs h2
  go_wp2_with fail
  refine (putUint_any none 0 0 [] v w1 (Bs.nil _ _) (fun _ => rfl) hv (by omega)).mono ?_
  rintro e w2 ⟨a3, c3, rfl, O2, E2⟩
  rw [List.nil_append, ← HP.out] at O2 ⊢
  rw [show P.length = k by rw [HP.out, Hk.out]] at O2 ⊢
  have hc3 := O2.cap.1
  have Z := Ow.zero w2 w2.heap.size rfl w2.heap.size (Nat.le_refl _)
  have EZ := (Ext.refl w2).al (.cells #[] 5)
  go_wp2_with (first
    | (at_builtin; refine wp_app (s := .tmp 23) (x := .tmp 24) w2.heap.size k P rfl rfl Z (EZ.bs O2.bs) O2.cap.2 (by omega) rfl (by omega) (by simp) ?_; intro a4 c4 w3 O3 G3; have E3 := EZ.app Z (Nat.le_refl _) G3)
    | (at_builtin; refine wp_app (s := .tmp 25) (x := .tmp 26) w2.heap.size (k + m.length) (P ++ m) rfl rfl O3 ((E2.tr E3).bs hm1) hz2 rfl rfl (by omega) E3.sz ?_; intro a5 c5 w4 O4 G4; have E4 := E3.app O3 (Nat.le_refl _) G4))
  obtain ⟨ev, en, ee⟩ := uvals Hrd.out
  refine (uint_any a5 (k + m.length) c5 (P ++ m) w4 O4.bs (by omega)).mono ?_
  rintro e w5 ⟨rfl, rfl⟩
  rw [ev, en, ee]
  clear ev en ee
  have i1 : (k : Int) - 1 = ((k - 1 : Nat) : Int) := by omega
  have i2 : ((k - 1 : Nat) : Int) ≤ (c3 : Int) := by omega
  have i3 : (q : Int) - 1 = ((q - 1 : Nat) : Int) := by omega
  go_wp2_with fail
  obtain ⟨ev, en, ee⟩ := uvals0 Hcut.out
  have hsub := (E4.bs O2.bs).sub 0 (k - 1) (by omega) (a' := a3) (fun b' o' e _ => by rw [e]; simp)
  rw [List.drop_zero] at hsub
  refine (uint_any a3 (k - 1) c3 _ _ hsub (by omega)).mono ?_
  rintro e w6 ⟨rfl, rfl⟩
  rw [ev, en, ee]
  clear ev en ee
  have hb4 := (E2.tr E4).bs hb1
  go_wp2_with fail
  refine (putBytes_any none a1 0 0 b.length c1 [] b _ (Bs.nil _ _) hb4 (fun _ => rfl) hz1 (by omega) (by omega)).mono ?_
  rintro e w7 ⟨a7, c7, rfl, O7, E7⟩
  rw [List.nil_append, ← HQ.out] at O7 ⊢
  rw [show Q.length = q by rw [HQ.out, Hq.out]] at O7 ⊢
  have hc7 := O7.cap.1
  have Z7 := Ow.zero w7 w7.heap.size rfl w7.heap.size (Nat.le_refl _)
  have EZ7 := (Ext.refl w7).al (.cells #[] 5)
  have hm7 := ((E2.tr E4).tr E7).bs hm1
  have hb7 := E7.bs hb4
  go_wp2_with (first
    | (at_builtin; refine wp_app (s := .tmp 70) (x := .tmp 71) w7.heap.size q Q rfl rfl Z7 (EZ7.bs O7.bs) O7.cap.2 (by omega) rfl (by omega) (by simp) ?_; intro a8 c8 w8 O8 G8; have E8 := EZ7.app Z7 (Nat.le_refl _) G8)
    | (at_builtin; refine wp_app (s := .tmp 72) (x := .tmp 73) w7.heap.size (q + m.length) (Q ++ m) rfl rfl O8 (E8.bs hm7) hz2 rfl rfl (by omega) E8.sz ?_; intro a9 c9 w9 O9 G9; have E9 := E8.app O8 (Nat.le_refl _) G9))
  refine (bytes_any a9 (q + m.length) c9 (Q ++ m) (b.length : Int) w9 O9.bs (by omega) O9.cap.1 O9.cap.2 (by omega) (by omega)).mono ?_
  rw [Hbp.out]
  rintro e w10 ⟨a10, c10, rfl, O10, E10⟩
  dsimp only at O10
  go_wp2_with fail
  have hb10 := (E9.tr E10).bs hb7
  refine (same1_any a10 b.length c10 a1 b.length c1 b b w10 O10.bs hb10 (by omega)).mono ?_
  rintro e w11 ⟨rfl, E11⟩
  rw [decide_eq_true rfl]
  have i4 : ((q - 1 : Nat) : Int) ≤ (c7 : Int) := by omega
  have E711 := (E9.tr E10).tr E11
  have hsub7 := (E711.bs O7.bs).sub 0 (q - 1) (by omega) (a' := a7) (fun b' o' e _ => by rw [e]; simp)
  rw [List.drop_zero] at hsub7
  go_wp2_with fail
  refine (bytes_any a7 (q - 1) c7 _ (b.length : Int) w11 hsub7 (by omega) (by omega) O7.cap.2 (by omega) (by omega)).mono ?_
  rintro e w12 ⟨a12, c12, rfl, O12, E12⟩
  rw [Hbc.out]
  go_wp2_with fail
  refine (bytes_any a7 q c7 Q ((b.length : Int) - 1) w12 ((E711.tr E12).bs O7.bs) (by omega) O7.cap.1 O7.cap.2 (by omega) (by omega)).mono ?_
  rintro e w13 ⟨a13, c13, rfl, O13, E13⟩
  rw [Hbs.out]
  have EF : Ext w w13 := (((((E1.tr E2).tr E4).tr E7).tr E711).tr E12).tr E13
  by_cases hb0 : b.length = 0
  · rw [if_pos hb0]
    have t9 : ((b.length : Int) == 0) = true := by rw [beq_iff_eq]; omega
    go_wp2
    go_ret
    exact ⟨by simp [hb0], EF⟩
  · rw [if_neg hb0]
    go_wp2
    go_ret
    exact ⟨rfl, EF⟩
end Go.Proofs.Ytknllmcpogoeoaa
