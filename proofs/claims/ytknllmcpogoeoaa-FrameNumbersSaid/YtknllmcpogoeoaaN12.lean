/- FrameNumbers, walked. -/
import Derived.Test.YtknllmcpogoeoaaLd
import Derived.Test.YtknllmcpogoeoaaN11
namespace Go.Proofs.Ytknllmcpogoeoaa
open Go.RowKit
set_option linter.unusedVariables false
set_option linter.unusedSimpArgs false
/-- the record of item k -/
def recN (us is : List Int) (k : Nat) : List UInt8 := putU (us[k]?.getD 0).toNat ++ (if k < is.length then putU (zz (is[k]?.getD 0)) else [])
def recs (us is : List Int) (n : Nat) : List (List UInt8) := (List.range n).map (recN us is)
theorem recs_at (us is : List Int) (n k : Nat) (h : k < n) : (recs us is n)[k]? = some (recN us is k) := by
  unfold recs
  rw [List.getElem?_map, List.getElem?_range h]
  rfl
theorem recN_len (us is : List Int) (k : Nat) (hu : ∀ z ∈ us, z.toNat < 18446744073709551616) (hi : ∀ z ∈ is, zz z < 18446744073709551616) : (recN us is k).length ≤ 20 := by
  unfold recN
  rw [List.length_append]
  have h1 : (putU (us[k]?.getD 0).toNat).length ≤ 10 := by
    refine (putU_len _ ?_).2
    by_cases h : k < us.length
    · rw [List.getElem?_eq_getElem h]; exact hu _ (List.getElem_mem h)
    · rw [List.getElem?_eq_none (by omega)]; decide
  have h2 : (if k < is.length then putU (zz (is[k]?.getD 0)) else []).length ≤ 10 := by
    split
    · refine (putU_len _ ?_).2
      rename_i h
      rw [List.getElem?_eq_getElem h]; exact hi _ (List.getElem_mem h)
    · simp
  omega
set_option maxRecDepth 100000 in
set_option maxHeartbeats 3200000 in
theorem frameNumbers_any (a1 a2 : Option Addr) (n1 c1 n2 c2 : Nat) (us is : List Int) (w : World) (h1 : Zs w .u64 a1 n1 us) (h2 : Zs w .i64 a2 n2 is) (hn1 : n1 ≤ 140737488351232) (hn2 : n2 ≤ 140737488351232)
    (hw1 : ∀ z ∈ us, (Lit.int .u64 z).wf = true) (hw2 : ∀ z ∈ is, (Lit.int .i64 z).wf = true) :
    Calls Try.prog 22 #[.slice a1 n1 c1, .slice a2 n2 c2] w (fun e w' => e = .returned (.bool true) ∧ Ext w w') := by
  have hl1 := h1.leng
  have hl2 := h2.leng
  subst hl1 hl2
  have hu : ∀ z ∈ us, z = (z.toNat : Int) ∧ z.toNat < 18446744073709551616 := fun z hz => by have := bounds_u64 (hw1 z hz); omega
  have hi : ∀ z ∈ is, -9223372036854775808 ≤ z ∧ z ≤ 9223372036854775807 := fun z hz => bounds_i64 (hw2 z hz)
  have hi2 : ∀ z ∈ is, zz z < 18446744073709551616 := fun z hz => zz_lt z (hi z hz).1 (hi z hz).2
  obtain ⟨m, hm⟩ : ∃ m : Nat, m = min us.length 10 := ⟨_, rfl⟩
  have hmu : m ≤ us.length := by omega
  have hm10 : m ≤ 10 := by omega
  have hme : us.length ≤ m ∨ m = 10 := by omega
  have hrl : ∀ k, (recN us is k).length ≤ 20 := fun k => recN_len us is k (fun z hz => (hu z hz).2) hi2
  have hFl : (recs us is m).length = m := by simp [recs]
  have hF4 : ∀ x ∈ recs us is m, x.length ≤ 4000 := fun x hx => by
    unfold recs at hx
    obtain ⟨k, _, rfl⟩ := List.mem_map.1 hx
    have := hrl k
    omega
  have hFat : ∀ k, k < m → (recs us is m)[k]? = some (recN us is k) := fun k hk => recs_at us is m k hk
  generalize hF : recs us is m = F at *
  have HF := Lib.hid hF
  have Hm := Lib.hid hm
  have Hu := Lib.hid hu
  have Hi := Lib.hid hi
  have Hi2 := Lib.hid hi2
  have Hrl := Lib.hid hrl
  have HF4 := Lib.hid hF4
  have HFat := Lib.hid hFat
  have HFl := Lib.hid hFl
  clear hF hm hu hi hi2 hrl hF4 hFat hFl hw1 hw2
  go_enter Try.func22, Try.ntmps22
  go_wp2_with (go_at_call 32; refine (awake3_any w).mono ?_; rintro e w1 ⟨rfl, E1⟩)
  go_loopw [5, 6] (fun v i wr => FileRel F w m v i wr) (fun _ i _ => m - (intOf i).toNat)
  case atStart => exact ⟨0, none, 0, 0, by omega, rfl, rfl, World.ownsRow_nil _ _ _ _, E1⟩
  case round =>
    obtain ⟨k, a, n, c, hk, rfl, rfl, O, E⟩ := hrel
    rename World => W
    have hon := O.leng
    have hft := fileOf_take_len F HF4.out k
    have hnb : n ≤ 4008 * 10 := by omega
    by_cases hkn : k < m
    · have hkb : decide ((k : Int) < (us.length : Int)) = true := by simp; omega
      have hkb' : decide (k < us.length) = true := by simp; omega
      have hkc : decide ((k : Int) < 10) = true := by simp; omega
      obtain ⟨b1, o1, rfl, hc1⟩ := h1.cell k (by omega)
      have hc := E.cell hc1
      have q2 : (k : Int) < (us.length : Int) := by omega
      have q3 : (0 : Int) ≤ (k : Int) := by omega
      have hmem : us[k]?.getD 0 ∈ us := by rw [List.getElem?_eq_getElem (by omega)]; exact List.getElem_mem _
      obtain ⟨hv1, hv2⟩ := Hu.out _ hmem
      have hsn := fileOf_snoc F k _ (HFat.out k hkn)
      have hrk := Hrl.out k
      unfold recN at hsn hrk
      rw [hv1] at hc
      generalize (us[k]?.getD 0).toNat = v at *
      have hpl := putU_len v hv2
      generalize hP : putU v = P at *
      have HP := Lib.hid hP
      have hz := E.sz
      have hPl : P.length ≤ 10 := hpl.2
      clear hc1 hv1 hmem hft hpl hP
      by_cases hki : k < is.length
      · have hib : decide ((k : Int) < (is.length : Int)) = true := by simp; omega
        have hib' : decide (k < is.length) = true := by simp; omega
        obtain ⟨b2, o2, rfl, hc2⟩ := h2.cell k hki
        have hd := E.cell hc2
        have q4 : (k : Int) < (is.length : Int) := by omega
        have hmem2 : is[k]?.getD 0 ∈ is := by rw [List.getElem?_eq_getElem hki]; exact List.getElem_mem hki
        obtain ⟨hz1, hz2⟩ := Hi.out _ hmem2
        rw [if_pos hki] at hsn hrk
        generalize is[k]?.getD 0 = z at *
        generalize hQ : putU (zz z) = Q at *
        have HQ := Lib.hid hQ
        have hPQ : P.length + Q.length ≤ 20 := by rw [List.length_append] at hrk; exact hrk
        have Hsn := Lib.hid hsn
        clear hc2 hmem2 hsn hrk hon hQ
        go_wp2_with (first
          | (go_at_call 46; refine (putUint_any none 0 0 [] v W (Bs.nil _ _) (fun _ => rfl) hv2 (by omega)).mono ?_; rintro e w4 ⟨a4, c4, rfl, O4, E4⟩; rw [List.nil_append, HP.out] at O4 ⊢; have hd4 := E4.cell hd)
          | (go_at_call 64; refine (putInt_any a4 P.length c4 P z w4 O4.bs O4.cap.2 hz1 hz2 (by omega)).mono ?_; rintro e w5 ⟨a5, c5, rfl, O5, E5⟩; rw [HQ.out, List.length_append] at O5 ⊢; have E05 := (E.tr E4).tr E5; have hPQl : (P ++ Q).length = P.length + Q.length := List.length_append)
          | (go_at_call 33; refine (append_any a a5 n c (P.length + Q.length) c5 _ (P ++ Q) w5 ((E4.tr E5).bs O.bs) O5.bs (by omega) (by omega) O.cap.2 O5.cap.2).mono ?_; intro e w6 hp; unfold AppendPost at hp; rw [if_neg (by omega)] at hp; obtain ⟨a6, n6, c6, rfl, O6, hn6, E6⟩ := hp; clear hn6; rw [← Hsn.out] at O6; have E06 : Ext w w6 := E05.tr E6; have O7 := row_mono O6 E05.sz))
        go_roundw
        case rel => exact ⟨k + 1, a6, _, c6, by omega, by go_num, rfl, O7, E06⟩
        case measure => simp [intOf]; omega
      · have hib : decide ((k : Int) < (is.length : Int)) = false := by simp; omega
        have hib' : decide (k < is.length) = false := by simp; omega
        rw [if_neg hki, List.append_nil] at hsn hrk
        have Hsn := Lib.hid hsn
        clear hsn hrk hon
        go_wp2_with (first
          | (go_at_call 46; refine (putUint_any none 0 0 [] v W (Bs.nil _ _) (fun _ => rfl) hv2 (by omega)).mono ?_; rintro e w4 ⟨a4, c4, rfl, O4, E4⟩; rw [List.nil_append, HP.out] at O4 ⊢; have E04 := E.tr E4)
          | (go_at_call 33; refine (append_any a a4 n c P.length c4 _ P w4 (E4.bs O.bs) O4.bs (by omega) (by omega) O.cap.2 O4.cap.2).mono ?_; intro e w6 hp; unfold AppendPost at hp; rw [if_neg (by omega)] at hp; obtain ⟨a6, n6, c6, rfl, O6, hn6, E6⟩ := hp; clear hn6; rw [← Hsn.out] at O6; have E06 : Ext w w6 := E04.tr E6; have O7 := row_mono O6 E04.sz))
        go_roundw
        case rel => exact ⟨k + 1, a6, _, c6, by omega, by go_num, rfl, O7, E06⟩
        case measure => simp [intOf]; omega
    have hkm : k = m := by omega
    rw [List.take_of_length_le (by rw [HFl.out]; omega)] at O hft hon
    obtain ⟨hsw1, hsw2⟩ := scan_whole F HF4.out
    have Hsw1 := Lib.hid hsw1
    have Hsw2 := Lib.hid hsw2
    have Hon := Lib.hid hon
    clear hsw1 hsw2 hft hon
    have hbig : ∀ x ∈ F, x.length ≤ 140737488351232 := fun x hx => by have := HF4.out x hx; omega
    have Hbig := Lib.hid hbig
    clear hbig
    have hcs : (us.length ≤ 10 ∧ us.length = m) ∨ (10 < us.length ∧ m = 10) := by have := Hm.out; omega
    subst hkm
    have HQ : (us.length ≤ 10 → decide ((k : Int) < (us.length : Int)) = false ∧ ((10 : Int) < (us.length : Int)) = False ∧ (10 < us.length) = False ∧ ((k : Int) != (us.length : Int)) = false ∧ (k < us.length) = False ∧ decide (k < us.length) = false) ∧
        (10 < us.length → decide ((k : Int) < (us.length : Int)) = true ∧ ((10 : Int) < (us.length : Int)) = True ∧ (10 < us.length) = True ∧ ((k : Int) != 10) = false ∧ decide ((k : Int) < 10) = false ∧ (k < us.length) = True ∧ decide (k < us.length) = true ∧ ((k : Int) < 10) = False ∧ (10 ≤ (k : Int)) = True) := by
      refine ⟨fun h => ⟨by simp; omega, by simp; omega, by simp; omega, by simp; omega, by simp; omega, by simp; omega⟩, fun h => ⟨by simp; omega, by simp; omega, by simp; omega, by simp; omega, by simp; omega, by simp; omega, by simp; omega, by simp; omega, by simp; omega⟩⟩
    rcases hcs with ⟨h10, hkl⟩ | ⟨h10, hkl⟩
    · obtain ⟨t1, t2, t3, t4, t5, t6⟩ := HQ.1 h10
      clear HQ hkl h10
      go_wp2_with (go_at_call 38; refine (bodies_any a n c (fileOf F) W O.bs (by omega) O.cap.2).mono ?_; rintro e w4 ⟨a4, c4, rows4, rfl, V4, hD4, E4⟩; rw [Hsw1.out] at hD4; rw [Hsw2.out]; obtain ⟨LG, hrl4⟩ := bod_ls (l := fileOf F) V4 hD4 Hbig.out; rw [hrl4, HFl.out]; rw [HFl.out] at LG; have E04 := E.tr E4)
      clear V4 hD4 hrl4 O
      go_loopw [68] (fun i wr => ∃ j : Nat, j ≤ k ∧ i = .int .i64 (j : Int) ∧ Ls wr a4 k F ∧ Ext w wr) (fun i _ => k - (intOf i).toNat)
      case atStart => exact ⟨0, by omega, rfl, LG, E04⟩
      case round =>
        obtain ⟨j, hj, rfl, LG, E⟩ := hrel
        rename World => W2
        by_cases hjn : j < k
        · have hjb : decide ((j : Int) < (k : Int)) = true := by simp; omega
          have hjb' : decide (j < k) = true := by simp; omega
          obtain ⟨b3, o3, p3, u3, r3, rfl, hcl, hbs, hur, hpn, hum⟩ := LG.at j hjn
          rw [HFat.out j hjn, Option.getD_some] at hbs
          have q1 : (j : Int) < (k : Int) := by omega
          have q0 : (0 : Int) ≤ (j : Int) := by omega
          have hju : j < us.length := by omega
          have q2 : (j : Int) < (us.length : Int) := by omega
          obtain ⟨b1, o1, rfl, hc1⟩ := h1.cell j hju
          have hmem : us[j]?.getD 0 ∈ us := by rw [List.getElem?_eq_getElem hju]; exact List.getElem_mem _
          obtain ⟨hv1, hv2⟩ := Hu.out _ hmem
          unfold recN at hbs
          rw [hv1] at hc1
          generalize (us[j]?.getD 0).toNat = v at *
          clear hv1 hmem
          by_cases hji : j < is.length
          · have hib : decide ((j : Int) < (is.length : Int)) = true := by simp; omega
            have hib' : decide (j < is.length) = true := by simp; omega
            obtain ⟨b2, o2, rfl, hc2⟩ := h2.cell j hji
            have q4 : (j : Int) < (is.length : Int) := by omega
            have hmem2 : is[j]?.getD 0 ∈ is := by rw [List.getElem?_eq_getElem hji]; exact List.getElem_mem hji
            have hzz := Hi2.out _ hmem2
            rw [if_pos hji] at hbs
            generalize is[j]?.getD 0 = z at *
            have hrp := rsUint_put v (putU (zz z)) hv2
            have hrz := rsInt_put z [] hzz
            rw [List.append_nil] at hrz
            generalize hPZ : putU (zz z) = PZ at *
            generalize hRC : putU v ++ PZ = RC at *
            have Hrp := Lib.hid hrp
            have Hrz := Lib.hid hrz
            clear hmem2 hzz hrp hrz hPZ hRC
            go_wp2_with (go_at_call 77; refine (newReader_any p3 u3 r3 RC W2 hbs hpn hum).mono ?_; rintro e w6 ⟨g, q, rfl, R, hg, hq, E6⟩; have EC := E6.dr; have R := R.ext ((Ext.refl _).dr); have hgs : ∀ x ∈ [g], W2.heap.size ≤ x := (fun x hx => by simp only [List.mem_singleton] at hx; omega))
            refine rf_start [g] (by kernel_rfl) ?_
            refine rf_take (i := 0) (d := (some 75)) (v := ?_) rfl rfl (by kernel_rfl) (by kernel_rfl) (by kernel_rfl) (fun _ _ _ h => h) (by rfl) ?_ ?_
            rotate_left
            · (intro w' hSw; go_simp) <;> with_reducible rfl
            simp only [Act.put, List.setIfInBounds_toArray, List.set_cons_zero, List.set_cons_succ]
            refine rf_take (i := 2) (d := (some 77)) (v := ?_) rfl rfl (by kernel_rfl) (by kernel_rfl) (by kernel_rfl) (fun _ _ _ h => h) (by rfl) ?_ ?_
            rotate_left
            · (intro w' hSw; go_simp) <;> with_reducible rfl
            simp only [Act.put, List.setIfInBounds_toArray, List.set_cons_zero, List.set_cons_succ]
            refine rf_take (i := 3) (d := (some 78)) (v := ?_) rfl rfl (by kernel_rfl) (by kernel_rfl) (by kernel_rfl) (fun _ _ _ h => h) (by rfl) ?_ ?_
            rotate_left
            · (intro w' hSw; go_simp) <;> with_reducible rfl
            simp only [Act.put, List.setIfInBounds_toArray, List.set_cons_zero, List.set_cons_succ]
            refine rf_take (i := 4) (d := (some 79)) (v := ?_) rfl rfl (by kernel_rfl) (by kernel_rfl) (by kernel_rfl) (fun _ _ _ h => h) (by rfl) ?_ ?_
            rotate_left
            · (intro w' hSw; go_simp) <;> with_reducible rfl
            simp only [Act.put, List.setIfInBounds_toArray, List.set_cons_zero, List.set_cons_succ]
            refine rf_take (i := 5) (d := (some 80)) (v := ?_) rfl rfl (by kernel_rfl) (by kernel_rfl) (by kernel_rfl) (fun _ _ _ h => h) (by rfl) ?_ ?_
            rotate_left
            · (intro w' hSw; have k1 := (E.tr (hSw.ext EC hgs)).cell hc1; go_simp) <;> with_reducible rfl
            simp only [Act.put, List.setIfInBounds_toArray, List.set_cons_zero, List.set_cons_succ]
            refine rf_call (i := 1) rfl (by kernel_rfl) (by rfl) (fun K hK => ?_)
            go_simp
            refine (rUint_any g q RC 0 18446744073709551615 _ R (by omega)).mono ?_
            rw [Hrp.out]
            rintro e w7 ⟨rfl, R7, F7⟩
            dsimp only at R7 ⊢
            have EC := F7.ext EC hgs
            refine hK.out _ _ F7 ?_
            clear hK K
            try simp only [Act.put, List.setIfInBounds_toArray, List.set_cons_zero, List.set_cons_succ]
            refine rf_take (i := 6) (d := (some 81)) (v := ?_) rfl rfl (by kernel_rfl) (by kernel_rfl) (by kernel_rfl) (fun _ _ _ h => h) (by rfl) ?_ ?_
            rotate_left
            · (intro w' hSw; go_simp) <;> with_reducible rfl
            simp only [Act.put, List.setIfInBounds_toArray, List.set_cons_zero, List.set_cons_succ]
            refine rf_take (i := 7) (d := (some 82)) (v := ?_) rfl rfl (by kernel_rfl) (by kernel_rfl) (by kernel_rfl) (fun _ _ _ h => h) (by rfl) ?_ ?_
            rotate_left
            · (intro w' hSw; go_simp) <;> with_reducible rfl
            simp only [Act.put, List.setIfInBounds_toArray, List.set_cons_zero, List.set_cons_succ]
            refine rf_take (i := 8) (d := (some 83)) (v := ?_) rfl rfl (by kernel_rfl) (by kernel_rfl) (by kernel_rfl) (fun _ _ _ h => h) (by rfl) ?_ ?_
            rotate_left
            · (intro w' hSw; go_simp) <;> with_reducible rfl
            simp only [Act.put, List.setIfInBounds_toArray, List.set_cons_zero, List.set_cons_succ]
            refine rf_take (i := 9) (d := (some 84)) (v := ?_) rfl rfl (by kernel_rfl) (by kernel_rfl) (by kernel_rfl) (fun _ _ _ h => h) (by rfl) ?_ ?_
            rotate_left
            · (intro w' hSw; go_simp) <;> with_reducible rfl
            simp only [Act.put, List.setIfInBounds_toArray, List.set_cons_zero, List.set_cons_succ]
            refine rf_take (i := 10) (d := (some 85)) (v := ?_) rfl rfl (by kernel_rfl) (by kernel_rfl) (by kernel_rfl) (fun _ _ _ h => h) (by rfl) ?_ ?_
            rotate_left
            · (intro w' hSw; go_simp) <;> with_reducible rfl
            simp only [Act.put, List.setIfInBounds_toArray, List.set_cons_zero, List.set_cons_succ]
            refine rf_take (i := 11) (d := (some 86)) (v := ?_) rfl rfl (by kernel_rfl) (by kernel_rfl) (by kernel_rfl) (fun _ _ _ h => h) (by rfl) ?_ ?_
            rotate_left
            · (intro w' hSw; go_simp) <;> with_reducible rfl
            simp only [Act.put, List.setIfInBounds_toArray, List.set_cons_zero, List.set_cons_succ]
            refine rf_take (i := 12) (d := (some 87)) (v := ?_) rfl rfl (by kernel_rfl) (by kernel_rfl) (by kernel_rfl) (fun _ _ _ h => h) (by rfl) ?_ ?_
            rotate_left
            · (intro w' hSw; go_simp) <;> with_reducible rfl
            simp only [Act.put, List.setIfInBounds_toArray, List.set_cons_zero, List.set_cons_succ]
            refine rf_take (i := 13) (d := (some 88)) (v := ?_) rfl rfl (by kernel_rfl) (by kernel_rfl) (by kernel_rfl) (fun _ _ _ h => h) (by rfl) ?_ ?_
            rotate_left
            · (intro w' hSw; go_simp) <;> with_reducible rfl
            simp only [Act.put, List.setIfInBounds_toArray, List.set_cons_zero, List.set_cons_succ]
            refine rf_take (i := 15) (d := (some 90)) (v := ?_) rfl rfl (by kernel_rfl) (by kernel_rfl) (by kernel_rfl) (fun _ _ _ h => h) (by rfl) ?_ ?_
            rotate_left
            · (intro w' hSw; go_simp) <;> with_reducible rfl
            simp only [Act.put, List.setIfInBounds_toArray, List.set_cons_zero, List.set_cons_succ]
            refine rf_take (i := 16) (d := (some 91)) (v := ?_) rfl rfl (by kernel_rfl) (by kernel_rfl) (by kernel_rfl) (fun _ _ _ h => h) (by rfl) ?_ ?_
            rotate_left
            · (intro w' hSw; go_simp) <;> with_reducible rfl
            simp only [Act.put, List.setIfInBounds_toArray, List.set_cons_zero, List.set_cons_succ]
            refine rf_take (i := 17) (d := (some 92)) (v := ?_) rfl rfl (by kernel_rfl) (by kernel_rfl) (by kernel_rfl) (fun _ _ _ h => h) (by rfl) ?_ ?_
            rotate_left
            · (intro w' hSw; go_simp) <;> with_reducible rfl
            simp only [Act.put, List.setIfInBounds_toArray, List.set_cons_zero, List.set_cons_succ]
            refine rf_take (i := 18) (d := (some 93)) (v := ?_) rfl rfl (by kernel_rfl) (by kernel_rfl) (by kernel_rfl) (fun _ _ _ h => h) (by rfl) ?_ ?_
            rotate_left
            · (intro w' hSw; have k2 := (E.tr (hSw.ext EC hgs)).cell hc2; go_simp) <;> with_reducible rfl
            simp only [Act.put, List.setIfInBounds_toArray, List.set_cons_zero, List.set_cons_succ]
            refine rf_call (i := 14) rfl (by kernel_rfl) (by rfl) (fun K hK => ?_)
            go_simp
            refine (rInt_any g q PZ 0 _ R7).mono ?_
            rw [Hrz.out]
            rintro e w8 ⟨rfl, R8, F8⟩
            dsimp only at R8 ⊢
            have EC := F8.ext EC hgs
            refine hK.out _ _ F8 ?_
            clear hK K
            try simp only [Act.put, List.setIfInBounds_toArray, List.set_cons_zero, List.set_cons_succ]
            refine rf_take (i := 19) (d := (some 94)) (v := ?_) rfl rfl (by kernel_rfl) (by kernel_rfl) (by kernel_rfl) (fun _ _ _ h => h) (by rfl) ?_ ?_
            rotate_left
            · (intro w' hSw; go_simp) <;> with_reducible rfl
            simp only [Act.put, List.setIfInBounds_toArray, List.set_cons_zero, List.set_cons_succ]
            refine rf_take (i := 20) (d := (some 95)) (v := ?_) rfl rfl (by kernel_rfl) (by kernel_rfl) (by kernel_rfl) (fun _ _ _ h => h) (by rfl) ?_ ?_
            rotate_left
            · (intro w' hSw; go_simp) <;> with_reducible rfl
            simp only [Act.put, List.setIfInBounds_toArray, List.set_cons_zero, List.set_cons_succ]
            refine rf_take (i := 21) (d := (some 96)) (v := ?_) rfl rfl (by kernel_rfl) (by kernel_rfl) (by kernel_rfl) (fun _ _ _ h => h) (by rfl) ?_ ?_
            rotate_left
            · (intro w' hSw; go_simp) <;> with_reducible rfl
            simp only [Act.put, List.setIfInBounds_toArray, List.set_cons_zero, List.set_cons_succ]
            refine rf_take (i := 22) (d := (some 97)) (v := ?_) rfl rfl (by kernel_rfl) (by kernel_rfl) (by kernel_rfl) (fun _ _ _ h => h) (by rfl) ?_ ?_
            rotate_left
            · (intro w' hSw; go_simp) <;> with_reducible rfl
            simp only [Act.put, List.setIfInBounds_toArray, List.set_cons_zero, List.set_cons_succ]
            refine rf_take (i := 23) (d := (some 98)) (v := ?_) rfl rfl (by kernel_rfl) (by kernel_rfl) (by kernel_rfl) (fun _ _ _ h => h) (by rfl) ?_ ?_
            rotate_left
            · (intro w' hSw; go_simp) <;> with_reducible rfl
            simp only [Act.put, List.setIfInBounds_toArray, List.set_cons_zero, List.set_cons_succ]
            refine rf_call (i := 24) rfl (by kernel_rfl) (by rfl) (fun K hK => ?_)
            go_simp
            refine (rEnd_any g q [] 0 _ R8).mono ?_
            rw [ex_end]
            rintro e w9 ⟨rfl, rfl⟩
            refine hK.out _ _ (Frm.refl _ _) ?_
            clear hK K
            try simp only [Act.put, List.setIfInBounds_toArray, List.set_cons_zero, List.set_cons_succ]
            refine rf_take (i := 25) (d := (some 100)) (v := ?_) rfl rfl (by kernel_rfl) (by kernel_rfl) (by kernel_rfl) (fun _ _ _ h => h) (by rfl) ?_ ?_
            rotate_left
            · (intro w' hSw; go_simp) <;> with_reducible rfl
            simp only [Act.put, List.setIfInBounds_toArray, List.set_cons_zero, List.set_cons_succ]
            refine rf_take (i := 26) (d := (some 101)) (v := ?_) rfl rfl (by kernel_rfl) (by kernel_rfl) (by kernel_rfl) (fun _ _ _ h => h) (by rfl) ?_ ?_
            rotate_left
            · (intro w' hSw; go_simp) <;> with_reducible rfl
            simp only [Act.put, List.setIfInBounds_toArray, List.set_cons_zero, List.set_cons_succ]
            refine rf_done (by kernel_rfl) ?_
            go_wp2
            go_roundw
            case rel => exact ⟨j + 1, by omega, by go_num, EC.ls LG, E.tr EC⟩
            case measure => simp [intOf]; omega
          · have hib : decide ((j : Int) < (is.length : Int)) = false := by simp; omega
            have hib' : decide (j < is.length) = false := by simp; omega
            rw [if_neg hji, List.append_nil] at hbs
            have hrp := rsUint_put v [] hv2
            rw [List.append_nil] at hrp
            generalize hRC : putU v = RC at *
            have Hrp := Lib.hid hrp
            clear hrp hRC
            go_wp2_with (go_at_call 77; refine (newReader_any p3 u3 r3 RC W2 hbs hpn hum).mono ?_; rintro e w6 ⟨g, q, rfl, R, hg, hq, E6⟩; have EC := E6.dr; have R := R.ext ((Ext.refl _).dr); have hgs : ∀ x ∈ [g], W2.heap.size ≤ x := (fun x hx => by simp only [List.mem_singleton] at hx; omega))
            refine rf_start [g] (by kernel_rfl) ?_
            refine rf_take (i := 0) (d := (some 75)) (v := ?_) rfl rfl (by kernel_rfl) (by kernel_rfl) (by kernel_rfl) (fun _ _ _ h => h) (by rfl) ?_ ?_
            rotate_left
            · (intro w' hSw; go_simp) <;> with_reducible rfl
            simp only [Act.put, List.setIfInBounds_toArray, List.set_cons_zero, List.set_cons_succ]
            refine rf_take (i := 2) (d := (some 77)) (v := ?_) rfl rfl (by kernel_rfl) (by kernel_rfl) (by kernel_rfl) (fun _ _ _ h => h) (by rfl) ?_ ?_
            rotate_left
            · (intro w' hSw; go_simp) <;> with_reducible rfl
            simp only [Act.put, List.setIfInBounds_toArray, List.set_cons_zero, List.set_cons_succ]
            refine rf_take (i := 3) (d := (some 78)) (v := ?_) rfl rfl (by kernel_rfl) (by kernel_rfl) (by kernel_rfl) (fun _ _ _ h => h) (by rfl) ?_ ?_
            rotate_left
            · (intro w' hSw; go_simp) <;> with_reducible rfl
            simp only [Act.put, List.setIfInBounds_toArray, List.set_cons_zero, List.set_cons_succ]
            refine rf_take (i := 4) (d := (some 79)) (v := ?_) rfl rfl (by kernel_rfl) (by kernel_rfl) (by kernel_rfl) (fun _ _ _ h => h) (by rfl) ?_ ?_
            rotate_left
            · (intro w' hSw; go_simp) <;> with_reducible rfl
            simp only [Act.put, List.setIfInBounds_toArray, List.set_cons_zero, List.set_cons_succ]
            refine rf_take (i := 5) (d := (some 80)) (v := ?_) rfl rfl (by kernel_rfl) (by kernel_rfl) (by kernel_rfl) (fun _ _ _ h => h) (by rfl) ?_ ?_
            rotate_left
            · (intro w' hSw; have k1 := (E.tr (hSw.ext EC hgs)).cell hc1; go_simp) <;> with_reducible rfl
            simp only [Act.put, List.setIfInBounds_toArray, List.set_cons_zero, List.set_cons_succ]
            refine rf_call (i := 1) rfl (by kernel_rfl) (by rfl) (fun K hK => ?_)
            go_simp
            refine (rUint_any g q RC 0 18446744073709551615 _ R (by omega)).mono ?_
            rw [Hrp.out]
            rintro e w7 ⟨rfl, R7, F7⟩
            dsimp only at R7 ⊢
            have EC := F7.ext EC hgs
            refine hK.out _ _ F7 ?_
            clear hK K
            try simp only [Act.put, List.setIfInBounds_toArray, List.set_cons_zero, List.set_cons_succ]
            refine rf_take (i := 6) (d := (some 81)) (v := ?_) rfl rfl (by kernel_rfl) (by kernel_rfl) (by kernel_rfl) (fun _ _ _ h => h) (by rfl) ?_ ?_
            rotate_left
            · (intro w' hSw; go_simp) <;> with_reducible rfl
            simp only [Act.put, List.setIfInBounds_toArray, List.set_cons_zero, List.set_cons_succ]
            refine rf_take (i := 7) (d := (some 82)) (v := ?_) rfl rfl (by kernel_rfl) (by kernel_rfl) (by kernel_rfl) (fun _ _ _ h => h) (by rfl) ?_ ?_
            rotate_left
            · (intro w' hSw; go_simp) <;> with_reducible rfl
            simp only [Act.put, List.setIfInBounds_toArray, List.set_cons_zero, List.set_cons_succ]
            refine rf_take (i := 8) (d := (some 83)) (v := ?_) rfl rfl (by kernel_rfl) (by kernel_rfl) (by kernel_rfl) (fun _ _ _ h => h) (by rfl) ?_ ?_
            rotate_left
            · (intro w' hSw; go_simp) <;> with_reducible rfl
            simp only [Act.put, List.setIfInBounds_toArray, List.set_cons_zero, List.set_cons_succ]
            refine rf_take (i := 9) (d := (some 84)) (v := ?_) rfl rfl (by kernel_rfl) (by kernel_rfl) (by kernel_rfl) (fun _ _ _ h => h) (by rfl) ?_ ?_
            rotate_left
            · (intro w' hSw; go_simp) <;> with_reducible rfl
            simp only [Act.put, List.setIfInBounds_toArray, List.set_cons_zero, List.set_cons_succ]
            refine rf_take (i := 10) (d := (some 85)) (v := ?_) rfl rfl (by kernel_rfl) (by kernel_rfl) (by kernel_rfl) (fun _ _ _ h => h) (by rfl) ?_ ?_
            rotate_left
            · (intro w' hSw; go_simp) <;> with_reducible rfl
            simp only [Act.put, List.setIfInBounds_toArray, List.set_cons_zero, List.set_cons_succ]
            refine rf_take (i := 11) (d := (some 86)) (v := ?_) rfl rfl (by kernel_rfl) (by kernel_rfl) (by kernel_rfl) (fun _ _ _ h => h) (by rfl) ?_ ?_
            rotate_left
            · (intro w' hSw; go_simp) <;> with_reducible rfl
            simp only [Act.put, List.setIfInBounds_toArray, List.set_cons_zero, List.set_cons_succ]
            refine rf_take (i := 12) (d := (some 87)) (v := ?_) rfl rfl (by kernel_rfl) (by kernel_rfl) (by kernel_rfl) (fun _ _ _ h => h) (by rfl) ?_ ?_
            rotate_left
            · (intro w' hSw; go_simp) <;> with_reducible rfl
            simp only [Act.put, List.setIfInBounds_toArray, List.set_cons_zero, List.set_cons_succ]
            refine rf_skip (i := 13) (d := (some 88)) rfl rfl (by kernel_rfl) (by kernel_rfl) (by kernel_rfl) (fun _ _ _ h => h) (by rfl) ?_
            simp only [Act.put, List.setIfInBounds_toArray, List.set_cons_zero, List.set_cons_succ]
            refine rf_skip (i := 14) (d := (some 89)) rfl rfl (by kernel_rfl) (by kernel_rfl) (by kernel_rfl) (fun _ _ _ h => h) (by rfl) ?_
            simp only [Act.put, List.setIfInBounds_toArray, List.set_cons_zero, List.set_cons_succ]
            refine rf_skip (i := 15) (d := (some 90)) rfl rfl (by kernel_rfl) (by kernel_rfl) (by kernel_rfl) (fun _ _ _ h => h) (by rfl) ?_
            simp only [Act.put, List.setIfInBounds_toArray, List.set_cons_zero, List.set_cons_succ]
            refine rf_skip (i := 16) (d := (some 91)) rfl rfl (by kernel_rfl) (by kernel_rfl) (by kernel_rfl) (fun _ _ _ h => h) (by rfl) ?_
            simp only [Act.put, List.setIfInBounds_toArray, List.set_cons_zero, List.set_cons_succ]
            refine rf_skip (i := 17) (d := (some 92)) rfl rfl (by kernel_rfl) (by kernel_rfl) (by kernel_rfl) (fun _ _ _ h => h) (by rfl) ?_
            simp only [Act.put, List.setIfInBounds_toArray, List.set_cons_zero, List.set_cons_succ]
            refine rf_skip (i := 18) (d := (some 93)) rfl rfl (by kernel_rfl) (by kernel_rfl) (by kernel_rfl) (fun _ _ _ h => h) (by rfl) ?_
            simp only [Act.put, List.setIfInBounds_toArray, List.set_cons_zero, List.set_cons_succ]
            refine rf_skip (i := 19) (d := (some 94)) rfl rfl (by kernel_rfl) (by kernel_rfl) (by kernel_rfl) (fun _ _ _ h => h) (by rfl) ?_
            simp only [Act.put, List.setIfInBounds_toArray, List.set_cons_zero, List.set_cons_succ]
            refine rf_take (i := 20) (d := (some 95)) (v := ?_) rfl rfl (by kernel_rfl) (by kernel_rfl) (by kernel_rfl) (fun _ _ _ h => h) (by rfl) ?_ ?_
            rotate_left
            · (intro w' hSw; go_simp) <;> with_reducible rfl
            simp only [Act.put, List.setIfInBounds_toArray, List.set_cons_zero, List.set_cons_succ]
            refine rf_take (i := 21) (d := (some 96)) (v := ?_) rfl rfl (by kernel_rfl) (by kernel_rfl) (by kernel_rfl) (fun _ _ _ h => h) (by rfl) ?_ ?_
            rotate_left
            · (intro w' hSw; go_simp) <;> with_reducible rfl
            simp only [Act.put, List.setIfInBounds_toArray, List.set_cons_zero, List.set_cons_succ]
            refine rf_take (i := 22) (d := (some 97)) (v := ?_) rfl rfl (by kernel_rfl) (by kernel_rfl) (by kernel_rfl) (fun _ _ _ h => h) (by rfl) ?_ ?_
            rotate_left
            · (intro w' hSw; go_simp) <;> with_reducible rfl
            simp only [Act.put, List.setIfInBounds_toArray, List.set_cons_zero, List.set_cons_succ]
            refine rf_take (i := 23) (d := (some 98)) (v := ?_) rfl rfl (by kernel_rfl) (by kernel_rfl) (by kernel_rfl) (fun _ _ _ h => h) (by rfl) ?_ ?_
            rotate_left
            · (intro w' hSw; go_simp) <;> with_reducible rfl
            simp only [Act.put, List.setIfInBounds_toArray, List.set_cons_zero, List.set_cons_succ]
            refine rf_call (i := 24) rfl (by kernel_rfl) (by rfl) (fun K hK => ?_)
            go_simp
            refine (rEnd_any g q [] 0 _ R7).mono ?_
            rw [ex_end]
            rintro e w9 ⟨rfl, rfl⟩
            refine hK.out _ _ (Frm.refl _ _) ?_
            clear hK K
            try simp only [Act.put, List.setIfInBounds_toArray, List.set_cons_zero, List.set_cons_succ]
            refine rf_take (i := 25) (d := (some 100)) (v := ?_) rfl rfl (by kernel_rfl) (by kernel_rfl) (by kernel_rfl) (fun _ _ _ h => h) (by rfl) ?_ ?_
            rotate_left
            · (intro w' hSw; go_simp) <;> with_reducible rfl
            simp only [Act.put, List.setIfInBounds_toArray, List.set_cons_zero, List.set_cons_succ]
            refine rf_take (i := 26) (d := (some 101)) (v := ?_) rfl rfl (by kernel_rfl) (by kernel_rfl) (by kernel_rfl) (fun _ _ _ h => h) (by rfl) ?_ ?_
            rotate_left
            · (intro w' hSw; go_simp) <;> with_reducible rfl
            simp only [Act.put, List.setIfInBounds_toArray, List.set_cons_zero, List.set_cons_succ]
            refine rf_done (by kernel_rfl) ?_
            go_wp2
            go_roundw
            case rel => exact ⟨j + 1, by omega, by go_num, EC.ls LG, E.tr EC⟩
            case measure => simp [intOf]; omega
        have hjb : decide ((j : Int) < (k : Int)) = false := by simp; omega
        have hjb' : decide (j < k) = false := by simp; omega
        go_wp2
        go_ret
        exact ⟨rfl, E⟩
    · obtain ⟨t1, t2, t3, t4, t5, t6, t7, t8, t9⟩ := HQ.2 h10
      clear HQ hkl h10
      go_wp2_with (go_at_call 38; refine (bodies_any a n c (fileOf F) W O.bs (by omega) O.cap.2).mono ?_; rintro e w4 ⟨a4, c4, rows4, rfl, V4, hD4, E4⟩; rw [Hsw1.out] at hD4; rw [Hsw2.out]; obtain ⟨LG, hrl4⟩ := bod_ls (l := fileOf F) V4 hD4 Hbig.out; rw [hrl4, HFl.out]; rw [HFl.out] at LG; have E04 := E.tr E4)
      clear V4 hD4 hrl4 O
      go_loopw [68] (fun i wr => ∃ j : Nat, j ≤ k ∧ i = .int .i64 (j : Int) ∧ Ls wr a4 k F ∧ Ext w wr) (fun i _ => k - (intOf i).toNat)
      case atStart => exact ⟨0, by omega, rfl, LG, E04⟩
      case round =>
        obtain ⟨j, hj, rfl, LG, E⟩ := hrel
        rename World => W2
        by_cases hjn : j < k
        · have hjb : decide ((j : Int) < (k : Int)) = true := by simp; omega
          have hjb' : decide (j < k) = true := by simp; omega
          obtain ⟨b3, o3, p3, u3, r3, rfl, hcl, hbs, hur, hpn, hum⟩ := LG.at j hjn
          rw [HFat.out j hjn, Option.getD_some] at hbs
          have q1 : (j : Int) < (k : Int) := by omega
          have q0 : (0 : Int) ≤ (j : Int) := by omega
          have hju : j < us.length := by omega
          have q2 : (j : Int) < (us.length : Int) := by omega
          obtain ⟨b1, o1, rfl, hc1⟩ := h1.cell j hju
          have hmem : us[j]?.getD 0 ∈ us := by rw [List.getElem?_eq_getElem hju]; exact List.getElem_mem _
          obtain ⟨hv1, hv2⟩ := Hu.out _ hmem
          unfold recN at hbs
          rw [hv1] at hc1
          generalize (us[j]?.getD 0).toNat = v at *
          clear hv1 hmem
          by_cases hji : j < is.length
          · have hib : decide ((j : Int) < (is.length : Int)) = true := by simp; omega
            have hib' : decide (j < is.length) = true := by simp; omega
            obtain ⟨b2, o2, rfl, hc2⟩ := h2.cell j hji
            have q4 : (j : Int) < (is.length : Int) := by omega
            have hmem2 : is[j]?.getD 0 ∈ is := by rw [List.getElem?_eq_getElem hji]; exact List.getElem_mem hji
            have hzz := Hi2.out _ hmem2
            rw [if_pos hji] at hbs
            generalize is[j]?.getD 0 = z at *
            have hrp := rsUint_put v (putU (zz z)) hv2
            have hrz := rsInt_put z [] hzz
            rw [List.append_nil] at hrz
            generalize hPZ : putU (zz z) = PZ at *
            generalize hRC : putU v ++ PZ = RC at *
            have Hrp := Lib.hid hrp
            have Hrz := Lib.hid hrz
            clear hmem2 hzz hrp hrz hPZ hRC
            go_wp2_with (go_at_call 77; refine (newReader_any p3 u3 r3 RC W2 hbs hpn hum).mono ?_; rintro e w6 ⟨g, q, rfl, R, hg, hq, E6⟩; have EC := E6.dr; have R := R.ext ((Ext.refl _).dr); have hgs : ∀ x ∈ [g], W2.heap.size ≤ x := (fun x hx => by simp only [List.mem_singleton] at hx; omega))
            refine rf_start [g] (by kernel_rfl) ?_
            refine rf_take (i := 0) (d := (some 75)) (v := ?_) rfl rfl (by kernel_rfl) (by kernel_rfl) (by kernel_rfl) (fun _ _ _ h => h) (by rfl) ?_ ?_
            rotate_left
            · (intro w' hSw; go_simp) <;> with_reducible rfl
            simp only [Act.put, List.setIfInBounds_toArray, List.set_cons_zero, List.set_cons_succ]
            refine rf_take (i := 2) (d := (some 77)) (v := ?_) rfl rfl (by kernel_rfl) (by kernel_rfl) (by kernel_rfl) (fun _ _ _ h => h) (by rfl) ?_ ?_
            rotate_left
            · (intro w' hSw; go_simp) <;> with_reducible rfl
            simp only [Act.put, List.setIfInBounds_toArray, List.set_cons_zero, List.set_cons_succ]
            refine rf_take (i := 3) (d := (some 78)) (v := ?_) rfl rfl (by kernel_rfl) (by kernel_rfl) (by kernel_rfl) (fun _ _ _ h => h) (by rfl) ?_ ?_
            rotate_left
            · (intro w' hSw; go_simp) <;> with_reducible rfl
            simp only [Act.put, List.setIfInBounds_toArray, List.set_cons_zero, List.set_cons_succ]
            refine rf_take (i := 4) (d := (some 79)) (v := ?_) rfl rfl (by kernel_rfl) (by kernel_rfl) (by kernel_rfl) (fun _ _ _ h => h) (by rfl) ?_ ?_
            rotate_left
            · (intro w' hSw; go_simp) <;> with_reducible rfl
            simp only [Act.put, List.setIfInBounds_toArray, List.set_cons_zero, List.set_cons_succ]
            refine rf_take (i := 5) (d := (some 80)) (v := ?_) rfl rfl (by kernel_rfl) (by kernel_rfl) (by kernel_rfl) (fun _ _ _ h => h) (by rfl) ?_ ?_
            rotate_left
            · (intro w' hSw; have k1 := (E.tr (hSw.ext EC hgs)).cell hc1; go_simp) <;> with_reducible rfl
            simp only [Act.put, List.setIfInBounds_toArray, List.set_cons_zero, List.set_cons_succ]
            refine rf_call (i := 1) rfl (by kernel_rfl) (by rfl) (fun K hK => ?_)
            go_simp
            refine (rUint_any g q RC 0 18446744073709551615 _ R (by omega)).mono ?_
            rw [Hrp.out]
            rintro e w7 ⟨rfl, R7, F7⟩
            dsimp only at R7 ⊢
            have EC := F7.ext EC hgs
            refine hK.out _ _ F7 ?_
            clear hK K
            try simp only [Act.put, List.setIfInBounds_toArray, List.set_cons_zero, List.set_cons_succ]
            refine rf_take (i := 6) (d := (some 81)) (v := ?_) rfl rfl (by kernel_rfl) (by kernel_rfl) (by kernel_rfl) (fun _ _ _ h => h) (by rfl) ?_ ?_
            rotate_left
            · (intro w' hSw; go_simp) <;> with_reducible rfl
            simp only [Act.put, List.setIfInBounds_toArray, List.set_cons_zero, List.set_cons_succ]
            refine rf_take (i := 7) (d := (some 82)) (v := ?_) rfl rfl (by kernel_rfl) (by kernel_rfl) (by kernel_rfl) (fun _ _ _ h => h) (by rfl) ?_ ?_
            rotate_left
            · (intro w' hSw; go_simp) <;> with_reducible rfl
            simp only [Act.put, List.setIfInBounds_toArray, List.set_cons_zero, List.set_cons_succ]
            refine rf_take (i := 8) (d := (some 83)) (v := ?_) rfl rfl (by kernel_rfl) (by kernel_rfl) (by kernel_rfl) (fun _ _ _ h => h) (by rfl) ?_ ?_
            rotate_left
            · (intro w' hSw; go_simp) <;> with_reducible rfl
            simp only [Act.put, List.setIfInBounds_toArray, List.set_cons_zero, List.set_cons_succ]
            refine rf_take (i := 9) (d := (some 84)) (v := ?_) rfl rfl (by kernel_rfl) (by kernel_rfl) (by kernel_rfl) (fun _ _ _ h => h) (by rfl) ?_ ?_
            rotate_left
            · (intro w' hSw; go_simp) <;> with_reducible rfl
            simp only [Act.put, List.setIfInBounds_toArray, List.set_cons_zero, List.set_cons_succ]
            refine rf_take (i := 10) (d := (some 85)) (v := ?_) rfl rfl (by kernel_rfl) (by kernel_rfl) (by kernel_rfl) (fun _ _ _ h => h) (by rfl) ?_ ?_
            rotate_left
            · (intro w' hSw; go_simp) <;> with_reducible rfl
            simp only [Act.put, List.setIfInBounds_toArray, List.set_cons_zero, List.set_cons_succ]
            refine rf_take (i := 11) (d := (some 86)) (v := ?_) rfl rfl (by kernel_rfl) (by kernel_rfl) (by kernel_rfl) (fun _ _ _ h => h) (by rfl) ?_ ?_
            rotate_left
            · (intro w' hSw; go_simp) <;> with_reducible rfl
            simp only [Act.put, List.setIfInBounds_toArray, List.set_cons_zero, List.set_cons_succ]
            refine rf_take (i := 12) (d := (some 87)) (v := ?_) rfl rfl (by kernel_rfl) (by kernel_rfl) (by kernel_rfl) (fun _ _ _ h => h) (by rfl) ?_ ?_
            rotate_left
            · (intro w' hSw; go_simp) <;> with_reducible rfl
            simp only [Act.put, List.setIfInBounds_toArray, List.set_cons_zero, List.set_cons_succ]
            refine rf_take (i := 13) (d := (some 88)) (v := ?_) rfl rfl (by kernel_rfl) (by kernel_rfl) (by kernel_rfl) (fun _ _ _ h => h) (by rfl) ?_ ?_
            rotate_left
            · (intro w' hSw; go_simp) <;> with_reducible rfl
            simp only [Act.put, List.setIfInBounds_toArray, List.set_cons_zero, List.set_cons_succ]
            refine rf_take (i := 15) (d := (some 90)) (v := ?_) rfl rfl (by kernel_rfl) (by kernel_rfl) (by kernel_rfl) (fun _ _ _ h => h) (by rfl) ?_ ?_
            rotate_left
            · (intro w' hSw; go_simp) <;> with_reducible rfl
            simp only [Act.put, List.setIfInBounds_toArray, List.set_cons_zero, List.set_cons_succ]
            refine rf_take (i := 16) (d := (some 91)) (v := ?_) rfl rfl (by kernel_rfl) (by kernel_rfl) (by kernel_rfl) (fun _ _ _ h => h) (by rfl) ?_ ?_
            rotate_left
            · (intro w' hSw; go_simp) <;> with_reducible rfl
            simp only [Act.put, List.setIfInBounds_toArray, List.set_cons_zero, List.set_cons_succ]
            refine rf_take (i := 17) (d := (some 92)) (v := ?_) rfl rfl (by kernel_rfl) (by kernel_rfl) (by kernel_rfl) (fun _ _ _ h => h) (by rfl) ?_ ?_
            rotate_left
            · (intro w' hSw; go_simp) <;> with_reducible rfl
            simp only [Act.put, List.setIfInBounds_toArray, List.set_cons_zero, List.set_cons_succ]
            refine rf_take (i := 18) (d := (some 93)) (v := ?_) rfl rfl (by kernel_rfl) (by kernel_rfl) (by kernel_rfl) (fun _ _ _ h => h) (by rfl) ?_ ?_
            rotate_left
            · (intro w' hSw; have k2 := (E.tr (hSw.ext EC hgs)).cell hc2; go_simp) <;> with_reducible rfl
            simp only [Act.put, List.setIfInBounds_toArray, List.set_cons_zero, List.set_cons_succ]
            refine rf_call (i := 14) rfl (by kernel_rfl) (by rfl) (fun K hK => ?_)
            go_simp
            refine (rInt_any g q PZ 0 _ R7).mono ?_
            rw [Hrz.out]
            rintro e w8 ⟨rfl, R8, F8⟩
            dsimp only at R8 ⊢
            have EC := F8.ext EC hgs
            refine hK.out _ _ F8 ?_
            clear hK K
            try simp only [Act.put, List.setIfInBounds_toArray, List.set_cons_zero, List.set_cons_succ]
            refine rf_take (i := 19) (d := (some 94)) (v := ?_) rfl rfl (by kernel_rfl) (by kernel_rfl) (by kernel_rfl) (fun _ _ _ h => h) (by rfl) ?_ ?_
            rotate_left
            · (intro w' hSw; go_simp) <;> with_reducible rfl
            simp only [Act.put, List.setIfInBounds_toArray, List.set_cons_zero, List.set_cons_succ]
            refine rf_take (i := 20) (d := (some 95)) (v := ?_) rfl rfl (by kernel_rfl) (by kernel_rfl) (by kernel_rfl) (fun _ _ _ h => h) (by rfl) ?_ ?_
            rotate_left
            · (intro w' hSw; go_simp) <;> with_reducible rfl
            simp only [Act.put, List.setIfInBounds_toArray, List.set_cons_zero, List.set_cons_succ]
            refine rf_take (i := 21) (d := (some 96)) (v := ?_) rfl rfl (by kernel_rfl) (by kernel_rfl) (by kernel_rfl) (fun _ _ _ h => h) (by rfl) ?_ ?_
            rotate_left
            · (intro w' hSw; go_simp) <;> with_reducible rfl
            simp only [Act.put, List.setIfInBounds_toArray, List.set_cons_zero, List.set_cons_succ]
            refine rf_take (i := 22) (d := (some 97)) (v := ?_) rfl rfl (by kernel_rfl) (by kernel_rfl) (by kernel_rfl) (fun _ _ _ h => h) (by rfl) ?_ ?_
            rotate_left
            · (intro w' hSw; go_simp) <;> with_reducible rfl
            simp only [Act.put, List.setIfInBounds_toArray, List.set_cons_zero, List.set_cons_succ]
            refine rf_take (i := 23) (d := (some 98)) (v := ?_) rfl rfl (by kernel_rfl) (by kernel_rfl) (by kernel_rfl) (fun _ _ _ h => h) (by rfl) ?_ ?_
            rotate_left
            · (intro w' hSw; go_simp) <;> with_reducible rfl
            simp only [Act.put, List.setIfInBounds_toArray, List.set_cons_zero, List.set_cons_succ]
            refine rf_call (i := 24) rfl (by kernel_rfl) (by rfl) (fun K hK => ?_)
            go_simp
            refine (rEnd_any g q [] 0 _ R8).mono ?_
            rw [ex_end]
            rintro e w9 ⟨rfl, rfl⟩
            refine hK.out _ _ (Frm.refl _ _) ?_
            clear hK K
            try simp only [Act.put, List.setIfInBounds_toArray, List.set_cons_zero, List.set_cons_succ]
            refine rf_take (i := 25) (d := (some 100)) (v := ?_) rfl rfl (by kernel_rfl) (by kernel_rfl) (by kernel_rfl) (fun _ _ _ h => h) (by rfl) ?_ ?_
            rotate_left
            · (intro w' hSw; go_simp) <;> with_reducible rfl
            simp only [Act.put, List.setIfInBounds_toArray, List.set_cons_zero, List.set_cons_succ]
            refine rf_take (i := 26) (d := (some 101)) (v := ?_) rfl rfl (by kernel_rfl) (by kernel_rfl) (by kernel_rfl) (fun _ _ _ h => h) (by rfl) ?_ ?_
            rotate_left
            · (intro w' hSw; go_simp) <;> with_reducible rfl
            simp only [Act.put, List.setIfInBounds_toArray, List.set_cons_zero, List.set_cons_succ]
            refine rf_done (by kernel_rfl) ?_
            go_wp2
            go_roundw
            case rel => exact ⟨j + 1, by omega, by go_num, EC.ls LG, E.tr EC⟩
            case measure => simp [intOf]; omega
          · have hib : decide ((j : Int) < (is.length : Int)) = false := by simp; omega
            have hib' : decide (j < is.length) = false := by simp; omega
            rw [if_neg hji, List.append_nil] at hbs
            have hrp := rsUint_put v [] hv2
            rw [List.append_nil] at hrp
            generalize hRC : putU v = RC at *
            have Hrp := Lib.hid hrp
            clear hrp hRC
            go_wp2_with (go_at_call 77; refine (newReader_any p3 u3 r3 RC W2 hbs hpn hum).mono ?_; rintro e w6 ⟨g, q, rfl, R, hg, hq, E6⟩; have EC := E6.dr; have R := R.ext ((Ext.refl _).dr); have hgs : ∀ x ∈ [g], W2.heap.size ≤ x := (fun x hx => by simp only [List.mem_singleton] at hx; omega))
            refine rf_start [g] (by kernel_rfl) ?_
            refine rf_take (i := 0) (d := (some 75)) (v := ?_) rfl rfl (by kernel_rfl) (by kernel_rfl) (by kernel_rfl) (fun _ _ _ h => h) (by rfl) ?_ ?_
            rotate_left
            · (intro w' hSw; go_simp) <;> with_reducible rfl
            simp only [Act.put, List.setIfInBounds_toArray, List.set_cons_zero, List.set_cons_succ]
            refine rf_take (i := 2) (d := (some 77)) (v := ?_) rfl rfl (by kernel_rfl) (by kernel_rfl) (by kernel_rfl) (fun _ _ _ h => h) (by rfl) ?_ ?_
            rotate_left
            · (intro w' hSw; go_simp) <;> with_reducible rfl
            simp only [Act.put, List.setIfInBounds_toArray, List.set_cons_zero, List.set_cons_succ]
            refine rf_take (i := 3) (d := (some 78)) (v := ?_) rfl rfl (by kernel_rfl) (by kernel_rfl) (by kernel_rfl) (fun _ _ _ h => h) (by rfl) ?_ ?_
            rotate_left
            · (intro w' hSw; go_simp) <;> with_reducible rfl
            simp only [Act.put, List.setIfInBounds_toArray, List.set_cons_zero, List.set_cons_succ]
            refine rf_take (i := 4) (d := (some 79)) (v := ?_) rfl rfl (by kernel_rfl) (by kernel_rfl) (by kernel_rfl) (fun _ _ _ h => h) (by rfl) ?_ ?_
            rotate_left
            · (intro w' hSw; go_simp) <;> with_reducible rfl
            simp only [Act.put, List.setIfInBounds_toArray, List.set_cons_zero, List.set_cons_succ]
            refine rf_take (i := 5) (d := (some 80)) (v := ?_) rfl rfl (by kernel_rfl) (by kernel_rfl) (by kernel_rfl) (fun _ _ _ h => h) (by rfl) ?_ ?_
            rotate_left
            · (intro w' hSw; have k1 := (E.tr (hSw.ext EC hgs)).cell hc1; go_simp) <;> with_reducible rfl
            simp only [Act.put, List.setIfInBounds_toArray, List.set_cons_zero, List.set_cons_succ]
            refine rf_call (i := 1) rfl (by kernel_rfl) (by rfl) (fun K hK => ?_)
            go_simp
            refine (rUint_any g q RC 0 18446744073709551615 _ R (by omega)).mono ?_
            rw [Hrp.out]
            rintro e w7 ⟨rfl, R7, F7⟩
            dsimp only at R7 ⊢
            have EC := F7.ext EC hgs
            refine hK.out _ _ F7 ?_
            clear hK K
            try simp only [Act.put, List.setIfInBounds_toArray, List.set_cons_zero, List.set_cons_succ]
            refine rf_take (i := 6) (d := (some 81)) (v := ?_) rfl rfl (by kernel_rfl) (by kernel_rfl) (by kernel_rfl) (fun _ _ _ h => h) (by rfl) ?_ ?_
            rotate_left
            · (intro w' hSw; go_simp) <;> with_reducible rfl
            simp only [Act.put, List.setIfInBounds_toArray, List.set_cons_zero, List.set_cons_succ]
            refine rf_take (i := 7) (d := (some 82)) (v := ?_) rfl rfl (by kernel_rfl) (by kernel_rfl) (by kernel_rfl) (fun _ _ _ h => h) (by rfl) ?_ ?_
            rotate_left
            · (intro w' hSw; go_simp) <;> with_reducible rfl
            simp only [Act.put, List.setIfInBounds_toArray, List.set_cons_zero, List.set_cons_succ]
            refine rf_take (i := 8) (d := (some 83)) (v := ?_) rfl rfl (by kernel_rfl) (by kernel_rfl) (by kernel_rfl) (fun _ _ _ h => h) (by rfl) ?_ ?_
            rotate_left
            · (intro w' hSw; go_simp) <;> with_reducible rfl
            simp only [Act.put, List.setIfInBounds_toArray, List.set_cons_zero, List.set_cons_succ]
            refine rf_take (i := 9) (d := (some 84)) (v := ?_) rfl rfl (by kernel_rfl) (by kernel_rfl) (by kernel_rfl) (fun _ _ _ h => h) (by rfl) ?_ ?_
            rotate_left
            · (intro w' hSw; go_simp) <;> with_reducible rfl
            simp only [Act.put, List.setIfInBounds_toArray, List.set_cons_zero, List.set_cons_succ]
            refine rf_take (i := 10) (d := (some 85)) (v := ?_) rfl rfl (by kernel_rfl) (by kernel_rfl) (by kernel_rfl) (fun _ _ _ h => h) (by rfl) ?_ ?_
            rotate_left
            · (intro w' hSw; go_simp) <;> with_reducible rfl
            simp only [Act.put, List.setIfInBounds_toArray, List.set_cons_zero, List.set_cons_succ]
            refine rf_take (i := 11) (d := (some 86)) (v := ?_) rfl rfl (by kernel_rfl) (by kernel_rfl) (by kernel_rfl) (fun _ _ _ h => h) (by rfl) ?_ ?_
            rotate_left
            · (intro w' hSw; go_simp) <;> with_reducible rfl
            simp only [Act.put, List.setIfInBounds_toArray, List.set_cons_zero, List.set_cons_succ]
            refine rf_take (i := 12) (d := (some 87)) (v := ?_) rfl rfl (by kernel_rfl) (by kernel_rfl) (by kernel_rfl) (fun _ _ _ h => h) (by rfl) ?_ ?_
            rotate_left
            · (intro w' hSw; go_simp) <;> with_reducible rfl
            simp only [Act.put, List.setIfInBounds_toArray, List.set_cons_zero, List.set_cons_succ]
            refine rf_skip (i := 13) (d := (some 88)) rfl rfl (by kernel_rfl) (by kernel_rfl) (by kernel_rfl) (fun _ _ _ h => h) (by rfl) ?_
            simp only [Act.put, List.setIfInBounds_toArray, List.set_cons_zero, List.set_cons_succ]
            refine rf_skip (i := 14) (d := (some 89)) rfl rfl (by kernel_rfl) (by kernel_rfl) (by kernel_rfl) (fun _ _ _ h => h) (by rfl) ?_
            simp only [Act.put, List.setIfInBounds_toArray, List.set_cons_zero, List.set_cons_succ]
            refine rf_skip (i := 15) (d := (some 90)) rfl rfl (by kernel_rfl) (by kernel_rfl) (by kernel_rfl) (fun _ _ _ h => h) (by rfl) ?_
            simp only [Act.put, List.setIfInBounds_toArray, List.set_cons_zero, List.set_cons_succ]
            refine rf_skip (i := 16) (d := (some 91)) rfl rfl (by kernel_rfl) (by kernel_rfl) (by kernel_rfl) (fun _ _ _ h => h) (by rfl) ?_
            simp only [Act.put, List.setIfInBounds_toArray, List.set_cons_zero, List.set_cons_succ]
            refine rf_skip (i := 17) (d := (some 92)) rfl rfl (by kernel_rfl) (by kernel_rfl) (by kernel_rfl) (fun _ _ _ h => h) (by rfl) ?_
            simp only [Act.put, List.setIfInBounds_toArray, List.set_cons_zero, List.set_cons_succ]
            refine rf_skip (i := 18) (d := (some 93)) rfl rfl (by kernel_rfl) (by kernel_rfl) (by kernel_rfl) (fun _ _ _ h => h) (by rfl) ?_
            simp only [Act.put, List.setIfInBounds_toArray, List.set_cons_zero, List.set_cons_succ]
            refine rf_skip (i := 19) (d := (some 94)) rfl rfl (by kernel_rfl) (by kernel_rfl) (by kernel_rfl) (fun _ _ _ h => h) (by rfl) ?_
            simp only [Act.put, List.setIfInBounds_toArray, List.set_cons_zero, List.set_cons_succ]
            refine rf_take (i := 20) (d := (some 95)) (v := ?_) rfl rfl (by kernel_rfl) (by kernel_rfl) (by kernel_rfl) (fun _ _ _ h => h) (by rfl) ?_ ?_
            rotate_left
            · (intro w' hSw; go_simp) <;> with_reducible rfl
            simp only [Act.put, List.setIfInBounds_toArray, List.set_cons_zero, List.set_cons_succ]
            refine rf_take (i := 21) (d := (some 96)) (v := ?_) rfl rfl (by kernel_rfl) (by kernel_rfl) (by kernel_rfl) (fun _ _ _ h => h) (by rfl) ?_ ?_
            rotate_left
            · (intro w' hSw; go_simp) <;> with_reducible rfl
            simp only [Act.put, List.setIfInBounds_toArray, List.set_cons_zero, List.set_cons_succ]
            refine rf_take (i := 22) (d := (some 97)) (v := ?_) rfl rfl (by kernel_rfl) (by kernel_rfl) (by kernel_rfl) (fun _ _ _ h => h) (by rfl) ?_ ?_
            rotate_left
            · (intro w' hSw; go_simp) <;> with_reducible rfl
            simp only [Act.put, List.setIfInBounds_toArray, List.set_cons_zero, List.set_cons_succ]
            refine rf_take (i := 23) (d := (some 98)) (v := ?_) rfl rfl (by kernel_rfl) (by kernel_rfl) (by kernel_rfl) (fun _ _ _ h => h) (by rfl) ?_ ?_
            rotate_left
            · (intro w' hSw; go_simp) <;> with_reducible rfl
            simp only [Act.put, List.setIfInBounds_toArray, List.set_cons_zero, List.set_cons_succ]
            refine rf_call (i := 24) rfl (by kernel_rfl) (by rfl) (fun K hK => ?_)
            go_simp
            refine (rEnd_any g q [] 0 _ R7).mono ?_
            rw [ex_end]
            rintro e w9 ⟨rfl, rfl⟩
            refine hK.out _ _ (Frm.refl _ _) ?_
            clear hK K
            try simp only [Act.put, List.setIfInBounds_toArray, List.set_cons_zero, List.set_cons_succ]
            refine rf_take (i := 25) (d := (some 100)) (v := ?_) rfl rfl (by kernel_rfl) (by kernel_rfl) (by kernel_rfl) (fun _ _ _ h => h) (by rfl) ?_ ?_
            rotate_left
            · (intro w' hSw; go_simp) <;> with_reducible rfl
            simp only [Act.put, List.setIfInBounds_toArray, List.set_cons_zero, List.set_cons_succ]
            refine rf_take (i := 26) (d := (some 101)) (v := ?_) rfl rfl (by kernel_rfl) (by kernel_rfl) (by kernel_rfl) (fun _ _ _ h => h) (by rfl) ?_ ?_
            rotate_left
            · (intro w' hSw; go_simp) <;> with_reducible rfl
            simp only [Act.put, List.setIfInBounds_toArray, List.set_cons_zero, List.set_cons_succ]
            refine rf_done (by kernel_rfl) ?_
            go_wp2
            go_roundw
            case rel => exact ⟨j + 1, by omega, by go_num, EC.ls LG, E.tr EC⟩
            case measure => simp [intOf]; omega
        have hjb : decide ((j : Int) < (k : Int)) = false := by simp; omega
        have hjb' : decide (j < k) = false := by simp; omega
        go_wp2
        go_ret
        exact ⟨rfl, E⟩
end Go.Proofs.Ytknllmcpogoeoaa
