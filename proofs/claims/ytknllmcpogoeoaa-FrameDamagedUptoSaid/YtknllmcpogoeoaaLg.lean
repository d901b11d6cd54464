/- FrameDamaged, walked. -/
import Derived.Test.YtknllmcpogoeoaaLe
namespace Go.Proofs.Ytknllmcpogoeoaa
open Go.RowKit
set_option linter.unusedVariables false
set_option linter.unusedSimpArgs false
/-- the rest of the law, from the loop's end on -/
theorem dam_take (F : List (List UInt8)) (kc m : Nat) (r tl : List UInt8) (hk : kc ≤ (fileOf F).length) : ((fileOf F).take kc ++ r ++ tl).take kc = (fileOf F).take kc := by
  rw [List.append_assoc, List.take_append_of_le_length (by rw [List.length_take]; omega), List.take_take, Nat.min_self]
set_option maxRecDepth 100000 in
set_option maxHeartbeats 1600000 in
theorem damaged_any (a : Option Addr) (n c : Nat) (ls : List (List UInt8)) (x : Nat) (ad : Option Addr) (nd cd : Nat) (ld : List UInt8) (w : World) (hb : Ls w a n ls) (hn : n ≤ 1048576) (hx : x ≤ 65535) (hd : Bs w ad nd ld) (hnd : nd ≤ 1048576) (hzd : ad = none → cd = 0) :
    Calls Try.prog 10 #[.slice a n c, .agg #[.int .u16 (x : Int), .slice ad nd cd]] w (fun e w' => e = .returned (.bool true) ∧ Ext w w') := by
  have hall := fewS_all ls
  have hlen := fewS_len ls
  have h4 : ∀ x ∈ fewS ls, x.length ≤ 4000 := fun x hx => by have := hall x hx; omega
  have hfl := file_len60 _ hall
  have H4 := Lib.hid h4
  have H60 := Lib.hid hall
  clear hall h4
  generalize hF : fewS ls = F at *
  have HF := Lib.hid hF
  clear hF
  obtain ⟨w0, hw0⟩ : ∃ w0, w0 = w.alloc (.cells #[.int .u16 (x : Int), .slice ad nd cd] 50) := ⟨_, rfl⟩
  have E0 : Ext w w0 := by rw [hw0]; exact (Ext.refl w).al _
  have k0 : Blk w0 w.heap.size 50 [.int .u16 (x : Int), .slice ad nd cd] := by rw [hw0]; exact Blk.new w 50 _
  have HW0 := Lib.hid hw0
  clear hw0
  generalize hgb : w.heap.size = gb at *
  have Hgb := Lib.hid hgb
  clear hgb
  go_enter Try.func10, Try.ntmps10
  go_wp2_with (first
    | (go_at_call 32; rw [Hgb.out, ← HW0.out]; refine (awake3_any w0).mono ?_; rintro e w1 ⟨rfl, E1⟩; have E01 := E0.tr E1; have hb1 := E01.ls hb; have k1 := k0.ext E1)
    | (go_at_call 41; refine (few_any a n c ls w1 hb1 hn).mono ?_; rintro e w2 ⟨a2, n2, c2, rfl, hn2, hc2, L2, E2⟩; rw [HF.out] at L2; have E12 := E01.tr E2; have k2 := k1.ext E2)
    | (go_at_call 42; refine (file_any a2 n2 c2 F w2 L2 (by omega) H4.out).mono ?_; rintro e w3 ⟨a3, n3, c3, rfl, O3, E3⟩; have L3 := E3.ls L2; have E13 := E12.tr E3; have hn3 := O3.leng; have hc3 := O3.cap.1; have k3 := k2.ext E3; have m30 := k3.at_ (i := 0) rfl; have m31 := k3.at_ (i := 1) rfl))
  have hFn := L2.leng
  subst hFn
  obtain ⟨kc, hkc, hkn⟩ := mod_nat x n3
  rw [hkc]
  clear hkc hx
  have hd3 := E13.bs hd
  go_loop [8, 9] (fun u v => ∃ k : Nat, k ≤ F.length ∧ u = .int .i64 (k : Int) ∧ v = .int .i64 ((fileOf (F.take k)).length : Int) ∧ (fileOf (F.take k)).length ≤ kc) (fun u _ => F.length - (intOf u).toNat)
  case atStart => exact ⟨0, by omega, rfl, by simp [fileOf], by simp [fileOf]⟩
  case round =>
    obtain ⟨k, hk, rfl, rfl, hat⟩ := hrel
    obtain ⟨at1, hat1⟩ : ∃ z, z = (fileOf (F.take k)).length := ⟨_, rfl⟩
    rw [← hat1] at hat ⊢
    have Hat := Lib.hid hat1
    clear hat1
    by_cases hkF : k < F.length
    case neg =>
      have hkb : decide ((k : Int) < (F.length : Int)) = false := by simp; omega
      have Z := Ow.zero w3 w3.heap.size rfl w3.heap.size (Nat.le_refl _)
      have EZ := (Ext.refl w3).al (.cells #[] 5)
      have r1 : (kc : Int) ≤ (n3 : Int) := by omega
      have r2 : (0 : Int) ≤ (kc : Int) := by omega
      go_wp2_with (at_builtin; refine wp_app (s := .tmp 57) (x := .tmp 58) w3.heap.size n3 (fileOf F) rfl rfl Z (EZ.bs O3.bs) O3.cap.2 (by omega) rfl (by omega) (by simp) ?_; intro a5 c5 w5 O5 G5)
      have E5 := EZ.app Z (Nat.le_refl _) G5
      have k5 := (k3.ext E5).drew
      have m51 := k5.at_ (i := 1) rfl
      have hc5 := O5.cap.1
      have r3 : (kc : Int) ≤ (c5 : Int) := by omega
      have r4 : (n3 : Int) ≤ (c5 : Int) := by omega
      refine rt_start (by kernel_rfl) ?_
      refine rt_take (i := 0) (d := (some 60)) (v := ?_) rfl rfl (by kernel_rfl) (by kernel_rfl) (by kernel_rfl) (fun _ _ _ h => h) (by rfl) ?_ ?_
      rotate_left
      · (intro w'; go_simp) <;> with_reducible rfl
      simp only [Act.put, List.setIfInBounds_toArray, List.set_cons_zero, List.set_cons_succ]
      refine rt_take (i := 1) (d := (some 61)) (v := ?_) rfl rfl (by kernel_rfl) (by kernel_rfl) (by kernel_rfl) (fun _ _ _ h => h) (by rfl) ?_ ?_
      rotate_left
      · (intro w'; go_simp) <;> with_reducible rfl
      simp only [Act.put, List.setIfInBounds_toArray, List.set_cons_zero, List.set_cons_succ]
      refine rt_take (i := 2) (d := (some 62)) (v := ?_) rfl rfl (by kernel_rfl) (by kernel_rfl) (by kernel_rfl) (fun _ _ _ h => h) (by rfl) ?_ ?_
      rotate_left
      · (intro w'; go_simp) <;> with_reducible rfl
      simp only [Act.put, List.setIfInBounds_toArray, List.set_cons_zero, List.set_cons_succ]
      refine rt_take (i := 3) (d := (some 63)) (v := ?_) rfl rfl (by kernel_rfl) (by kernel_rfl) (by kernel_rfl) (fun _ _ _ h => h) (by rfl) ?_ ?_
      rotate_left
      · (intro w'; go_simp) <;> with_reducible rfl
      simp only [Act.put, List.setIfInBounds_toArray, List.set_cons_zero, List.set_cons_succ]
      refine rt_one (i := 4) rfl (by kernel_rfl) (by rfl) (fun K hK => ?_)
      go_simp
      refine hK.out _ _ ?_
      clear hK K
      try simp only [Act.put, List.setIfInBounds_toArray, List.set_cons_zero, List.set_cons_succ]
      refine rt_one (i := 5) rfl (by kernel_rfl) (by rfl) (fun K hK => ?_)
      refine wpO_copy (.tmp 62) (.tmp 64) rfl w3.heap.size rfl rfl O5.drew ((E5.bs hd3).drew) hkn rfl ?_
      intro w6 O6 G6
      refine hK.out _ _ ?_
      clear hK K
      try simp only [Act.put, List.setIfInBounds_toArray, List.set_cons_zero, List.set_cons_succ]
      refine rt_done (by kernel_rfl) ?_
      generalize (if c5 = kc then a5 else Option.map (fun x => x.add kc) a5) = aq
      have E6 := (E5.dr).app (show w5.drew.ownsRow w3.heap.size 5 1 (.slice a5 n3 c5) n3 (u8s (fileOf F)) from O5) (Nat.le_refl _) G6
      have k6 := k3.ext E6
      have m61 := k6.at_ (i := 1) rfl
      have hd6 := E6.bs hd3
      have hL6 := dam_take F kc (min nd (n3 - kc)) (ld.take (min nd (n3 - kc))) ((fileOf F).drop (kc + min nd (n3 - kc))) (by omega)
      rcases Nat.lt_or_ge (n3 - kc) nd with hgt | hgt
      · have hgb : decide ((n3 : Int) - (kc : Int) < (nd : Int)) = true := by simp; omega
        go_wp2_with fail
        have O6d := (O6.drew).pre kc hkn
        have m61d := (k6.drew).at_ (i := 1) rfl
        refine rt_start (by kernel_rfl) ?_
        refine rt_take (i := 0) (d := (some 74)) (v := ?_) rfl rfl (by kernel_rfl) (by kernel_rfl) (by kernel_rfl) (fun _ _ _ h => h) (by rfl) ?_ ?_
        rotate_left
        · (intro w'; go_simp) <;> with_reducible rfl
        simp only [Act.put, List.setIfInBounds_toArray, List.set_cons_zero, List.set_cons_succ]
        refine rt_take (i := 1) (d := (some 75)) (v := ?_) rfl rfl (by kernel_rfl) (by kernel_rfl) (by kernel_rfl) (fun _ _ _ h => h) (by rfl) ?_ ?_
        rotate_left
        · (intro w'; go_simp) <;> with_reducible rfl
        simp only [Act.put, List.setIfInBounds_toArray, List.set_cons_zero, List.set_cons_succ]
        refine rt_take (i := 2) (d := (some 76)) (v := ?_) rfl rfl (by kernel_rfl) (by kernel_rfl) (by kernel_rfl) (fun _ _ _ h => h) (by rfl) ?_ ?_
        rotate_left
        · (intro w'; go_simp) <;> with_reducible rfl
        simp only [Act.put, List.setIfInBounds_toArray, List.set_cons_zero, List.set_cons_succ]
        refine rt_take (i := 3) (d := (some 77)) (v := ?_) rfl rfl (by kernel_rfl) (by kernel_rfl) (by kernel_rfl) (fun _ _ _ h => h) (by rfl) ?_ ?_
        rotate_left
        · (intro w'; go_simp) <;> with_reducible rfl
        simp only [Act.put, List.setIfInBounds_toArray, List.set_cons_zero, List.set_cons_succ]
        refine rt_one (i := 4) rfl (by kernel_rfl) (by rfl) (fun K hK => ?_)
        go_simp
        refine hK.out _ _ ?_
        clear hK K
        try simp only [Act.put, List.setIfInBounds_toArray, List.set_cons_zero, List.set_cons_succ]
        refine rt_one (i := 5) rfl (by kernel_rfl) (by rfl) (fun K hK => ?_)
        refine wpO_app (ty := 22) (.tmp 76) (.tmp 78) rfl w3.heap.size (kc + nd) _ rfl rfl O6d (hd6.drew) hzd rfl rfl (by omega) (by have := E6.sz; simpa using this) ?_
        intro a7 c7 w7 O7 G7
        refine hK.out _ _ ?_
        clear hK K
        try simp only [Act.put, List.setIfInBounds_toArray, List.set_cons_zero, List.set_cons_succ]
        refine rt_take (i := 6) (d := (some 10)) (v := ?_) rfl rfl (by kernel_rfl) (by kernel_rfl) (by kernel_rfl) (fun _ _ _ h => h) (by rfl) ?_ ?_
        rotate_left
        · (intro w'; go_simp) <;> with_reducible rfl
        simp only [Act.put, List.setIfInBounds_toArray, List.set_cons_zero, List.set_cons_succ]
        refine rt_done (by kernel_rfl) ?_
        rw [hL6] at O7
        have E7 := (E6.dr).app (show w6.drew.ownsRow w3.heap.size 5 1 (.slice a5 kc c5) kc (u8s _) from O6d) (Nat.le_refl _) G7
        have hLs := (E7.ls L3).take k hk
        have hL7 : ((fileOf F).take kc ++ ld).take kc = (fileOf F).take kc := by rw [List.take_append_of_le_length (by rw [List.length_take]; omega), List.take_take, Nat.min_self]
        have hln7 : ((fileOf F).take kc ++ ld).length = kc + nd := O7.leng
        generalize (fileOf F).take kc ++ ld = L7 at *
        have hsb := scan_begins F H4.out L7 k kc hk (by rw [← Hat.out]; exact hat) hL7
        have Hsb := Lib.hid hsb
        have HL6 := Lib.hid hL6
        have HL7 := Lib.hid hL7
        clear hsb hL6 hL7
        have hcap2 : (k : Int) ≤ (c2 : Int) := by omega
        go_wp2_with (first
          | (go_at_call 38; refine (bodies_any a7 (kc + nd) c7 L7 w7 O7.bs (by omega) O7.cap.2).mono ?_; rintro e w8 ⟨a8, c8, rows8, rfl, V8, hD8, E8⟩; obtain ⟨LG, hrl⟩ := bod_ls (l := fileOf F) V8 hD8 (bodL_each _ (by omega)); rw [hrl]; have L8 := E8.ls hLs; have E18 := (E13.tr E7).tr E8; have hbl := bodL_le L7)
          | (go_at_call 40; refine (begins_any a8 _ c8 _ k c2 _ _ w8 LG L8 (by omega) (by omega)).mono ?_; rintro e w9 ⟨rfl, E9⟩; rw [Hsb.out, decide_eq_true rfl]))
        go_ret
        exact ⟨rfl, E18.tr E9⟩
      · have hgb : decide ((n3 : Int) - (kc : Int) < (nd : Int)) = false := by simp; omega
        have hLs := (E6.ls L3).take k hk
        have hln6 := O6.leng
        generalize (fileOf F).take kc ++ ld.take (min nd (n3 - kc)) ++ (fileOf F).drop (kc + min nd (n3 - kc)) = L7 at *
        have hsb := scan_begins F H4.out L7 k kc hk (by rw [← Hat.out]; exact hat) hL6
        have Hsb := Lib.hid hsb
        have HL6 := Lib.hid hL6
        clear hsb hL6
        have hcap2 : (k : Int) ≤ (c2 : Int) := by omega
        go_wp2_with (first
          | (go_at_call 38; refine (bodies_any a5 n3 c5 L7 w6 O6.bs (by omega) O6.cap.2).mono ?_; rintro e w8 ⟨a8, c8, rows8, rfl, V8, hD8, E8⟩; obtain ⟨LG, hrl⟩ := bod_ls (l := fileOf F) V8 hD8 (bodL_each _ (by omega)); rw [hrl]; have L8 := E8.ls hLs; have E18 := (E13.tr E6).tr E8; have hbl := bodL_le L7)
          | (go_at_call 40; refine (begins_any a8 _ c8 _ k c2 _ _ w8 LG L8 (by omega) (by omega)).mono ?_; rintro e w9 ⟨rfl, E9⟩; rw [Hsb.out, decide_eq_true rfl]))
        go_ret
        exact ⟨rfl, E18.tr E9⟩
    have hkb : decide ((k : Int) < (F.length : Int)) = true := by simp; omega
    obtain ⟨b, o, p, u, r, rfl, hcl, hbs, hur, hpn, hum⟩ := L3.at k hkF
    have q3 : (k : Int) < (F.length : Int) := by omega
    have q4 : (0 : Int) ≤ (k : Int) := by omega
    have hFk : F[k]? = some (F[k]?.getD []) := by rw [List.getElem?_eq_getElem hkF]; rfl
    have hxl := hbs.leng
    have h60 := H60.out _ (List.mem_of_getElem? hFk)
    have hsucc := file_take_succ F k _ hFk
    rw [hxl, ← Hat.out] at hsucc
    have Hsucc := Lib.hid hsucc
    clear hsucc hFk
    rw [hxl] at h60
    clear hxl hbs
    by_cases hle : at1 + 8 + u ≤ kc
    · have hlb : decide ((at1 : Int) + 8 + (u : Int) ≤ (kc : Int)) = true := by simp; omega
      go_wp2
      go_round
      case rel => exact ⟨k + 1, by omega, by go_num, by rw [Hsucc.out]; go_num, by rw [Hsucc.out]; omega⟩
      case measure => simp [intOf]; omega
    · have hlb : decide ((at1 : Int) + 8 + (u : Int) ≤ (kc : Int)) = false := by simp; omega
      have Z := Ow.zero w3 w3.heap.size rfl w3.heap.size (Nat.le_refl _)
      have EZ := (Ext.refl w3).al (.cells #[] 5)
      have r1 : (kc : Int) ≤ (n3 : Int) := by omega
      have r2 : (0 : Int) ≤ (kc : Int) := by omega
      go_wp2_with (at_builtin; refine wp_app (s := .tmp 57) (x := .tmp 58) w3.heap.size n3 (fileOf F) rfl rfl Z (EZ.bs O3.bs) O3.cap.2 (by omega) rfl (by omega) (by simp) ?_; intro a5 c5 w5 O5 G5)
      have E5 := EZ.app Z (Nat.le_refl _) G5
      have k5 := (k3.ext E5).drew
      have m51 := k5.at_ (i := 1) rfl
      have hc5 := O5.cap.1
      have r3 : (kc : Int) ≤ (c5 : Int) := by omega
      have r4 : (n3 : Int) ≤ (c5 : Int) := by omega
      refine rt_start (by kernel_rfl) ?_
      refine rt_take (i := 0) (d := (some 60)) (v := ?_) rfl rfl (by kernel_rfl) (by kernel_rfl) (by kernel_rfl) (fun _ _ _ h => h) (by rfl) ?_ ?_
      rotate_left
      · (intro w'; go_simp) <;> with_reducible rfl
      simp only [Act.put, List.setIfInBounds_toArray, List.set_cons_zero, List.set_cons_succ]
      refine rt_take (i := 1) (d := (some 61)) (v := ?_) rfl rfl (by kernel_rfl) (by kernel_rfl) (by kernel_rfl) (fun _ _ _ h => h) (by rfl) ?_ ?_
      rotate_left
      · (intro w'; go_simp) <;> with_reducible rfl
      simp only [Act.put, List.setIfInBounds_toArray, List.set_cons_zero, List.set_cons_succ]
      refine rt_take (i := 2) (d := (some 62)) (v := ?_) rfl rfl (by kernel_rfl) (by kernel_rfl) (by kernel_rfl) (fun _ _ _ h => h) (by rfl) ?_ ?_
      rotate_left
      · (intro w'; go_simp) <;> with_reducible rfl
      simp only [Act.put, List.setIfInBounds_toArray, List.set_cons_zero, List.set_cons_succ]
      refine rt_take (i := 3) (d := (some 63)) (v := ?_) rfl rfl (by kernel_rfl) (by kernel_rfl) (by kernel_rfl) (fun _ _ _ h => h) (by rfl) ?_ ?_
      rotate_left
      · (intro w'; go_simp) <;> with_reducible rfl
      simp only [Act.put, List.setIfInBounds_toArray, List.set_cons_zero, List.set_cons_succ]
      refine rt_one (i := 4) rfl (by kernel_rfl) (by rfl) (fun K hK => ?_)
      go_simp
      refine hK.out _ _ ?_
      clear hK K
      try simp only [Act.put, List.setIfInBounds_toArray, List.set_cons_zero, List.set_cons_succ]
      refine rt_one (i := 5) rfl (by kernel_rfl) (by rfl) (fun K hK => ?_)
      refine wpO_copy (.tmp 62) (.tmp 64) rfl w3.heap.size rfl rfl O5.drew ((E5.bs hd3).drew) hkn rfl ?_
      intro w6 O6 G6
      refine hK.out _ _ ?_
      clear hK K
      try simp only [Act.put, List.setIfInBounds_toArray, List.set_cons_zero, List.set_cons_succ]
      refine rt_done (by kernel_rfl) ?_
      generalize (if c5 = kc then a5 else Option.map (fun x => x.add kc) a5) = aq
      have E6 := (E5.dr).app (show w5.drew.ownsRow w3.heap.size 5 1 (.slice a5 n3 c5) n3 (u8s (fileOf F)) from O5) (Nat.le_refl _) G6
      have k6 := k3.ext E6
      have m61 := k6.at_ (i := 1) rfl
      have hd6 := E6.bs hd3
      have hL6 := dam_take F kc (min nd (n3 - kc)) (ld.take (min nd (n3 - kc))) ((fileOf F).drop (kc + min nd (n3 - kc))) (by omega)
      rcases Nat.lt_or_ge (n3 - kc) nd with hgt | hgt
      · have hgb : decide ((n3 : Int) - (kc : Int) < (nd : Int)) = true := by simp; omega
        go_wp2_with fail
        have O6d := (O6.drew).pre kc hkn
        have m61d := (k6.drew).at_ (i := 1) rfl
        refine rt_start (by kernel_rfl) ?_
        refine rt_take (i := 0) (d := (some 74)) (v := ?_) rfl rfl (by kernel_rfl) (by kernel_rfl) (by kernel_rfl) (fun _ _ _ h => h) (by rfl) ?_ ?_
        rotate_left
        · (intro w'; go_simp) <;> with_reducible rfl
        simp only [Act.put, List.setIfInBounds_toArray, List.set_cons_zero, List.set_cons_succ]
        refine rt_take (i := 1) (d := (some 75)) (v := ?_) rfl rfl (by kernel_rfl) (by kernel_rfl) (by kernel_rfl) (fun _ _ _ h => h) (by rfl) ?_ ?_
        rotate_left
        · (intro w'; go_simp) <;> with_reducible rfl
        simp only [Act.put, List.setIfInBounds_toArray, List.set_cons_zero, List.set_cons_succ]
        refine rt_take (i := 2) (d := (some 76)) (v := ?_) rfl rfl (by kernel_rfl) (by kernel_rfl) (by kernel_rfl) (fun _ _ _ h => h) (by rfl) ?_ ?_
        rotate_left
        · (intro w'; go_simp) <;> with_reducible rfl
        simp only [Act.put, List.setIfInBounds_toArray, List.set_cons_zero, List.set_cons_succ]
        refine rt_take (i := 3) (d := (some 77)) (v := ?_) rfl rfl (by kernel_rfl) (by kernel_rfl) (by kernel_rfl) (fun _ _ _ h => h) (by rfl) ?_ ?_
        rotate_left
        · (intro w'; go_simp) <;> with_reducible rfl
        simp only [Act.put, List.setIfInBounds_toArray, List.set_cons_zero, List.set_cons_succ]
        refine rt_one (i := 4) rfl (by kernel_rfl) (by rfl) (fun K hK => ?_)
        go_simp
        refine hK.out _ _ ?_
        clear hK K
        try simp only [Act.put, List.setIfInBounds_toArray, List.set_cons_zero, List.set_cons_succ]
        refine rt_one (i := 5) rfl (by kernel_rfl) (by rfl) (fun K hK => ?_)
        refine wpO_app (ty := 22) (.tmp 76) (.tmp 78) rfl w3.heap.size (kc + nd) _ rfl rfl O6d (hd6.drew) hzd rfl rfl (by omega) (by have := E6.sz; simpa using this) ?_
        intro a7 c7 w7 O7 G7
        refine hK.out _ _ ?_
        clear hK K
        try simp only [Act.put, List.setIfInBounds_toArray, List.set_cons_zero, List.set_cons_succ]
        refine rt_take (i := 6) (d := (some 10)) (v := ?_) rfl rfl (by kernel_rfl) (by kernel_rfl) (by kernel_rfl) (fun _ _ _ h => h) (by rfl) ?_ ?_
        rotate_left
        · (intro w'; go_simp) <;> with_reducible rfl
        simp only [Act.put, List.setIfInBounds_toArray, List.set_cons_zero, List.set_cons_succ]
        refine rt_done (by kernel_rfl) ?_
        rw [hL6] at O7
        have E7 := (E6.dr).app (show w6.drew.ownsRow w3.heap.size 5 1 (.slice a5 kc c5) kc (u8s _) from O6d) (Nat.le_refl _) G7
        have hLs := (E7.ls L3).take k hk
        have hL7 : ((fileOf F).take kc ++ ld).take kc = (fileOf F).take kc := by rw [List.take_append_of_le_length (by rw [List.length_take]; omega), List.take_take, Nat.min_self]
        have hln7 : ((fileOf F).take kc ++ ld).length = kc + nd := O7.leng
        generalize (fileOf F).take kc ++ ld = L7 at *
        have hsb := scan_begins F H4.out L7 k kc hk (by rw [← Hat.out]; exact hat) hL7
        have Hsb := Lib.hid hsb
        have HL6 := Lib.hid hL6
        have HL7 := Lib.hid hL7
        clear hsb hL6 hL7
        have hcap2 : (k : Int) ≤ (c2 : Int) := by omega
        go_wp2_with (first
          | (go_at_call 38; refine (bodies_any a7 (kc + nd) c7 L7 w7 O7.bs (by omega) O7.cap.2).mono ?_; rintro e w8 ⟨a8, c8, rows8, rfl, V8, hD8, E8⟩; obtain ⟨LG, hrl⟩ := bod_ls (l := fileOf F) V8 hD8 (bodL_each _ (by omega)); rw [hrl]; have L8 := E8.ls hLs; have E18 := (E13.tr E7).tr E8; have hbl := bodL_le L7)
          | (go_at_call 40; refine (begins_any a8 _ c8 _ k c2 _ _ w8 LG L8 (by omega) (by omega)).mono ?_; rintro e w9 ⟨rfl, E9⟩; rw [Hsb.out, decide_eq_true rfl]))
        go_ret
        exact ⟨rfl, E18.tr E9⟩
      · have hgb : decide ((n3 : Int) - (kc : Int) < (nd : Int)) = false := by simp; omega
        have hLs := (E6.ls L3).take k hk
        have hln6 := O6.leng
        generalize (fileOf F).take kc ++ ld.take (min nd (n3 - kc)) ++ (fileOf F).drop (kc + min nd (n3 - kc)) = L7 at *
        have hsb := scan_begins F H4.out L7 k kc hk (by rw [← Hat.out]; exact hat) hL6
        have Hsb := Lib.hid hsb
        have HL6 := Lib.hid hL6
        clear hsb hL6
        have hcap2 : (k : Int) ≤ (c2 : Int) := by omega
        go_wp2_with (first
          | (go_at_call 38; refine (bodies_any a5 n3 c5 L7 w6 O6.bs (by omega) O6.cap.2).mono ?_; rintro e w8 ⟨a8, c8, rows8, rfl, V8, hD8, E8⟩; obtain ⟨LG, hrl⟩ := bod_ls (l := fileOf F) V8 hD8 (bodL_each _ (by omega)); rw [hrl]; have L8 := E8.ls hLs; have E18 := (E13.tr E6).tr E8; have hbl := bodL_le L7)
          | (go_at_call 40; refine (begins_any a8 _ c8 _ k c2 _ _ w8 LG L8 (by omega) (by omega)).mono ?_; rintro e w9 ⟨rfl, E9⟩; rw [Hsb.out, decide_eq_true rfl]))
        go_ret
        exact ⟨rfl, E18.tr E9⟩
end Go.Proofs.Ytknllmcpogoeoaa
