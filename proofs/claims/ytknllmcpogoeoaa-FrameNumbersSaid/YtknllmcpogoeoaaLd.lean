/- FrameReturns and FrameCuts, walked. -/
import Derived.Test.YtknllmcpogoeoaaLb
import Derived.Test.YtknllmcpogoeoaaL3c
import Derived.Test.YtknllmcpogoeoaaFq
import Derived.Test.YtknllmcpogoeoaaRg
namespace Go.Proofs.Ytknllmcpogoeoaa
open Go.RowKit
set_option linter.unusedVariables false
set_option linter.unusedSimpArgs false
theorem fewS_all (ls : List (List UInt8)) : ∀ x ∈ fewS ls, x.length ≤ 60 := fun x hx => by
  unfold fewS at hx
  obtain ⟨y, _, rfl⟩ := List.mem_map.1 hx
  rw [List.length_take]; omega
theorem fewS_len (ls : List (List UInt8)) : (fewS ls).length ≤ 8 := by
  unfold fewS
  rw [List.length_map, List.length_take]; omega
theorem file_len60 (ls : List (List UInt8)) (h : ∀ x ∈ ls, x.length ≤ 60) : (fileOf ls).length ≤ 68 * ls.length := by
  induction ls with
  | nil => simp [fileOf]
  | cons x r ih =>
    have h1 := ih (fun y hy => h y (by simp [hy]))
    have h2 := h x (by simp)
    rw [fileOf_cons, List.length_append, frameOf_len, List.length_cons]
    omega
/-- what the bodies' slice reads as -/
theorem bod_ls {l : List UInt8} {w : World} {B : Nat} {a : Option Addr} {c : Nat} {rows : List (Value × List UInt8)} {bs : List (List UInt8)} (V : Vrow w B a c rows) (h : rows.map (·.2) = bs) (hb : ∀ x ∈ bs, x.length ≤ 140737488351232) :
    Ls w a bs.length bs ∧ rows.length = bs.length := by
  have hr : rows.length = bs.length := by rw [← h, List.length_map]
  have L := V.ls (fun r hr => hb _ (by rw [← h]; exact List.mem_map_of_mem hr))
  rw [h, hr] at L
  exact ⟨L, hr⟩
set_option maxRecDepth 100000 in
set_option maxHeartbeats 1600000 in
theorem returns_any (a : Option Addr) (n c : Nat) (ls : List (List UInt8)) (w : World) (hb : Ls w a n ls) (hn : n ≤ 140737488351232) :
    Calls Try.prog 8 #[.slice a n c] w (fun e w' => e = .returned (.bool true) ∧ Ext w w') := by
  have hall := fewS_all ls
  have hlen := fewS_len ls
  have h4 : ∀ x ∈ fewS ls, x.length ≤ 4000 := fun x hx => by have := hall x hx; omega
  have hfl := file_len60 _ hall
  obtain ⟨hsw1, hsw2⟩ := scan_whole _ h4
  have hbig : ∀ x ∈ fewS ls, x.length ≤ 140737488351232 := fun x hx => by have := hall x hx; omega
  have H4 := Lib.hid h4
  have Hsw1 := Lib.hid hsw1
  have Hsw2 := Lib.hid hsw2
  have Hbig := Lib.hid hbig
  clear hall h4 hsw1 hsw2 hbig
  generalize hF : fewS ls = F at *
  have HF := Lib.hid hF
  clear hF
  go_enter Try.func8, Try.ntmps8
  go_wp2_with (first
    | (go_at_call 32; refine (awake3_any w).mono ?_; rintro e w1 ⟨rfl, E1⟩; have hb1 := E1.ls hb)
    | (go_at_call 41; refine (few_any a n c ls w1 hb1 hn).mono ?_; rintro e w2 ⟨a2, n2, c2, rfl, hn2, hc2, L2, E2⟩; rw [HF.out] at L2; have E12 := E1.tr E2)
    | (go_at_call 42; refine (file_any a2 n2 c2 F w2 L2 (by omega) H4.out).mono ?_; rintro e w3 ⟨a3, n3, c3, rfl, O3, E3⟩; have L3 := E3.ls L2; have E13 := E12.tr E3; have hn3 := O3.leng)
    | (go_at_call 38; refine (bodies_any a3 n3 c3 (fileOf F) w3 O3.bs (by omega) O3.cap.2).mono ?_; rintro e w4 ⟨a4, c4, rows4, rfl, V4, hD4, E4⟩; rw [Hsw1.out] at hD4; rw [Hsw2.out]; obtain ⟨LG, hrl⟩ := bod_ls (l := fileOf F) V4 hD4 Hbig.out; rw [hrl]; have L4 := E4.ls L3; have b4 := E4.bs O3.bs; have E14 := E13.tr E4))
  have hFn := L2.leng
  subst hFn
  have E15 := E14.dr
  have L5 := L4.drew
  have LG5 := LG.drew
  have b5 := b4.drew
  refine rg_start (by kernel_rfl) ?_
  refine rg_take (i := 0) (d := (some 21)) (v := ?_) rfl rfl (by kernel_rfl) (by kernel_rfl) (by kernel_rfl) (fun _ _ _ h => h) (by rfl) ?_ ?_
  rotate_left
  · (intro w' hSw; go_simp) <;> with_reducible rfl
  simp only [Act.put, List.setIfInBounds_toArray, List.set_cons_zero, List.set_cons_succ]
  refine rg_take (i := 1) (d := (some 22)) (v := ?_) rfl rfl (by kernel_rfl) (by kernel_rfl) (by kernel_rfl) (fun _ _ _ h => h) (by rfl) ?_ ?_
  rotate_left
  · (intro w' hSw; go_simp) <;> with_reducible rfl
  simp only [Act.put, List.setIfInBounds_toArray, List.set_cons_zero, List.set_cons_succ]
  refine rg_take (i := 2) (d := (some 23)) (v := ?_) rfl rfl (by kernel_rfl) (by kernel_rfl) (by kernel_rfl) (fun _ _ _ h => h) (by rfl) ?_ ?_
  rotate_left
  · (intro w' hSw; go_simp) <;> with_reducible rfl
  simp only [Act.put, List.setIfInBounds_toArray, List.set_cons_zero, List.set_cons_succ]
  refine rg_take (i := 3) (d := (some 24)) (v := ?_) rfl rfl (by kernel_rfl) (by kernel_rfl) (by kernel_rfl) (fun _ _ _ h => h) (by rfl) ?_ ?_
  rotate_left
  · (intro w' hSw; have k1 := conv_bs (cap := c3) (hSw.bs b5); go_simp) <;> with_reducible rfl
  simp only [Act.put, List.setIfInBounds_toArray, List.set_cons_zero, List.set_cons_succ]
  refine rg_take (i := 4) (d := (some 25)) (v := ?_) rfl rfl (by kernel_rfl) (by kernel_rfl) (by kernel_rfl) (fun _ _ _ h => h) (by rfl) ?_ ?_
  rotate_left
  · (intro w' hSw; go_simp) <;> with_reducible rfl
  simp only [Act.put, List.setIfInBounds_toArray, List.set_cons_zero, List.set_cons_succ]
  refine rg_call (i := 5) rfl (by kernel_rfl) (by rfl) (fun K hK => ?_)
  go_simp
  refine (rfile_any a2 _ c2 F _ L5 (by omega) H4.out).mono ?_
  rintro e w6 ⟨a6, n6, c6, rfl, O6, E6⟩
  have E16 := E15.tr E6
  have b6 := O6.bs
  have L6 := E6.ls L5
  have LG6 := E6.ls LG5
  refine hK.out _ _ E6 ?_
  clear hK K
  try simp only [Act.put, List.setIfInBounds_toArray, List.set_cons_zero, List.set_cons_succ]
  refine rg_take (i := 6) (d := (some 27)) (v := ?_) rfl rfl (by kernel_rfl) (by kernel_rfl) (by kernel_rfl) (fun _ _ _ h => h) (by rfl) ?_ ?_
  rotate_left
  · (intro w' hSw; have k1 := conv_bs (cap := c6) (hSw.bs b6); go_simp) <;> with_reducible rfl
  simp only [Act.put, List.setIfInBounds_toArray, List.set_cons_zero, List.set_cons_succ]
  refine rg_take (i := 7) (d := (some 28)) (v := ?_) rfl rfl (by kernel_rfl) (by kernel_rfl) (by kernel_rfl) (fun _ _ _ h => h) (by rfl) ?_ ?_
  rotate_left
  · (intro w' hSw; go_simp) <;> with_reducible rfl
  simp only [Act.put, List.setIfInBounds_toArray, List.set_cons_zero, List.set_cons_succ]
  refine rg_take (i := 8) (d := (some 29)) (v := ?_) rfl rfl (by kernel_rfl) (by kernel_rfl) (by kernel_rfl) (fun _ _ _ h => h) (by rfl) ?_ ?_
  rotate_left
  · (intro w' hSw; go_simp) <;> with_reducible rfl
  simp only [Act.put, List.setIfInBounds_toArray, List.set_cons_zero, List.set_cons_succ]
  refine rg_take (i := 9) (d := (some 30)) (v := ?_) rfl rfl (by kernel_rfl) (by kernel_rfl) (by kernel_rfl) (fun _ _ _ h => h) (by rfl) ?_ ?_
  rotate_left
  · (intro w' hSw; go_simp) <;> with_reducible rfl
  simp only [Act.put, List.setIfInBounds_toArray, List.set_cons_zero, List.set_cons_succ]
  refine rg_take (i := 10) (d := (some 31)) (v := ?_) rfl rfl (by kernel_rfl) (by kernel_rfl) (by kernel_rfl) (fun _ _ _ h => h) (by rfl) ?_ ?_
  rotate_left
  · (intro w' hSw; go_simp) <;> with_reducible rfl
  simp only [Act.put, List.setIfInBounds_toArray, List.set_cons_zero, List.set_cons_succ]
  refine rg_take (i := 11) (d := (some 32)) (v := ?_) rfl rfl (by kernel_rfl) (by kernel_rfl) (by kernel_rfl) (fun _ _ _ h => h) (by rfl) ?_ ?_
  rotate_left
  · (intro w' hSw; go_simp) <;> with_reducible rfl
  simp only [Act.put, List.setIfInBounds_toArray, List.set_cons_zero, List.set_cons_succ]
  refine rg_take (i := 12) (d := (some 33)) (v := ?_) rfl rfl (by kernel_rfl) (by kernel_rfl) (by kernel_rfl) (fun _ _ _ h => h) (by rfl) ?_ ?_
  rotate_left
  · (intro w' hSw; go_simp) <;> with_reducible rfl
  simp only [Act.put, List.setIfInBounds_toArray, List.set_cons_zero, List.set_cons_succ]
  refine rg_take (i := 13) (d := (some 34)) (v := ?_) rfl rfl (by kernel_rfl) (by kernel_rfl) (by kernel_rfl) (fun _ _ _ h => h) (by rfl) ?_ ?_
  rotate_left
  · (intro w' hSw; go_simp) <;> with_reducible rfl
  simp only [Act.put, List.setIfInBounds_toArray, List.set_cons_zero, List.set_cons_succ]
  refine rg_take (i := 14) (d := (some 35)) (v := ?_) rfl rfl (by kernel_rfl) (by kernel_rfl) (by kernel_rfl) (fun _ _ _ h => h) (by rfl) ?_ ?_
  rotate_left
  · (intro w' hSw; go_simp) <;> with_reducible rfl
  simp only [Act.put, List.setIfInBounds_toArray, List.set_cons_zero, List.set_cons_succ]
  refine rg_take (i := 15) (d := (some 36)) (v := ?_) rfl rfl (by kernel_rfl) (by kernel_rfl) (by kernel_rfl) (fun _ _ _ h => h) (by rfl) ?_ ?_
  rotate_left
  · (intro w' hSw; go_simp) <;> with_reducible rfl
  simp only [Act.put, List.setIfInBounds_toArray, List.set_cons_zero, List.set_cons_succ]
  refine rg_take (i := 16) (d := (some 37)) (v := ?_) rfl rfl (by kernel_rfl) (by kernel_rfl) (by kernel_rfl) (fun _ _ _ h => h) (by rfl) ?_ ?_
  rotate_left
  · (intro w' hSw; go_simp) <;> with_reducible rfl
  simp only [Act.put, List.setIfInBounds_toArray, List.set_cons_zero, List.set_cons_succ]
  refine rg_take (i := 17) (d := (some 38)) (v := ?_) rfl rfl (by kernel_rfl) (by kernel_rfl) (by kernel_rfl) (fun _ _ _ h => h) (by rfl) ?_ ?_
  rotate_left
  · (intro w' hSw; go_simp) <;> with_reducible rfl
  simp only [Act.put, List.setIfInBounds_toArray, List.set_cons_zero, List.set_cons_succ]
  refine rg_take (i := 18) (d := (some 39)) (v := ?_) rfl rfl (by kernel_rfl) (by kernel_rfl) (by kernel_rfl) (fun _ _ _ h => h) (by rfl) ?_ ?_
  rotate_left
  · (intro w' hSw; go_simp) <;> with_reducible rfl
  simp only [Act.put, List.setIfInBounds_toArray, List.set_cons_zero, List.set_cons_succ]
  refine rg_take (i := 19) (d := (some 40)) (v := ?_) rfl rfl (by kernel_rfl) (by kernel_rfl) (by kernel_rfl) (fun _ _ _ h => h) (by rfl) ?_ ?_
  rotate_left
  · (intro w' hSw; go_simp) <;> with_reducible rfl
  simp only [Act.put, List.setIfInBounds_toArray, List.set_cons_zero, List.set_cons_succ]
  refine rg_take (i := 20) (d := (some 41)) (v := ?_) rfl rfl (by kernel_rfl) (by kernel_rfl) (by kernel_rfl) (fun _ _ _ h => h) (by rfl) ?_ ?_
  rotate_left
  · (intro w' hSw; go_simp) <;> with_reducible rfl
  simp only [Act.put, List.setIfInBounds_toArray, List.set_cons_zero, List.set_cons_succ]
  refine rg_take (i := 21) (d := (some 42)) (v := ?_) rfl rfl (by kernel_rfl) (by kernel_rfl) (by kernel_rfl) (fun _ _ _ h => h) (by rfl) ?_ ?_
  rotate_left
  · (intro w' hSw; go_simp) <;> with_reducible rfl
  simp only [Act.put, List.setIfInBounds_toArray, List.set_cons_zero, List.set_cons_succ]
  refine rg_take (i := 22) (d := (some 43)) (v := ?_) rfl rfl (by kernel_rfl) (by kernel_rfl) (by kernel_rfl) (fun _ _ _ h => h) (by rfl) ?_ ?_
  rotate_left
  · (intro w' hSw; go_simp) <;> with_reducible rfl
  simp only [Act.put, List.setIfInBounds_toArray, List.set_cons_zero, List.set_cons_succ]
  refine rg_call (i := 23) rfl (by kernel_rfl) (by rfl) (fun K hK => ?_)
  go_simp
  refine (begins_any a4 _ c4 a2 _ c2 _ _ w6 LG6 L6 (by omega) (by omega)).mono ?_
  rintro e w7 ⟨rfl, E7⟩
  rw [List.take_of_length_le (Nat.le_refl _), decide_eq_true rfl]
  have E17 := E16.tr E7
  refine hK.out _ _ E7 ?_
  clear hK K
  try simp only [Act.put, List.setIfInBounds_toArray, List.set_cons_zero, List.set_cons_succ]
  refine rg_take (i := 24) (d := (some 45)) (v := ?_) rfl rfl (by kernel_rfl) (by kernel_rfl) (by kernel_rfl) (fun _ _ _ h => h) (by rfl) ?_ ?_
  rotate_left
  · (intro w' hSw; go_simp) <;> with_reducible rfl
  simp only [Act.put, List.setIfInBounds_toArray, List.set_cons_zero, List.set_cons_succ]
  refine rg_take (i := 25) (d := (some 2)) (v := ?_) rfl rfl (by kernel_rfl) (by kernel_rfl) (by kernel_rfl) (fun _ _ _ h => h) (by rfl) ?_ ?_
  rotate_left
  · (intro w' hSw; go_simp) <;> with_reducible rfl
  simp only [Act.put, List.setIfInBounds_toArray, List.set_cons_zero, List.set_cons_succ]
  refine rg_done (by kernel_rfl) ?_
  go_wp2
  go_ret
  exact ⟨rfl, E17⟩
end Go.Proofs.Ytknllmcpogoeoaa
