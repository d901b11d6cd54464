/- FrameCuts, walked. -/
import Derived.Test.YtknllmcpogoeoaaLd
namespace Go.Proofs.Ytknllmcpogoeoaa
open Go.RowKit
set_option linter.unusedVariables false
set_option linter.unusedSimpArgs false
theorem Ls.take {w : World} {a : Option Addr} {len : Nat} {ls : List (List UInt8)} (h : Ls w a len ls) (n : Nat) (hn : n ≤ len) : Ls w a n (ls.take n) :=
  ⟨by rw [List.length_take, h.leng]; omega, fun k hk => by
    rw [List.getElem?_take, if_pos hk]
    exact h.cell k (by omega)⟩
theorem bodL_le (l : List UInt8) : (bodL (scanP 0 l)).length ≤ l.length := by
  have hsl := scanP_len l 0
  have := bodL_len (scanP 0 l) (scanP 0 l).length
  rw [List.take_of_length_le (Nat.le_refl _)] at this
  omega
theorem bodL_each (l : List UInt8) (hl : l.length ≤ 140737488351232) : ∀ x ∈ bodL (scanP 0 l), x.length ≤ 140737488351232 := fun x hx => by
  unfold bodL at hx
  obtain ⟨p, hp, rfl⟩ := List.mem_map.1 hx
  have := body_len l 0 p (List.mem_filter.1 hp).1
  omega
theorem file_take_succ (F : List (List UInt8)) (k : Nat) (x : List UInt8) (h : F[k]? = some x) : (fileOf (F.take (k + 1))).length = (fileOf (F.take k)).length + (8 + x.length) := by
  rw [fileOf_snoc F k x h, List.length_append, frameOf_len]
theorem mod_nat (x n : Nat) : ∃ k : Nat, (x : Int) % ((n : Int) + 1) = (k : Int) ∧ k ≤ n := by
  refine ⟨x % (n + 1), ?_, by have := Nat.mod_lt x (show 0 < n + 1 by omega); omega⟩
  rw [Int.natCast_emod]; rfl
set_option maxRecDepth 100000 in
set_option maxHeartbeats 1600000 in
theorem cuts_any (a : Option Addr) (n c : Nat) (ls : List (List UInt8)) (x : Nat) (w : World) (hb : Ls w a n ls) (hn : n ≤ 140737488351232) (hx : x ≤ 65535) :
    Calls Try.prog 9 #[.slice a n c, .int .u16 (x : Int)] w (fun e w' => e = .returned (.bool true) ∧ Ext w w') := by
  have hall := fewS_all ls
  have hlen := fewS_len ls
  have h4 : ∀ x ∈ fewS ls, x.length ≤ 4000 := fun x hx => by have := hall x hx; omega
  have hfl := file_len60 _ hall
  have H4 := Lib.hid h4
  have H60 := Lib.hid hall
  clear hall h4
  generalize hF : fewS ls = F at *
  have HF := Lib.hid hF
  clear hF
  go_enter Try.func9, Try.ntmps9
  go_wp2_with (first
    | (go_at_call 32; refine (awake3_any w).mono ?_; rintro e w1 ⟨rfl, E1⟩; have hb1 := E1.ls hb)
    | (go_at_call 41; refine (few_any a n c ls w1 hb1 hn).mono ?_; rintro e w2 ⟨a2, n2, c2, rfl, hn2, hc2, L2, E2⟩; rw [HF.out] at L2; have E12 := E1.tr E2)
    | (go_at_call 42; refine (file_any a2 n2 c2 F w2 L2 (by omega) H4.out).mono ?_; rintro e w3 ⟨a3, n3, c3, rfl, O3, E3⟩; have L3 := E3.ls L2; have E13 := E12.tr E3; have hn3 := O3.leng; have hc3 := O3.cap.1))
  have hFn := L2.leng
  subst hFn
  obtain ⟨kc, hkc, hkn⟩ := mod_nat x n3
  rw [hkc]
  clear hkc hx
  go_loop [8, 9] (fun u v => ∃ k : Nat, k ≤ F.length ∧ u = .int .i64 (k : Int) ∧ v = .int .i64 ((fileOf (F.take k)).length : Int) ∧ (fileOf (F.take k)).length ≤ kc) (fun u _ => F.length - (intOf u).toNat)
  case atStart => exact ⟨0, by omega, rfl, by simp [fileOf], by simp [fileOf]⟩
  case round =>
    obtain ⟨k, hk, rfl, rfl, hat⟩ := hrel
    obtain ⟨at1, hat1⟩ : ∃ z, z = (fileOf (F.take k)).length := ⟨_, rfl⟩
    rw [← hat1] at hat ⊢
    have Hat := Lib.hid hat1
    clear hat1
    by_cases hkF : k < F.length
    case neg =>
      have hkb : decide ((k : Int) < (F.length : Int)) = false := by simp; omega
      obtain rfl : k = F.length := by omega
      have hcap : (kc : Int) ≤ (c3 : Int) := by omega
      have hBs := O3.bs.sub 0 kc (by omega) (a' := a3) (fun b' o' e _ => by rw [e]; simp)
      rw [List.drop_zero] at hBs
      have hsb := scan_begins F H4.out ((fileOf F).take kc) F.length kc (Nat.le_refl _) (by rw [← Hat.out]; exact hat) (by rw [List.take_take, Nat.min_self])
      have Hsb := Lib.hid hsb
      clear hsb
      go_wp2_with (first
        | (go_at_call 38; refine (bodies_any a3 kc c3 _ w3 hBs (by omega) O3.cap.2).mono ?_; rintro e w4 ⟨a4, c4, rows4, rfl, V4, hD4, E4⟩; obtain ⟨LG, hrl⟩ := bod_ls (l := fileOf F) V4 hD4 (bodL_each _ (by simp; omega)); rw [hrl]; have L4 := E4.ls L3; have E14 := E13.tr E4; have hbl := bodL_le ((fileOf F).take kc); rw [List.length_take] at hbl)
        | (go_at_call 40; refine (begins_any a4 _ c4 a2 _ c2 _ _ w4 LG L4 (by omega) (by omega)).mono ?_; rintro e w5 ⟨rfl, E5⟩; rw [Hsb.out, List.take_of_length_le (Nat.le_refl _), decide_eq_true rfl]))
      go_ret
      exact ⟨rfl, E14.tr E5⟩
    have hkb : decide ((k : Int) < (F.length : Int)) = true := by simp; omega
    obtain ⟨b, o, p, u, r, rfl, hcl, hbs, hur, hpn, hum⟩ := L3.at k hkF
    have q3 : (k : Int) < (F.length : Int) := by omega
    have q4 : (0 : Int) ≤ (k : Int) := by omega
    have hFk : F[k]? = some (F[k]?.getD []) := by rw [List.getElem?_eq_getElem hkF]; rfl
    have hxl := hbs.leng
    have h60 := H60.out _ (List.mem_of_getElem? hFk)
    have hsucc := file_take_succ F k _ hFk
    rw [hxl, ← Hat.out] at hsucc
    have Hsucc := Lib.hid hsucc
    clear hsucc hFk
    rw [hxl] at h60
    clear hxl hbs
    by_cases hle : at1 + 8 + u ≤ kc
    · have hlb : decide ((at1 : Int) + 8 + (u : Int) ≤ (kc : Int)) = true := by simp; omega
      go_wp2
      go_round
      case rel => exact ⟨k + 1, by omega, by go_num, by rw [Hsucc.out]; go_num, by rw [Hsucc.out]; omega⟩
      case measure => simp [intOf]; omega
    · have hlb : decide ((at1 : Int) + 8 + (u : Int) ≤ (kc : Int)) = false := by simp; omega
      have hcap : (kc : Int) ≤ (c3 : Int) := by omega
      have hcap2 : (k : Int) ≤ (c2 : Int) := by omega
      have hBs := O3.bs.sub 0 kc (by omega) (a' := a3) (fun b' o' e _ => by rw [e]; simp)
      rw [List.drop_zero] at hBs
      have hsb := scan_begins F H4.out ((fileOf F).take kc) k kc hk (by rw [← Hat.out]; exact hat) (by rw [List.take_take, Nat.min_self])
      have Hsb := Lib.hid hsb
      clear hsb
      go_wp2_with (first
        | (go_at_call 38; refine (bodies_any a3 kc c3 _ w3 hBs (by omega) O3.cap.2).mono ?_; rintro e w4 ⟨a4, c4, rows4, rfl, V4, hD4, E4⟩; obtain ⟨LG, hrl⟩ := bod_ls (l := fileOf F) V4 hD4 (bodL_each _ (by simp; omega)); rw [hrl]; have L4 := (E4.ls L3).take k hk; have E14 := E13.tr E4; have hbl := bodL_le ((fileOf F).take kc); rw [List.length_take] at hbl)
        | (go_at_call 40; refine (begins_any a4 _ c4 _ k c2 _ _ w4 LG L4 (by omega) (by omega)).mono ?_; rintro e w5 ⟨rfl, E5⟩; rw [Hsb.out, decide_eq_true rfl]))
      go_ret
      exact ⟨rfl, E14.tr E5⟩
end Go.Proofs.Ytknllmcpogoeoaa
