/- FrameCovers, walked. -/
import Derived.Test.YtknllmcpogoeoaaLb
import Derived.Test.YtknllmcpogoeoaaFq
import Derived.Test.YtknllmcpogoeoaaRg
namespace Go.Proofs.Ytknllmcpogoeoaa
open Go.RowKit
set_option linter.unusedVariables false
set_option linter.unusedSimpArgs false
theorem Bs.cutAt {w : World} {a : Option Addr} {len : Nat} {l : List UInt8} (h : Bs w a len l) (lo hi c : Nat) (h1 : lo ≤ hi) (h2 : hi ≤ len) (h3 : len ≤ c) :
    Bs w (if c = lo then a else Option.map (fun x => x.add lo) a) (hi - lo) ((l.drop lo).take (hi - lo)) :=
  h.sub lo (hi - lo) (by omega) (fun b off e h0 => by rw [if_neg (by omega), e]; simp [Addr.add_lit])
def CovRel (L : List UInt8) (D : List PartS) (w : World) (u v i : Value) (wr : World) : Prop :=
  ∃ (k at' : Nat) (g : Bool), k ≤ D.length ∧ i = .int .i64 (k : Int) ∧ u = .int .i64 (at' : Int) ∧ v = .bool g ∧ Cov L at' g (D.drop k) ∧ Ext w wr
set_option maxRecDepth 100000 in
set_option maxHeartbeats 1600000 in
theorem covers_any (a : Option Addr) (n c : Nat) (l : List UInt8) (w : World) (hb : Bs w a n l) (hn : n ≤ 1048576) (hc : n ≤ c) (hz : a = none → c = 0) :
    Calls Try.prog 5 #[.slice a n c] w (fun e w' => e = .returned (.bool true) ∧ Ext w w') := by
  have hl := hb.leng
  subst hl
  have hsl := scanP_len l 0
  have hcov := cov_all l
  have Hcov := Lib.hid hcov
  clear hcov
  go_enter Try.func5, Try.ntmps5
  go_wp2_with (first
    | (go_at_call 32; refine (awake3_any w).mono ?_; rintro e w1 ⟨rfl, E1⟩; have hb1 := E1.bs hb)
    | (go_at_call 36; refine (parts_any a l.length c l 1073741824 w1 hb1 (by omega) hz (by omega)).mono ?_; rintro e w2 ⟨a2, c2, rows2, rfl, P2, hD2, E2⟩; rw [List.take_of_length_le (by omega)] at hD2; have E12 := E1.tr E2))
  have V2 := P2.pv
  have hr2 : rows2.length = (scanP 0 l).length := by rw [← hD2, List.length_map]
  rw [hD2] at V2
  clear P2 hD2
  generalize hDD : scanP 0 l = D at *
  have HD := Lib.hid hDD
  have HR := Lib.hid hr2
  rw [hr2] at V2 ⊢
  clear hDD hr2
  go_loopw [3, 4, 12] (fun u v i wr => CovRel l D w2 u v i wr) (fun _ _ i _ => D.length - (intOf i).toNat)
  case atStart => exact ⟨0, 0, true, by omega, rfl, rfl, rfl, Hcov.out, Ext.refl w2⟩
  case round =>
    obtain ⟨k, at1, g, hk, rfl, rfl, rfl, hcv, E3⟩ := hrel
    rename World => W
    by_cases hkD : k < D.length
    case neg =>
      have hkb : decide ((k : Int) < (D.length : Int)) = false := by simp; omega
      have hend : at1 = l.length := by
        rw [List.drop_eq_nil_of_le (by omega)] at hcv
        exact hcv
      subst hend
      go_wp2
      go_ret
      exact ⟨by simp, E12.tr E3⟩
    have hkb : decide ((k : Int) < (D.length : Int)) = true := by simp; omega
    obtain ⟨p, hp⟩ : ∃ p, D[k]? = some p := ⟨_, List.getElem?_eq_getElem (by omega)⟩
    rw [List.drop_eq_getElem_cons hkD] at hcv
    rw [List.getElem?_eq_getElem hkD, Option.some.injEq] at hp
    rw [hp] at hcv
    have hp : D[k]? = some p := by rw [List.getElem?_eq_getElem hkD, hp]
    obtain ⟨b1, o1, x1, y1, z1, rfl, e10, e11, e12, e13, b1s⟩ := (V2.ext E3).cell k p hp
    obtain ⟨hoff, hlen, hbad, hle, hgood, hcv⟩ := hcv
    obtain ⟨f1, m1, d1, g1⟩ := p
    dsimp only at *
    subst hoff
    have hb2 := E3.bs (E2.bs hb1)
    have q1 : (k : Int) < (D.length : Int) := by omega
    have q3 : (0 : Int) ≤ (k : Int) := by omega
    have EA := E3.al (.cells #[Value.int IntKind.i64 ↑f1, Value.int IntKind.i64 ↑m1, Value.slice x1 y1 z1, Value.bool g1] 36)
    have EW := (Ext.refl W).al (.cells #[Value.int IntKind.i64 ↑f1, Value.int IntKind.i64 ↑m1, Value.slice x1 y1 z1, Value.bool g1] 36)
    have hb3 := EW.bs hb2
    have b3s := EW.bs b1s
    have hnw := heap_alloc_new W (.cells #[Value.int IntKind.i64 ↑f1, Value.int IntKind.i64 ↑m1, Value.slice x1 y1 z1, Value.bool g1] 36)
    have hone : decide ((m1 : Int) < 1) = false := by simp; omega
    cases g1 with
    | true =>
      obtain ⟨h8, hbody⟩ := hgood rfl
      have w1 : IntKind.i64.wrap ((f1 : Int) + (m1 : Int)) = (f1 : Int) + (m1 : Int) := IntWalk.i64_in _ (by omega)
      have h8b : decide ((m1 : Int) < 8) = false := by simp; omega
      have hgt : decide ((l.length : Int) < (f1 : Int) + (m1 : Int)) = false := by simp; omega
      clear hgood hbad hb2 b1s hb hb1
      go_wp2_with fail
      clear e10 e11 e12 e13 V2 E3 EW
      generalize W.alloc (.cells #[Value.int IntKind.i64 ↑f1, Value.int IntKind.i64 ↑m1, Value.slice x1 y1 z1, Value.bool true] 36) = W1 at *
      generalize W.heap.size = gb at *
      have e20 : W1.cell? ⟨gb, 0, none⟩ = some (Value.int IntKind.i64 ↑f1) := by simp [World.cell?, hnw]
      have e21 : W1.cell? ⟨gb, 1, none⟩ = some (Value.int IntKind.i64 ↑m1) := by simp [World.cell?, hnw]
      have e22 : W1.cell? ⟨gb, 2, none⟩ = some (Value.slice x1 y1 z1) := by simp [World.cell?, hnw]
      have e23 : W1.cell? ⟨gb, 3, none⟩ = some (Value.bool true) := by simp [World.cell?, hnw]
      clear hnw
      go_quiet (fail)
      go_wp2_with fail
      have w2 : IntKind.i64.wrap (f1 : Int) = (f1 : Int) := IntWalk.i64_in _ (by omega)
      have t0 : (0 : Int) ≤ (f1 : Int) + (m1 : Int) := by omega
      have w3 : IntKind.i64.wrap ((f1 : Int) + 8) = (f1 : Int) + 8 := IntWalk.i64_in _ (by omega)
      have t1 : (0 : Int) ≤ (f1 : Int) + 8 := by omega
      have t2 : (f1 : Int) + 8 ≤ (f1 : Int) + (m1 : Int) := by omega
      have t3 : (f1 : Int) + (m1 : Int) ≤ (c : Int) := by omega
      obtain ⟨q, hq⟩ : ∃ q, q = f1 + 8 := ⟨_, rfl⟩
      have t4 : ((f1 : Int) + 8).toNat = q := by omega
      have t5 : ((f1 : Int) + (m1 : Int)).toNat = f1 + m1 := by omega
      have b4s := (b3s.drewN nq).drew
      have hsub := Bs.cutAt ((hb3.drewN nq).drew) q (f1 + m1) c (by omega) (by omega) hc
      rw [show f1 + m1 - q = m1 - 8 by omega, hq, ← hbody, ← hq] at hsub
      have t6 : f1 + m1 - q = m1 - 8 := by omega
      clear hbody hq
      replace e20 : (W1.drewN nq).drew.cell? ⟨gb, 0, none⟩ = some (Value.int IntKind.i64 ↑f1) := by simpa using e20
      replace e21 : (W1.drewN nq).drew.cell? ⟨gb, 1, none⟩ = some (Value.int IntKind.i64 ↑m1) := by simpa using e21
      replace e22 : (W1.drewN nq).drew.cell? ⟨gb, 2, none⟩ = some (Value.slice x1 y1 z1) := by simpa using e22
      replace e23 : (W1.drewN nq).drew.cell? ⟨gb, 3, none⟩ = some (Value.bool true) := by simpa using e23
      refine rg_start (by kernel_rfl) ?_
      refine rg_take (i := 0) (d := (some 46)) (v := ?_) rfl rfl (by kernel_rfl) (by kernel_rfl) (by kernel_rfl) (fun _ _ _ h => h) (by rfl) ?_ ?_
      rotate_left
      · (intro w' hSw; go_simp) <;> with_reducible rfl
      simp only [Act.put, List.setIfInBounds_toArray, List.set_cons_zero, List.set_cons_succ]
      refine rg_take (i := 1) (d := (some 47)) (v := ?_) rfl rfl (by kernel_rfl) (by kernel_rfl) (by kernel_rfl) (fun _ _ _ h => h) (by rfl) ?_ ?_
      rotate_left
      · (intro w' hSw; go_simp) <;> with_reducible rfl
      simp only [Act.put, List.setIfInBounds_toArray, List.set_cons_zero, List.set_cons_succ]
      refine rg_take (i := 2) (d := (some 48)) (v := ?_) rfl rfl (by kernel_rfl) (by kernel_rfl) (by kernel_rfl) (fun _ _ _ h => h) (by rfl) ?_ ?_
      rotate_left
      · (intro w' hSw; go_simp) <;> with_reducible rfl
      simp only [Act.put, List.setIfInBounds_toArray, List.set_cons_zero, List.set_cons_succ]
      refine rg_take (i := 3) (d := (some 49)) (v := ?_) rfl rfl (by kernel_rfl) (by kernel_rfl) (by kernel_rfl) (fun _ _ _ h => h) (by rfl) ?_ ?_
      rotate_left
      · (intro w' hSw; go_simp) <;> with_reducible rfl
      simp only [Act.put, List.setIfInBounds_toArray, List.set_cons_zero, List.set_cons_succ]
      refine rg_take (i := 4) (d := (some 50)) (v := ?_) rfl rfl (by kernel_rfl) (by kernel_rfl) (by kernel_rfl) (fun _ _ _ h => h) (by rfl) ?_ ?_
      rotate_left
      · (intro w' hSw; go_simp) <;> with_reducible rfl
      simp only [Act.put, List.setIfInBounds_toArray, List.set_cons_zero, List.set_cons_succ]
      refine rg_take (i := 5) (d := (some 51)) (v := ?_) rfl rfl (by kernel_rfl) (by kernel_rfl) (by kernel_rfl) (fun _ _ _ h => h) (by rfl) ?_ ?_
      rotate_left
      · (intro w' hSw; go_simp) <;> with_reducible rfl
      simp only [Act.put, List.setIfInBounds_toArray, List.set_cons_zero, List.set_cons_succ]
      refine rg_take (i := 6) (d := (some 52)) (v := ?_) rfl rfl (by kernel_rfl) (by kernel_rfl) (by kernel_rfl) (fun _ _ _ h => h) (by rfl) ?_ ?_
      rotate_left
      · (intro w' hSw; have k0 := hSw.cell e20; have k1 := hSw.cell e21; have k2 := hSw.cell e22; have k3 := hSw.cell e23; go_simp) <;> with_reducible rfl
      simp only [Act.put, List.setIfInBounds_toArray, List.set_cons_zero, List.set_cons_succ]
      refine rg_take (i := 7) (d := (some 53)) (v := ?_) rfl rfl (by kernel_rfl) (by kernel_rfl) (by kernel_rfl) (fun _ _ _ h => h) (by rfl) ?_ ?_
      rotate_left
      · (intro w' hSw; go_simp) <;> with_reducible rfl
      simp only [Act.put, List.setIfInBounds_toArray, List.set_cons_zero, List.set_cons_succ]
      refine rg_take (i := 8) (d := (some 54)) (v := ?_) rfl rfl (by kernel_rfl) (by kernel_rfl) (by kernel_rfl) (fun _ _ _ h => h) (by rfl) ?_ ?_
      rotate_left
      · (intro w' hSw; go_simp) <;> with_reducible rfl
      simp only [Act.put, List.setIfInBounds_toArray, List.set_cons_zero, List.set_cons_succ]
      refine rg_take (i := 9) (d := (some 55)) (v := ?_) rfl rfl (by kernel_rfl) (by kernel_rfl) (by kernel_rfl) (fun _ _ _ h => h) (by rfl) ?_ ?_
      rotate_left
      · (intro w' hSw; have k0 := hSw.cell e20; have k1 := hSw.cell e21; have k2 := hSw.cell e22; have k3 := hSw.cell e23; go_simp) <;> with_reducible rfl
      simp only [Act.put, List.setIfInBounds_toArray, List.set_cons_zero, List.set_cons_succ]
      refine rg_take (i := 10) (d := (some 56)) (v := ?_) rfl rfl (by kernel_rfl) (by kernel_rfl) (by kernel_rfl) (fun _ _ _ h => h) (by rfl) ?_ ?_
      rotate_left
      · (intro w' hSw; go_simp) <;> with_reducible rfl
      simp only [Act.put, List.setIfInBounds_toArray, List.set_cons_zero, List.set_cons_succ]
      refine rg_take (i := 11) (d := (some 57)) (v := ?_) rfl rfl (by kernel_rfl) (by kernel_rfl) (by kernel_rfl) (fun _ _ _ h => h) (by rfl) ?_ ?_
      rotate_left
      · (intro w' hSw; go_simp) <;> with_reducible rfl
      simp only [Act.put, List.setIfInBounds_toArray, List.set_cons_zero, List.set_cons_succ]
      refine rg_take (i := 12) (d := (some 58)) (v := ?_) rfl rfl (by kernel_rfl) (by kernel_rfl) (by kernel_rfl) (fun _ _ _ h => h) (by rfl) ?_ ?_
      rotate_left
      · (intro w' hSw; go_simp) <;> with_reducible rfl
      simp only [Act.put, List.setIfInBounds_toArray, List.set_cons_zero, List.set_cons_succ]
      refine rg_take (i := 13) (d := (some 59)) (v := ?_) rfl rfl (by kernel_rfl) (by kernel_rfl) (by kernel_rfl) (fun _ _ _ h => h) (by rfl) ?_ ?_
      rotate_left
      · (intro w' hSw; have k0 := hSw.cell e20; have k1 := hSw.cell e21; have k2 := hSw.cell e22; have k3 := hSw.cell e23; go_simp) <;> with_reducible rfl
      simp only [Act.put, List.setIfInBounds_toArray, List.set_cons_zero, List.set_cons_succ]
      refine rg_take (i := 14) (d := (some 60)) (v := ?_) rfl rfl (by kernel_rfl) (by kernel_rfl) (by kernel_rfl) (fun _ _ _ h => h) (by rfl) ?_ ?_
      rotate_left
      · (intro w' hSw; have k1 := conv_bs (cap := z1) (hSw.bs b4s); go_simp) <;> with_reducible rfl
      simp only [Act.put, List.setIfInBounds_toArray, List.set_cons_zero, List.set_cons_succ]
      refine rg_take (i := 15) (d := (some 61)) (v := ?_) rfl rfl (by kernel_rfl) (by kernel_rfl) (by kernel_rfl) (fun _ _ _ h => h) (by rfl) ?_ ?_
      rotate_left
      · (intro w' hSw; go_simp) <;> with_reducible rfl
      simp only [Act.put, List.setIfInBounds_toArray, List.set_cons_zero, List.set_cons_succ]
      refine rg_take (i := 16) (d := (some 62)) (v := ?_) rfl rfl (by kernel_rfl) (by kernel_rfl) (by kernel_rfl) (fun _ _ _ h => h) (by rfl) ?_ ?_
      rotate_left
      · (intro w' hSw; go_simp) <;> with_reducible rfl
      simp only [Act.put, List.setIfInBounds_toArray, List.set_cons_zero, List.set_cons_succ]
      refine rg_take (i := 17) (d := (some 63)) (v := ?_) rfl rfl (by kernel_rfl) (by kernel_rfl) (by kernel_rfl) (fun _ _ _ h => h) (by rfl) ?_ ?_
      rotate_left
      · (intro w' hSw; go_simp) <;> with_reducible rfl
      simp only [Act.put, List.setIfInBounds_toArray, List.set_cons_zero, List.set_cons_succ]
      refine rg_take (i := 18) (d := (some 64)) (v := ?_) rfl rfl (by kernel_rfl) (by kernel_rfl) (by kernel_rfl) (fun _ _ _ h => h) (by rfl) ?_ ?_
      rotate_left
      · (intro w' hSw; have k0 := hSw.cell e20; have k1 := hSw.cell e21; have k2 := hSw.cell e22; have k3 := hSw.cell e23; go_simp) <;> with_reducible rfl
      simp only [Act.put, List.setIfInBounds_toArray, List.set_cons_zero, List.set_cons_succ]
      refine rg_take (i := 19) (d := (some 65)) (v := ?_) rfl rfl (by kernel_rfl) (by kernel_rfl) (by kernel_rfl) (fun _ _ _ h => h) (by rfl) ?_ ?_
      rotate_left
      · (intro w' hSw; go_simp) <;> with_reducible rfl
      simp only [Act.put, List.setIfInBounds_toArray, List.set_cons_zero, List.set_cons_succ]
      refine rg_take (i := 20) (d := (some 66)) (v := ?_) rfl rfl (by kernel_rfl) (by kernel_rfl) (by kernel_rfl) (fun _ _ _ h => h) (by rfl) ?_ ?_
      rotate_left
      · (intro w' hSw; go_simp) <;> with_reducible rfl
      simp only [Act.put, List.setIfInBounds_toArray, List.set_cons_zero, List.set_cons_succ]
      refine rg_take (i := 21) (d := (some 67)) (v := ?_) rfl rfl (by kernel_rfl) (by kernel_rfl) (by kernel_rfl) (fun _ _ _ h => h) (by rfl) ?_ ?_
      rotate_left
      · (intro w' hSw; go_simp) <;> with_reducible rfl
      simp only [Act.put, List.setIfInBounds_toArray, List.set_cons_zero, List.set_cons_succ]
      refine rg_take (i := 22) (d := (some 68)) (v := ?_) rfl rfl (by kernel_rfl) (by kernel_rfl) (by kernel_rfl) (fun _ _ _ h => h) (by rfl) ?_ ?_
      rotate_left
      · (intro w' hSw; go_simp) <;> with_reducible rfl
      simp only [Act.put, List.setIfInBounds_toArray, List.set_cons_zero, List.set_cons_succ]
      refine rg_take (i := 23) (d := (some 69)) (v := ?_) rfl rfl (by kernel_rfl) (by kernel_rfl) (by kernel_rfl) (fun _ _ _ h => h) (by rfl) ?_ ?_
      rotate_left
      · (intro w' hSw; have k1 := conv_bs (cap := c - q) (hSw.bs hsub); go_simp) <;> with_reducible rfl
      simp only [Act.put, List.setIfInBounds_toArray, List.set_cons_zero, List.set_cons_succ]
      refine rg_take (i := 24) (d := (some 70)) (v := ?_) rfl rfl (by kernel_rfl) (by kernel_rfl) (by kernel_rfl) (fun _ _ _ h => h) (by rfl) ?_ ?_
      rotate_left
      · (intro w' hSw; go_simp) <;> with_reducible rfl
      simp only [Act.put, List.setIfInBounds_toArray, List.set_cons_zero, List.set_cons_succ]
      refine rg_take (i := 25) (d := (some 71)) (v := ?_) rfl rfl (by kernel_rfl) (by kernel_rfl) (by kernel_rfl) (fun _ _ _ h => h) (by rfl) ?_ ?_
      rotate_left
      · (intro w' hSw; go_simp) <;> with_reducible rfl
      simp only [Act.put, List.setIfInBounds_toArray, List.set_cons_zero, List.set_cons_succ]
      refine rg_take (i := 26) (d := (some 72)) (v := ?_) rfl rfl (by kernel_rfl) (by kernel_rfl) (by kernel_rfl) (fun _ _ _ h => h) (by rfl) ?_ ?_
      rotate_left
      · (intro w' hSw; go_simp) <;> with_reducible rfl
      simp only [Act.put, List.setIfInBounds_toArray, List.set_cons_zero, List.set_cons_succ]
      refine rg_take (i := 27) (d := (some 73)) (v := ?_) rfl rfl (by kernel_rfl) (by kernel_rfl) (by kernel_rfl) (fun _ _ _ h => h) (by rfl) ?_ ?_
      rotate_left
      · (intro w' hSw; go_simp) <;> with_reducible rfl
      simp only [Act.put, List.setIfInBounds_toArray, List.set_cons_zero, List.set_cons_succ]
      refine rg_done (by kernel_rfl) ?_
      go_wp2
      go_roundw
      case rel => exact ⟨k + 1, f1 + m1, true, by omega, by go_num, by go_num, rfl, hcv, (EA.drN _).dr⟩
      case measure => simp [intOf]; omega
    | false =>
      obtain ⟨rfl, rfl⟩ := hbad rfl
      have hy : y1 = 0 := by have := b1s.leng; simpa using this.symm
      subst hy
      have w1 : IntKind.i64.wrap ((f1 : Int) + (m1 : Int)) = (f1 : Int) + (m1 : Int) := IntWalk.i64_in _ (by omega)
      have hgt : decide ((l.length : Int) < (f1 : Int) + (m1 : Int)) = false := by simp; omega
      clear hgood hbad hb2 b1s hb hb1
      go_wp2_with fail
      clear e10 e11 e12 e13 V2 E3 EW
      generalize W.alloc (.cells #[Value.int IntKind.i64 ↑f1, Value.int IntKind.i64 ↑m1, Value.slice x1 0 z1, Value.bool false] 36) = W1 at *
      generalize W.heap.size = gb at *
      have e20 : W1.cell? ⟨gb, 0, none⟩ = some (Value.int IntKind.i64 ↑f1) := by simp [World.cell?, hnw]
      have e21 : W1.cell? ⟨gb, 1, none⟩ = some (Value.int IntKind.i64 ↑m1) := by simp [World.cell?, hnw]
      have e22 : W1.cell? ⟨gb, 2, none⟩ = some (Value.slice x1 0 z1) := by simp [World.cell?, hnw]
      have e23 : W1.cell? ⟨gb, 3, none⟩ = some (Value.bool false) := by simp [World.cell?, hnw]
      clear hnw
      go_quiet (fail)
      go_wp2_with fail
      go_quiet (fail)
      go_wp2
      go_roundw
      case rel => exact ⟨k + 1, f1 + m1, false, by omega, by go_num, by go_num, rfl, hcv, EA.drN _⟩
      case measure => simp [intOf]; omega
end Go.Proofs.Ytknllmcpogoeoaa
