/- NumUints, NumOnce, NumSigns, NumBytes, walked. -/
import Derived.Test.YtknllmcpogoeoaaN5
import Derived.Test.YtknllmcpogoeoaaRw
namespace Go.Proofs.Ytknllmcpogoeoaa
open Go.RowKit
set_option linter.unusedVariables false
set_option linter.unusedSimpArgs false
set_option maxRecDepth 100000 in
set_option maxHeartbeats 1600000 in
theorem numUints_any (a : Option Addr) (n c : Nat) (l : List UInt8) (v : Nat) (w : World) (hb : Bs w a n l) (hn : n ≤ 140737488351232) (hz : a = none → c = 0) (hv : v < 18446744073709551616) :
    Calls Try.prog 12 #[.slice a n c, .int .u64 (v : Int)] w (fun e w' => e = .returned (.bool true) ∧ Ext w w') := by
  have hl := hb.leng
  subst hl
  have hpl := putU_len v hv
  go_enter Try.func12, Try.ntmps12
  go_wp2_with (first
    | (go_at_call 44; refine (awake1_any w).mono ?_; rintro e w1 ⟨rfl, E1⟩; have hb1 := E1.bs hb)
    | (go_at_call 46; refine (putUint_any a l.length c l v w1 hb1 hz hv (by omega)).mono ?_; rintro e w2 ⟨a2, c2, rfl, O2, E2⟩; have E02 := E1.tr E2; have hb2 := E2.bs hb1; have Z := Ow.zero w2 w2.heap.size rfl w2.heap.size (Nat.le_refl _); have EZ := (Ext.refl w2).al (.cells #[] 5))
    | (at_builtin; refine wp_appW (s := .tmp 17) (x := .tmp 18) w2.heap.size l.length l rfl rfl rfl Z (EZ.bs hb2) hz (by omega) rfl (by omega) (by simp) ?_; intro a3 c3 w3 O3 G3; have E3 := EZ.app Z (Nat.le_refl _) G3; have E03 := E02.tr E3)
    | (go_at_call 47; refine (rput_any v w3 hv).mono ?_; rintro e w4 ⟨a4, c4, rfl, O4, E4⟩; have O3' := E4.row O3; have E04 := E03.tr E4)
    | (at_builtin; refine wp_appW (s := .tmp 19) (x := .tmp 21) w2.heap.size (l.length + (putU v).length) (l ++ putU v) rfl rfl rfl O3' O4.bs O4.cap.2 rfl rfl (by omega) (by have := E3.sz; have := E4.sz; omega) ?_; intro a5 c5 w5 O5 G5; have E5 := (E3.tr E4).app O3' (Nat.le_refl _) G5; have E05 := E02.tr E5)
    | (go_at_call 45; refine (same1_any a2 (l.length + (putU v).length) c2 a5 (l.length + (putU v).length) c5 (l ++ putU v) (l ++ putU v) w5 (by have := (E5.bs O2.bs); rw [List.length_append] at this; exact this) O5.bs (by omega)).mono ?_; rintro e w6 ⟨rfl, E6⟩; rw [decide_eq_true rfl]; have E06 := E05.tr E6; have hb6 := E06.bs hb)
    | (go_at_call 48; refine (uint_any a l.length c l w6 hb6 (by omega)).mono ?_; rintro e w7 ⟨rfl, rfl⟩)
    | (go_at_call 49; refine (ruint_any a l.length c l _ hb6 (by omega)).mono ?_; rintro e w7 ⟨rfl, rfl⟩))
  go_ret
  exact ⟨rfl, E06⟩
end Go.Proofs.Ytknllmcpogoeoaa
