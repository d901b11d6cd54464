/- NumBytes, NumNil, NumBack, walked. -/
import Derived.Test.YtknllmcpogoeoaaN5
import Derived.Test.YtknllmcpogoeoaaRw
namespace Go.Proofs.Ytknllmcpogoeoaa
open Go.RowKit
set_option linter.unusedVariables false
set_option linter.unusedSimpArgs false
set_option maxRecDepth 100000 in
set_option maxHeartbeats 1600000 in
theorem numBytes_any (a1 a2 : Option Addr) (n1 c1 n2 c2 : Nat) (l b : List UInt8) (most : Int) (w : World) (h1 : Bs w a1 n1 l) (h2 : Bs w a2 n2 b) (hn1 : n1 ≤ 1048576) (hn2 : n2 ≤ 1048576) (hc1 : n1 ≤ c1) (hz1 : a1 = none → c1 = 0) (hz2 : a2 = none → c2 = 0)
    (hm1 : -9223372036854775808 ≤ most) (hm2 : most ≤ 9223372036854775807) :
    Calls Try.prog 17 #[.slice a1 n1 c1, .slice a2 n2 c2, .int .i64 most] w (fun e w' => e = .returned (.bool true) ∧ Ext w w') := by
  have hl := h1.leng
  have hbl := h2.leng
  subst hl hbl
  have hpl := putU_len b.length (by omega)
  have hPB : l ++ putU b.length ++ b = l ++ putB b := by unfold putB; rw [List.append_assoc]
  have hPBl : l.length + (putU b.length).length + b.length = (l ++ putB b).length := by unfold putB; simp; omega
  have HPB := Lib.hid hPB
  have HPBl := Lib.hid hPBl
  clear hPB hPBl
  obtain ⟨r, hr⟩ : ∃ r, r = rdB l most := ⟨_, rfl⟩
  have hrl : r.body.length ≤ l.length := by
    rw [hr]
    unfold rdB
    split
    · simp
    · cases hu : rdU l with
      | none => simp
      | some p =>
        obtain ⟨v, n⟩ := p
        dsimp only
        split
        · simp
        · split
          · simp
          · dsimp only; rw [List.length_take, List.length_drop]; omega
  have Hr := Lib.hid hr
  clear hr
  go_enter Try.func17, Try.ntmps17
  go_wp2_with (first
    | (go_at_call 44; refine (awake1_any w).mono ?_; rintro e w1 ⟨rfl, E1⟩; have hb1 := E1.bs h1; have hb2 := E1.bs h2; have Z := Ow.zero w1 w1.heap.size rfl w1.heap.size (Nat.le_refl _); have EZ := (Ext.refl w1).al (.cells #[] 5))
    | (at_builtin; refine wp_app (s := .tmp 16) (x := .tmp 17) w1.heap.size l.length l rfl rfl Z (EZ.bs hb1) hz1 (by omega) rfl (by omega) (by simp) ?_; intro a3 c3 w3 O3 G3; have E3 := EZ.app Z (Nat.le_refl _) G3)
    | (go_at_call 47; refine (rput_any b.length w3 (by omega)).mono ?_; rintro e w4 ⟨a4, c4, rfl, O4, E4⟩; have O3' := E4.row O3; have E34 := E3.tr E4)
    | (at_builtin; refine wp_app (s := .tmp 18) (x := .tmp 22) w1.heap.size (l.length + (putU b.length).length) (l ++ putU b.length) rfl rfl O3' O4.bs O4.cap.2 rfl rfl (by omega) E34.sz ?_; intro a5 c5 w5 O5 G5; have E5 := E34.app O3' (Nat.le_refl _) G5)
    | (at_builtin; refine wp_app (s := .tmp 23) (x := .tmp 24) w1.heap.size (l.length + (putU b.length).length + b.length) (l ++ putU b.length ++ b) rfl rfl O5 (E5.bs hb2) hz2 rfl rfl (by omega) E5.sz ?_; intro a6 c6 w6 O6 G6; have E6 := E5.app O5 (Nat.le_refl _) G6; have hb6 := E6.bs hb1; have hb62 := E6.bs hb2; rw [HPB.out, HPBl.out, List.length_append] at O6; rw [HPBl.out, List.length_append])
    | (go_at_call 74; refine (bytes_any a1 l.length c1 l most w6 hb6 (by omega) hc1 hz1 hm1 hm2).mono ?_; rw [← Hr.out]; rintro e w7 ⟨a7, c7, rfl, O7, E7⟩; have hb7 := E7.bs hb6)
    | (go_at_call 75; refine (rbytes_any1 a1 l.length c1 l most w7 hb7 (by omega) hc1 hm1 hm2).mono ?_; rw [← Hr.out]; rintro e w8 ⟨a8, c8, rfl, B8, rfl⟩))
  go_wp2_with fail
  refine (putBytes_any a1 a2 l.length c1 b.length c2 l b _ hb7 (E7.bs hb62) hz1 hz2 (by omega) (by omega)).mono ?_
  rintro e w9 ⟨a9, c9, rfl, O9, E9⟩
  rw [List.length_append] at O9 ⊢
  go_wp2_with fail
  have hPl := HPBl.out
  rw [List.length_append] at hPl
  refine (same1_any a9 _ c9 a6 _ c6 (l ++ putB b) (l ++ putB b) w9 O9.bs ((E7.tr E9).bs O6.bs) (by omega)).mono ?_
  rintro e w10 ⟨rfl, E10⟩
  rw [decide_eq_true rfl]
  go_wp2_with fail
  refine (same1_any a7 _ c7 a8 _ c8 r.body r.body w10 ((E9.tr E10).bs O7.bs) ((E9.tr E10).bs B8) (by omega)).mono ?_
  rintro e w11 ⟨rfl, E11⟩
  rw [decide_eq_true rfl]
  go_wp2
  go_ret
  exact ⟨rfl, ((((E1.tr E6).tr E7).tr E9).tr E10).tr E11⟩
/-! The methods of a nil reader. -/
theorem nopen_any (w : World) : Calls Try.prog 123 #[.pointer none] w (fun e w' => e = .returned (.bool false) ∧ w = w') := by
  go_enter Try.func123, Try.ntmps123
  go_wp2
  go_ret
  exact ⟨rfl, rfl⟩
theorem nUint_any (m : Int) (w : World) : Calls Try.prog 78 #[.pointer none, .int .u64 m] w (fun e w' => e = .returned (.int .u64 0) ∧ w = w') := by
  go_enter Try.func78, Try.ntmps78
  go_wp2_with (go_at_call 123; refine (nopen_any w).mono ?_; rintro e w1 ⟨rfl, rfl⟩)
  go_ret
  exact ⟨rfl, rfl⟩
theorem nInt_any (w : World) : Calls Try.prog 81 #[.pointer none] w (fun e w' => e = .returned (.int .i64 0) ∧ w = w') := by
  go_enter Try.func81, Try.ntmps81
  go_wp2_with (go_at_call 123; refine (nopen_any w).mono ?_; rintro e w1 ⟨rfl, rfl⟩)
  go_ret
  exact ⟨rfl, rfl⟩
theorem nSmall_any (x y : Int) (w : World) : Calls Try.prog 83 #[.pointer none, .int .i64 x, .int .i64 y] w (fun e w' => e = .returned (.int .i64 0) ∧ w = w') := by
  go_enter Try.func83, Try.ntmps83
  go_wp2_with (go_at_call 123; refine (nopen_any w).mono ?_; rintro e w1 ⟨rfl, rfl⟩)
  go_ret
  exact ⟨rfl, rfl⟩
theorem nBytes_any (x : Int) (w : World) : Calls Try.prog 79 #[.pointer none, .int .i64 x] w (fun e w' => e = .returned (.slice none 0 0) ∧ w = w') := by
  go_enter Try.func79, Try.ntmps79
  go_wp2_with (go_at_call 123; refine (nopen_any w).mono ?_; rintro e w1 ⟨rfl, rfl⟩)
  go_ret
  exact ⟨rfl, rfl⟩
theorem nByte_any (w : World) : Calls Try.prog 84 #[.pointer none] w (fun e w' => e = .returned (.int .u8 0) ∧ w = w') := by
  go_enter Try.func84, Try.ntmps84
  go_wp2_with (go_at_call 123; refine (nopen_any w).mono ?_; rintro e w1 ⟨rfl, rfl⟩)
  go_ret
  exact ⟨rfl, rfl⟩
theorem nLeft_any (w : World) : Calls Try.prog 80 #[.pointer none] w (fun e w' => e = .returned (.int .i64 0) ∧ w = w') := by
  go_enter Try.func80, Try.ntmps80
  go_wp2
  go_ret
  exact ⟨rfl, rfl⟩
theorem nErr_any (w : World) : Calls Try.prog 86 #[.pointer none] w (fun e w' => e = .returned (.int .i64 1) ∧ w = w') := by
  go_enter Try.func86, Try.ntmps86
  go_wp2
  go_ret
  exact ⟨rfl, rfl⟩
theorem nEnd_any (w : World) : Calls Try.prog 82 #[.pointer none] w (fun e w' => e = .returned (.int .i64 1) ∧ w = w') := by
  go_enter Try.func82, Try.ntmps82
  go_wp2_with (go_at_call 86; refine (nErr_any w).mono ?_; rintro e w1 ⟨rfl, rfl⟩)
  go_ret
  exact ⟨rfl, rfl⟩
set_option maxRecDepth 100000 in
set_option maxHeartbeats 1600000 in
theorem numNil_any (x : Int) (t : Nat) (y z : Int) (w : World) : Calls Try.prog 21 #[.agg #[.int .i64 x, .int .u64 (t : Int), .int .i64 y, .int .i64 z]] w (fun e w' => e = .returned (.bool true) ∧ Ext w w') := by
  obtain ⟨w0, hw0⟩ : ∃ w0, w0 = w.alloc (.cells #[.int .i64 x, .int .u64 (t : Int), .int .i64 y, .int .i64 z] 123) := ⟨_, rfl⟩
  have E0 : Ext w w0 := by rw [hw0]; exact (Ext.refl w).al _
  have k0 : Blk w0 w.heap.size 123 [.int .i64 x, .int .u64 (t : Int), .int .i64 y, .int .i64 z] := by rw [hw0]; exact Blk.new w 123 _
  have HW0 := Lib.hid hw0
  clear hw0
  generalize hgb : w.heap.size = gb at *
  have Hgb := Lib.hid hgb
  clear hgb
  go_enter Try.func21, Try.ntmps21
  go_wp2_with (first
    | (go_at_call 44; rw [Hgb.out, ← HW0.out]; refine (awake1_any w0).mono ?_; rintro e w1 ⟨rfl, E1⟩; have E01 := E0.tr E1; have k1 := k0.ext E1; have m1 := k1.at_ (i := 1) rfl; have m2 := k1.at_ (i := 2) rfl; have m3 := k1.at_ (i := 3) rfl)
    | (go_at_call 78; refine (nUint_any _ _).mono ?_; rintro e w2 ⟨rfl, rfl⟩)
    | (go_at_call 81; refine (nInt_any _).mono ?_; rintro e w2 ⟨rfl, rfl⟩)
    | (go_at_call 83; refine (nSmall_any _ _ _).mono ?_; rintro e w2 ⟨rfl, rfl⟩)
    | (go_at_call 79; refine (nBytes_any _ _).mono ?_; rintro e w2 ⟨rfl, rfl⟩)
    | (go_at_call 84; refine (nByte_any _).mono ?_; rintro e w2 ⟨rfl, rfl⟩)
    | (go_at_call 80; refine (nLeft_any _).mono ?_; rintro e w2 ⟨rfl, rfl⟩)
    | (go_at_call 86; refine (nErr_any _).mono ?_; rintro e w2 ⟨rfl, rfl⟩)
    | (go_at_call 82; refine (nEnd_any _).mono ?_; rintro e w2 ⟨rfl, rfl⟩))
  go_ret
  exact ⟨rfl, E01⟩
end Go.Proofs.Ytknllmcpogoeoaa
