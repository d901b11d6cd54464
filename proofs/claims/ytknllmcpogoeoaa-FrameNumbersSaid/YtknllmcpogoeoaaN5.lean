/- law01's example, walked. -/
import Derived.Test.YtknllmcpogoeoaaN4
namespace Go.Proofs.Ytknllmcpogoeoaa
open Go.RowKit
set_option linter.unusedVariables false
set_option linter.unusedSimpArgs false
theorem ex_put : [] ++ putU 300 = [172, 2] := rfl
theorem ex_uint : uVal [172, 2] = 300 ∧ uLen [172, 2] = 2 ∧ uErr [172, 2] = 0 := ⟨rfl, rfl, rfl⟩
theorem ex_zz : zz (-3) = 5 := rfl
theorem ex_int : rsInt [5, 128] 0 = ⟨-3, [128], 0⟩ := rfl
theorem ex_byte : rsByte [128] 0 = ⟨128, [], 0⟩ := rfl
theorem ex_end : rsEnd [] 0 = 0 := rfl
set_option maxRecDepth 100000 in
set_option maxHeartbeats 1600000 in
theorem awake1_any (w : World) : Calls Try.prog 44 #[] w (fun e w' => e = .returned (.bool true) ∧ Ext w w') := by
  have B1 := Bs.new w #[.int .u8 172, .int .u8 2] 2 [172, 2] rfl rfl
  have E1 := (Ext.refl w).al (.cells #[.int .u8 172, .int .u8 2] 5)
  have B2 := Bs.atNew (w.alloc (.cells #[.int .u8 172, .int .u8 2] 5)) (w.heap.size + 1) (by simp) #[.int .u8 5, .int .u8 128] 2 [5, 128] rfl rfl
  have E2 := E1.al (.cells #[.int .u8 5, .int .u8 128] 5)
  go_enter Try.func44, Try.ntmps44
  go_wp2_with (first
    | (go_at_call 48; refine (uint_any (some ⟨w.heap.size, 0, none⟩) 2 2 [172, 2] _ B1 (by omega)).mono ?_; rintro e w1 ⟨rfl, rfl⟩; rw [ex_uint.1, ex_uint.2.1, ex_uint.2.2])
    | (go_at_call 77; refine (newReader_any (some ⟨w.heap.size + 1, 0, none⟩) 2 2 [5, 128] _ B2 (fun h => by cases h) (by omega)).mono ?_; rintro e w2 ⟨g, q, rfl, R2, hg, hq, E3⟩; have E02 := E2.tr E3; have hsz : w.heap.size + 2 ≤ g := (by simpa using hg); have hsq : w.heap.size + 2 ≤ q := (by simpa using hq))
    | (go_at_call 46; refine (putUint_any none 0 0 [] 300 _ (Bs.nil _ _) (fun _ => rfl) (by omega) (by omega)).mono ?_; rintro e w3 ⟨a3, c3, rfl, O3, E4⟩; rw [ex_put] at O3 ⊢; simp only [List.length_cons, List.length_nil, Nat.zero_add, Nat.reduceAdd] at O3 ⊢; have R3 := R2.ext E4; have E03 := E02.tr E4)
    | (go_at_call 45; refine (same1_any a3 2 c3 (some ⟨w3.heap.size, 0, none⟩) 2 2 [172, 2] [172, 2] _ (O3.bs.alloc _) (Bs.new w3 _ 2 _ rfl rfl) (by omega)).mono ?_; rintro e w4 ⟨rfl, E5⟩; rw [decide_eq_true rfl]; have E34 := ((Ext.refl w3).al (.cells #[.int .u8 172, .int .u8 2] 5)).tr E5; have R4 := R3.ext E34; have E04 := E03.tr E34)
    | (go_at_call 59; refine (zigzag_any (-3) w4 (by omega) (by omega)).mono ?_; rintro e w5 ⟨rfl, rfl⟩; rw [ex_zz])
    | (go_at_call 81; refine (rInt_any g q [5, 128] 0 w4 R4).mono ?_; rw [ex_int]; rintro e w6 ⟨rfl, R6, F6⟩; have E06 := F6.ext E04 (fun x hx => by simp only [List.mem_singleton] at hx; omega))
    | (go_at_call 84; refine (rByte_any g q [128] 0 w6 R6).mono ?_; rw [ex_byte]; rintro e w7 ⟨rfl, R7, F7⟩; have E07 := F7.ext E06 (fun x hx => by simp only [List.mem_singleton] at hx; omega))
    | (go_at_call 82; refine (rEnd_any g q [] 0 w7 R7).mono ?_; rw [ex_end]; rintro e w8 ⟨rfl, rfl⟩))
  go_ret
  exact ⟨rfl, E07⟩
end Go.Proofs.Ytknllmcpogoeoaa
