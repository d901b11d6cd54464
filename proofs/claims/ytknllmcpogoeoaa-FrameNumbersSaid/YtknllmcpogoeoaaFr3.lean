/- The reference of layer 3, walked. -/
import Derived.Test.YtknllmcpogoeoaaFr2
import Derived.Test.YtknllmcpogoeoaaExt
namespace Go.Proofs.Ytknllmcpogoeoaa
open Go.RowKit
set_option linter.unusedVariables false
set_option linter.unusedSimpArgs false
def FramePost (B : Nat) (lb : List UInt8) (w : World) (e : Ending) (w' : World) : Prop :=
  ∃ a c, e = .returned (.slice a (8 + lb.length) c) ∧ Ow w' B a (8 + lb.length) c (frameOf lb) ∧ Ext w w'
theorem rhead_cells (lb : List UInt8) : (#[.int .u8 165, .int .u8 90, .int .u8 (nb (hdr lb) 0), .int .u8 (nb (hdr lb) 1), .int .u8 (((crc (hdr lb ++ lb)).toNat : Int) % 256), .int .u8 (((crc (hdr lb ++ lb)).toNat : Int) / 256 % 256), .int .u8 (((crc (hdr lb ++ lb)).toNat : Int) / 65536 % 256), .int .u8 (((crc (hdr lb ++ lb)).toNat : Int) / 16777216)] : Array Value).toList =
    u8s ([165, 90] ++ hdr lb ++ le32 (crc (hdr lb ++ lb))) := by
  rw [u8s_app, ← le_cells, ← head_cells]
  rfl
set_option maxHeartbeats 800000 in
theorem rframe_any (ab : Option Addr) (n c : Nat) (lb : List UInt8) (w : World) (hb : Bs w ab n lb) (hn : n ≤ 4000) (hnb : ab = none → c = 0) :
    Calls Try.prog 34 #[.slice ab n c] w (FramePost w.heap.size lb w) := by
  have hle : (n : Int) / 256 ≤ 255 := by omega
  have hcr : ((crc (hdr lb ++ lb)).toNat : Int) ≤ 4294967295 := by have := (crc (hdr lb ++ lb)).isLt; omega
  have B1 := Bs.new w #[.int .u8 ((n : Int) % 256), .int .u8 ((n : Int) / 256)] 2 (hdr lb) rfl (hdr_cells n lb hb.leng (by omega))
  have E1 := (Ext.refl w).al (.cells #[.int .u8 ((n : Int) % 256), .int .u8 ((n : Int) / 256)] 5)
  go_enter Try.func34, Try.ntmps34
  go_wp2_with (first
    | (at_builtin; refine wp_app (s := .tmp 16) (x := .tmp 17) (w.heap.size + 1) 2 (hdr lb) rfl rfl (Ow.zero _ _ (by simp) _ (by simp)) (B1.alloc _) (by simp) rfl rfl (by omega) (by simp <;> omega) ?_; intro a1 c1 w1 O1 G1; have B1' := ((B1.alloc _).kept G1 (by intro b off e; simp only [Option.some.injEq, Addr.mk.injEq] at e; simp only [Value.ownBlock, ne_eq, Option.some.injEq]; omega)); have E2 := (E1.al _).app (Ow.zero _ _ (by simp) (w.heap.size + 1) (by simp)) (by omega) G1)
    | (at_builtin; refine wp_app (s := .tmp 18) (x := .tmp 19) (w.heap.size + 1) (2 + n) (hdr lb ++ lb) rfl rfl O1 (E2.bs hb) hnb rfl rfl (by omega) (by have := G1.size; simp at this; omega) ?_; intro a2 c2 w2 O2 G2; have B2 := B1'.keptB O1 G2 (by omega); have E3 := E2.app O1 (by omega) G2)
    | (go_at_call 104; refine (sum_any _ _ _ _ _ O2.bs (by omega)).mono ?_; rintro e w' ⟨rfl, rfl⟩))
  have d0 : w2.cell? ⟨w.heap.size, 0, none⟩ = some (.int .u8 (nb (hdr lb) 0)) := B2.one 0 (by omega)
  have d1 : w2.cell? ⟨w.heap.size, 1, none⟩ = some (.int .u8 (nb (hdr lb) 1)) := B2.one 1 (by omega)
  have hz := E3.sz
  clear O1 G1 G2 B1 B1' E1 E2 O2 B2
  go_region
  have O4 := (Ow.atNew w2 w2.heap.size rfl _ w.heap.size 8 _ rfl (rhead_cells lb) hz (by omega)).drew
  have E4 := (E3.al (.cells #[.int .u8 165, .int .u8 90, .int .u8 (nb (hdr lb) 0), .int .u8 (nb (hdr lb) 1), .int .u8 (((crc (hdr lb ++ lb)).toNat : Int) % 256), .int .u8 (((crc (hdr lb ++ lb)).toNat : Int) / 256 % 256), .int .u8 (((crc (hdr lb ++ lb)).toNat : Int) / 65536 % 256), .int .u8 (((crc (hdr lb ++ lb)).toNat : Int) / 16777216)] 5)).dr
  go_wp2_with (at_builtin; go_loud (refine wp_app (s := .tmp 43) (x := .tmp 44) w.heap.size (8 + n) (frameOf lb) rfl rfl O4 (E4.bs hb) hnb rfl (by simp [frameOf]) (by omega) E4.sz ?_); intro a5 c5 w5 O5 G5; have E5 := E4.app O4 (Nat.le_refl _) G5)
  go_ret
  unfold FramePost
  rw [hb.leng]
  exact ⟨a5, c5, rfl, O5, E5⟩
end Go.Proofs.Ytknllmcpogoeoaa
