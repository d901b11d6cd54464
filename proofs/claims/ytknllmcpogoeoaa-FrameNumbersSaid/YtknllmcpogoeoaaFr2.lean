/- frame.Append, walked. -/
import Derived.Test.YtknllmcpogoeoaaFr1
namespace Go.Proofs.Ytknllmcpogoeoaa
open Go.RowKit
set_option linter.unusedVariables false
set_option linter.unusedSimpArgs false
theorem hdr_cells (lb : Nat) (l : List UInt8) (h : l.length = lb) (hs : lb ≤ 4000) : (#[.int .u8 ((lb : Int) % 256), .int .u8 ((lb : Int) / 256)] : Array Value).toList = u8s (hdr l) := by
  simp only [u8s, hdr, List.map_cons, List.map_nil, h]
  rw [u8_ofNat _ (by omega), u8_ofNat _ (by omega)]
  simp
theorem head_cells (lb : List UInt8) : (#[.int .u8 165, .int .u8 90, .int .u8 (nb (hdr lb) 0), .int .u8 (nb (hdr lb) 1)] : Array Value).toList = u8s ([165, 90] ++ hdr lb) := by
  simp [u8s, hdr, nb]
theorem le_cells (x : BitVec 32) : (#[.int .u8 ((x.toNat : Int) % 256), .int .u8 ((x.toNat : Int) / 256 % 256), .int .u8 ((x.toNat : Int) / 65536 % 256), .int .u8 ((x.toNat : Int) / 16777216)] : Array Value).toList = u8s (le32 x) := by
  have := x.isLt
  simp only [u8s, le32, List.map_cons, List.map_nil]
  rw [u8_ofNat _ (by omega), u8_ofNat _ (by omega), u8_ofNat _ (by omega), u8_ofNat _ (by omega)]
  simp
def AppendPost (B : Nat) (lp lb : List UInt8) (w : World) (e : Ending) (w' : World) : Prop :=
  if 4000 < lb.length then e = .returned (.tuple #[.slice none 0 0, .int .i64 3]) ∧ w' = w
  else ∃ a n c, e = .returned (.tuple #[.slice a n c, .int .i64 0]) ∧ Ow w' B a n c (lp ++ frameOf lb) ∧ n = lp.length + (8 + lb.length) ∧ Below B w w'
set_option maxHeartbeats 800000 in
theorem append_any (ap ab : Option Addr) (np cp nb' cb : Nat) (lp lb : List UInt8) (w : World) (hp : Bs w ap np lp) (hb : Bs w ab nb' lb) (hmp : np ≤ 140737488351232) (hmb : nb' ≤ 140737488351232)
    (hnp : ap = none → cp = 0) (hnb : ab = none → cb = 0) :
    Calls Try.prog 33 #[.slice ap np cp, .slice ab nb' cb] w (AppendPost w.heap.size lp lb w) := by
  by_cases h4 : 4000 < nb'
  · go_enter Try.func33, Try.ntmps33
    go_wp2_with fail
    go_ret2
    unfold AppendPost
    rw [hb.leng, if_pos h4]
    exact ⟨rfl, rfl⟩
  · have hle : (nb' : Int) / 256 ≤ 255 := by omega
    have hd4 : ¬ ((4000 : Int) < (nb' : Int)) := by omega
    have hcr : ((crc (hdr lb ++ lb)).toNat : Int) ≤ 4294967295 := by have := (crc (hdr lb ++ lb)).isLt; omega
    go_enter Try.func33, Try.ntmps33
    go_wp2_with fail
    have B1 := Bs.new w #[.int .u8 ((nb' : Int) % 256), .int .u8 ((nb' : Int) / 256)] 2 (hdr lb) rfl (hdr_cells nb' lb hb.leng (by omega))
    have hb1 := hb.alloc (.cells #[.int .u8 ((nb' : Int) % 256), .int .u8 ((nb' : Int) / 256)] 5)
    have hp1 := hp.alloc (.cells #[.int .u8 ((nb' : Int) % 256), .int .u8 ((nb' : Int) / 256)] 5)
    have hW1 := (Below.refl w.heap.size w).alloc (Nat.le_refl _) (.cells #[.int .u8 ((nb' : Int) % 256), .int .u8 ((nb' : Int) / 256)] 5)
    have hz1 : w.heap.size + 1 ≤ (w.alloc (.cells #[.int .u8 ((nb' : Int) % 256), .int .u8 ((nb' : Int) / 256)] 5)).heap.size := by simp
    generalize w.alloc (.cells #[.int .u8 ((nb' : Int) % 256), .int .u8 ((nb' : Int) / 256)] 5) = w1 at *
    refine (checksum_any _ _ _ _ _ _ _ _ _ B1 hb1 (by omega) (by omega)).mono ?_
    rintro e w' ⟨rfl, rfl⟩
    go_wp2_with (at_make; refine wp_make (w.heap.size + 1) (np + 8 + nb') rfl rfl (by omega) (by omega) (by omega) ?_; intro w2 hO hG)
    go_outline
    have B2 := B1.kept hG (by simp)
    have c0 : w2.cell? ⟨w.heap.size, 0, none⟩ = some (.int .u8 (nb (hdr lb) 0)) := by
      obtain ⟨b, off, e, h⟩ := B2.cell 0 (by omega)
      simp at e; rw [← e.1, ← e.2] at h; exact h
    have c1 : w2.cell? ⟨w.heap.size, 1, none⟩ = some (.int .u8 (nb (hdr lb) 1)) := by
      obtain ⟨b, off, e, h⟩ := B2.cell 1 (by omega)
      simp at e; rw [← e.1, ← e.2] at h; exact h
    have hb2 := hb1.kept hG (by simp)
    have hp2 := hp1.kept hG (by simp)
    have hW2 := hW1.grown hG (by omega) (by simp)
    have bx := Bs.new w2 _ 4 _ rfl (head_cells lb)
    have ho2 := hO.kept (World.grownBy_alloc w2 (.cells #[.int .u8 165, .int .u8 90, .int .u8 (nb (hdr lb) 0), .int .u8 (nb (hdr lb) 1)] 5) none) (fun _ _ _ => by simp)
    have hp3 := hp2.alloc (.cells #[.int .u8 165, .int .u8 90, .int .u8 (nb (hdr lb) 0), .int .u8 (nb (hdr lb) 1)] 5)
    have hs1 := hG.size
    have q3 : ∀ b off, (some ⟨w2.heap.size, 0, none⟩ : Option Addr) = some ⟨b, off, none⟩ → some b ≠ (Value.slice (some ⟨w1.heap.size, 0, none⟩) 0 (np + 8 + nb')).ownBlock := by
      intro b off e
      simp only [Option.some.injEq, Addr.mk.injEq] at e
      simp only [Value.ownBlock, ne_eq, Option.some.injEq]
      have := (World.ownsRow.lt hO w1.heap.size rfl).2
      omega
    have Q3 := Lib.hid q3
    clear q3
    go_region_held3 (fun w' => w'.cell? ⟨w.heap.size, 0, none⟩ = some (.int .u8 (nb (hdr lb) 0)) ∧ w'.cell? ⟨w.heap.size, 1, none⟩ = some (.int .u8 (nb (hdr lb) 1)))
      (first
        | go_keep
        | exact two_kept (by assumption) hG4 (fun k hk => (World.ownsRow.lt hO3 k hk).1)
        | exact two_kept (by assumption) hG3 (fun k hk => (World.ownsRow.lt hO k hk).1))
      (first
        | (refine step_app (by rfl) (.tmp 30) (.tmp 31) (by rfl) (w.heap.size + 1) np lp (by rfl) (by rfl) hO.drew hp2.drew hnp (by omega) (by simp) (by omega) (by show _ ≤ w2.heap.size; omega) ?_; intro a3 n3 w3 hO3 hG3; have hW3 := hO.drew.below hW2.drew hG3 (by omega) (by show _ ≤ w2.heap.size; omega))
        | (refine step_app (by rfl) (.tmp 30) (.tmp 31) (by rfl) (w.heap.size + 1) np lp (by rfl) (by rfl) ho2.drew hp3.drew hnp (by omega) (by simp) (by omega) (by simp; omega) ?_; intro a3 n3 w3 hO3 hG3; have bx3 := bx.drew.kept hG3 Q3.out; have hW3 := ho2.drew.below (hW2.alloc (by omega) _).drew hG3 (by omega) (by simp; omega))
        | (refine step_app (by rfl) (.tmp 32) (.tmp 39) (by rfl) (w.heap.size + 1) (a := a3) (n := np) (c := n3) (l := lp) (ax := some ⟨w3.heap.size, 0, none⟩) (m := 4) (cx := 4) (r := [165, 90] ++ hdr lb) (np + 4) (lp ++ ([165, 90] ++ hdr lb)) (by rfl) (by rfl) (by exact hO3.kept (World.grownBy_alloc _ _ none) (fun _ _ _ => by simp)) (by exact Bs.new _ _ 4 _ rfl (head_cells lb)) (by simp) rfl rfl (by omega) (by have := hG3.size; simp at *; omega) ?_; intro a4 n4 w4 hO4 hG4; have hz4 := hG4.size; have hz3 := hG3.size; have hW4 := (hO3.kept (World.grownBy_alloc _ _ none) (fun _ _ _ => by simp)).below (hW3.alloc (by simp at hz3; omega) _) hG4 (by omega) (by simp at hz3 ⊢; omega))
        | (go_loud (refine step_app (by rfl) (.tmp 32) (.tmp 39) (by rfl) (w.heap.size + 1) (np + 4) (lp ++ ([165, 90] ++ hdr lb)) (by rfl) (by rfl) hO3 bx3 (by simp) rfl rfl (by omega) (by have := hG3.size; simp at *; omega) ?_); intro a4 n4 w4 hO4 hG4; have hz4 := hG4.size; have hz3 := hG3.size; have hW4 := hO3.below hW3 hG4 (by omega) (by simp at hz3; omega)))
    all_goals
      have hb4 := hb.below hW4 (Nat.le_refl _)
      have hs4 : w.heap.size + 1 ≤ w4.heap.size := by simp at hz3 hz4; omega
      clear hO hO3 hG hG3 hG4 hz3 hz4 hW3 bx ho2 hp3 hb1 hp1 hW1 B1 B2 hb2 hp2 hW2 c0 c1 Q3
      go_wp2_with (first
        | (at_builtin; refine wp_app (s := .tmp 41) (x := .tmp 53) (w.heap.size + 1) (np + 8) (lp ++ ([165, 90] ++ hdr lb) ++ le32 (crc (hdr lb ++ lb))) rfl rfl (hO4.kept (World.grownBy_alloc _ _ none) (fun _ _ _ => by simp)) (Bs.new _ _ 4 _ rfl (le_cells _)) (by simp) (by omega) rfl (by omega) (by simp; omega) ?_; intro a5 n5 w5 hO5 hG5; have hz5 := hG5.size; have hW5 := (hO4.kept (World.grownBy_alloc _ _ none) (fun _ _ _ => by simp)).below (hW4.alloc (by omega) _) hG5 (by omega) (by simp; omega))
        | (at_builtin; refine wp_app (s := .tmp 55) (x := .tmp 56) (w.heap.size + 1) (np + 8 + nb') (lp ++ frameOf lb) rfl rfl hO5 (hb.below hW5 (Nat.le_refl _)) hnb rfl (by simp [frameOf]) (by omega) (by simp at hz5; omega) ?_; intro a6 n6 w6 hO6 hG6; have hW6 := hO5.below hW5 hG6 (by omega) (by simp at hz5; omega)))
      go_ret2
      unfold AppendPost
      rw [hb.leng, if_neg h4]
      exact ⟨a6, _, n6, rfl, hO6.mono (by omega), by rw [hp.leng]; omega, hW6⟩
end Go.Proofs.Ytknllmcpogoeoaa
