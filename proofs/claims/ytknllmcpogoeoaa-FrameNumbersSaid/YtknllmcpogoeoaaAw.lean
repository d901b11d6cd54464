/- law03's example, walked. -/
import Derived.Test.YtknllmcpogoeoaaL3a
import Derived.Test.YtknllmcpogoeoaaFp
import Derived.Test.YtknllmcpogoeoaaFr2
import Derived.Lib.SlBytesConst
namespace Go.Proofs.Ytknllmcpogoeoaa
open Go.RowKit
set_option linter.unusedVariables false
set_option linter.unusedSimpArgs false
theorem Bs.mark (w : World) (g : Nat) (hg : g = w.heap.size) (cs : Array Value) (fr : Nat × Nat) (n : Nat) (l : List UInt8) (hl : l.length = n) (h : cs.toList = u8s l) : Bs (w.alloc (.cells cs 5 fr)) (some ⟨g, 0, none⟩) n l := by
  subst hg
  refine ⟨hl, fun k hk => ⟨w.heap.size, 0, rfl, ?_⟩⟩
  rw [World.cell?_alloc_mark, ← Array.getElem?_toList, h, Nat.zero_add]
  exact u8s_get l k (by omega)
set_option maxHeartbeats 1600000 in
set_option maxRecDepth 100000 in
theorem awake3_any (w : World) : Calls Try.prog 32 #[] w (fun e w' => e = .returned (.bool true) ∧ Ext w w') := by
  have kc : ∀ (W : World) (o : Obj) (C : Array Value) (n c : Nat), (convert 22 22 (.slice (some ⟨W.heap.size + 1, 0, none⟩) n c)).run Try.prog ((W.alloc o).alloc (.cells C 5)) = .ok (.slice (some ⟨W.heap.size + 1, 0, none⟩) n c) ((W.alloc o).alloc (.cells C 5 (C.size, C.size + 1))) := fun W o C n c => by
    have := Lib.run_convert_bytes_const (P := Try.prog) (W.alloc o) 22 5 C n c Try.underlying22 Try.underlying5
    rw [World.size_alloc] at this
    exact this
  go_enter Try.func32, Try.ntmps32
  go_wp2_with (first | (go_at_call 38; (refine (bodies_any _ _ _ _ _ O2.bs (by omega) O2.cap.2).mono ?_); rintro e w3 ⟨a3, c3, rows, rfl, V3, hr3, E3⟩; rw [show [0] ++ frameOf [97] = 0 :: frameOf [97] from rfl, awake_file.1] at hr3; rw [show [0] ++ frameOf [97] = 0 :: frameOf [97] from rfl, awake_file.2]; have L3 := V3.ls (fun r hr => by have := List.mem_map_of_mem (f := (·.2)) hr; rw [hr3] at this; rw [List.mem_singleton.1 this]; decide); rw [hr3] at L3; have hrl : rows.length = 1 := L3.leng.symm; rw [hrl] at L3 ⊢; obtain ⟨b3, o3, a4, n4, c4, rfl, hc4, hb4, hx4⟩ := L3.at 0 (by omega); rw [Nat.add_zero] at hc4; have hv4 := conv_bs (cap := c4) hb4) | (go_at_call 33; (refine (append_any (some ⟨w1.heap.size, 0, none⟩) (some ⟨w1.heap.size + 1, 0, none⟩) 1 1 1 1 [0] [97] _ (HB1.alloc _) HB2 (by omega) (by omega) (fun h => by cases h) (fun h => by cases h)).mono ?_); intro e w2 hp; unfold AppendPost at hp; rw [if_neg (by simp)] at hp; obtain ⟨a2, n2, c2, rfl, O2, hn2, E2⟩ := hp; simp only [List.length_cons, List.length_nil, Nat.reduceAdd] at hn2; subst hn2; have E02 : Ext w w2 := Ext.tr E01 E2) | (go_at_call 33; refine (append_any none none 0 0 0 0 [] [] w (Bs.nil _ _) (Bs.nil _ _) (by omega) (by omega) (fun _ => rfl) (fun _ => rfl)).mono ?_; intro e w1 hp; unfold AppendPost at hp; rw [if_neg (by simp)] at hp; obtain ⟨a1, n1, c1, rfl, O1, hn1, E1⟩ := hp; simp only [List.length_nil, Nat.add_zero, Nat.zero_add] at hn1; subst hn1; obtain ⟨b1, o1, rfl, hc1⟩ := O1.bs.at (by omega); have d0 := hc1 0 (by omega); have d1 := hc1 1 (by omega); have d2 := hc1 2 (by omega); have d3 := hc1 3 (by omega); clear hc1; rw [show nb ([] ++ frameOf []) 0 = 165 from rfl] at d0; rw [show nb ([] ++ frameOf []) 1 = 90 from rfl] at d1; rw [show nb ([] ++ frameOf []) 2 = 0 from rfl] at d2; rw [show nb ([] ++ frameOf []) 3 = 0 from rfl] at d3; rw [Nat.add_zero] at d0; have HB1 := Bs.new w1 #[.int .u8 0] 1 [0] rfl rfl; have HB2 := Bs.mark (w1.alloc (.cells #[.int .u8 0] 5)) (w1.heap.size + 1) (by simp) #[.int .u8 97] (1, 2) 1 [97] rfl rfl; have E01 : Ext w ((w1.alloc (.cells #[.int .u8 0] 5)).alloc (.cells #[.int .u8 97] 5 (1, 2))) := Ext.al (Ext.al E1 _) _))
  go_ret
  exact ⟨rfl, Ext.tr E02 E3⟩
end Go.Proofs.Ytknllmcpogoeoaa
