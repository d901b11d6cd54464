/- FrameAppends, walked. -/
import Derived.Test.YtknllmcpogoeoaaAw
import Derived.Test.YtknllmcpogoeoaaFr3
import Derived.Deep.RegionWith
namespace Go.Proofs.Ytknllmcpogoeoaa
open Go.RowKit
set_option linter.unusedVariables false
set_option linter.unusedSimpArgs false
theorem str_app (l r : List UInt8) : ((⟨l.toArray⟩ : ByteArray) ++ ⟨r.toArray⟩) = ⟨(l ++ r).toArray⟩ := by
  apply ByteArray.ext
  simp [ByteArray.data_append]
set_option maxRecDepth 100000 in
set_option maxHeartbeats 1600000 in
theorem appends_any (a1 a2 : Option Addr) (n1 c1 n2 c2 : Nat) (l1 l2 : List UInt8) (w : World) (h1 : Bs w a1 n1 l1) (h2 : Bs w a2 n2 l2) (hn1 : n1 ≤ 140737488351232) (hn2 : n2 ≤ 140737488351232) (hz1 : a1 = none → c1 = 0) (hz2 : a2 = none → c2 = 0) :
    Calls Try.prog 3 #[.slice a1 n1 c1, .slice a2 n2 c2] w (fun e w' => e = .returned (.bool true) ∧ Ext w w') := by
  have hl1 := h1.leng
  have hl2 := h2.leng
  subst hl1 hl2
  go_enter Try.func3, Try.ntmps3
  go_wp2_with (go_at_call 32; refine (awake3_any w).mono ?_; rintro e w1 ⟨rfl, E1⟩; have h1' := E1.bs h1; have h2' := E1.bs h2; have hv1 := fun nq => conv_bs (cap := c1) (h1'.drewN nq); have hv2 := fun nq => conv_bs (cap := c2) (h2'.drewN nq))
  go_quiet (fail)
  by_cases h4 : 4000 < l2.length
  · have h4i : decide ((4000 : Int) < (l2.length : Int)) = true := by simp; omega
    go_wp2_with (go_at_call 33; refine (append_any a1 a2 l1.length c1 l2.length c2 l1 l2 _ (h1'.drewN _) (h2'.drewN _) hn1 hn2 hz1 hz2).mono ?_; intro e w2 hp; unfold AppendPost at hp; rw [if_pos h4] at hp; obtain ⟨rfl, rfl⟩ := hp)
    go_ret
    exact ⟨rfl, E1.drN _⟩
  · have h4i : decide ((4000 : Int) < (l2.length : Int)) = false := by simp; omega
    go_wp2_with (go_at_call 33; refine (append_any a1 a2 l1.length c1 l2.length c2 l1 l2 _ (h1'.drewN _) (h2'.drewN _) hn1 hn2 hz1 hz2).mono ?_; intro e w2 hp; unfold AppendPost at hp; rw [if_neg h4] at hp; obtain ⟨a3, n3, c3, rfl, O3, hn3, E3⟩ := hp; have hv3 := conv_bs (cap := c1) (Ext.bs E3 (h1'.drewN _)); have hv4 := conv_bs (cap := c2) (Ext.bs E3 (h2'.drewN _)))
    have E13 : Ext w w2 := Ext.tr (E1.drN _) E3
    have hv5 := conv_bs (cap := c3) O3.bs.drew
    have h2'' := (Ext.bs E3 (h2'.drewN nq)).drew
    rw [hn3] at hv5
    have E4 := E13.dr
    clear hv1 hv2 hv3 hv4 h1' h2' E1 E3 E13
    have hsz : l1.length + (frameOf l2).length ≤ 9223372036854775807 := by rw [frameOf_len]; omega
    have hap := ByteArray.mk_append_mk
    go_region_with (first
      | (go_at_call 34; refine (rframe_any a2 l2.length c2 l2 _ h2'' (by omega) hz2).mono ?_; rintro e w4 ⟨a4, c4, rfl, O4, E5⟩; have hv6 := conv_bs (cap := c4) O4.bs; have hv7 := conv_bs (cap := c3) (Ext.bs E5 O3.bs.drew); have E6 := E4.tr E5; rw [hn3] at hv7))
    all_goals
      go_wp2
      go_ret
      exact ⟨rfl, E6⟩
end Go.Proofs.Ytknllmcpogoeoaa
