/- DigestSums, walked. -/
import Derived.Test.YtknllmcpogoeoaaDoorD9
namespace Go.Proofs.YtknllmcpogoeoaaDoor
open Go.RowKit
set_option linter.unusedVariables false
set_option linter.unusedSimpArgs false
set_option maxRecDepth 100000
theorem bs_short {w : World} {ad : Option Addr} {m : Nat} {p : List UInt8} (h : Bs w ad m p) : ∃ p2, Bs w ad (min m 300) p2 ∧ p2 = p.take (min m 300) :=
  ⟨_, ⟨by rw [List.length_take, h.leng]; omega, fun k hk => by
    obtain ⟨b, off, e, hc⟩ := h.cell k (by omega)
    refine ⟨b, off, e, ?_⟩
    rw [hc]
    simp [nb, List.getElem?_take, hk]⟩, rfl⟩
theorem digestSums_any (ad : Option Addr) (m c : Nat) (p : List UInt8) (W : World) (hp : Bs W ad m p) (hc : m ≤ c) (hn : ad = none → c = 0) (K0 : Kc W) (h0 : 0 < W.heap.size) :
    Calls Tryd.prog 3 #[.slice ad m c] W fun e w' => e = .returned (.bool true) ∧ Ext W w' := by
  refine calls_has (args := [.slice ad m c]) Tryd.func3 rfl Tryd.ntmps3 (Nat.le_of_ble_eq_true rfl) (fun a H => ?_)
  simp only [argl, Nat.reduceAdd] at H
  refine wp_seq_k (fun K1 hK1 => ?_)
  refine e_region (fun R hR => ?_)
  refine e_op H rfl rfl (by decide) (x_assign H rfl rfl) ?_
  clear H a; intro a H
  refine e_nil (hR.out _ _ ?_)
  clear hR R
  refine hK1 _ _ ?_
  clear hK1 K1
  refine wp_seq_k (fun K2 hK2 => ?_)
  refine wp_seq_k (fun K3 hK3 => ?_)
  refine e_region (fun R hR => ?_)
  refine e_callq H rfl rfl (by decide) rfl rfl (Tryd.call14 _) (awake_any W K0 h0) ?_
  clear H a
  rintro e w1 ⟨rfl, E1⟩
  refine ⟨_, rfl, fun a H => ?_⟩
  have K1 := K0.ext E1
  have hs1 := E1.sz
  refine e_op H rfl rfl (by decide) (x_un H rfl rfl (u_not (c := false) (rfl))) ?_
  clear H a; intro a H
  refine e_nil (hR.out _ _ ?_)
  clear hR R
  refine hK3 _ _ ?_
  clear hK3 K3
  refine c_false H rfl ?_
  refine wp_skip ?_
  refine hK2 _ _ ?_
  clear hK2 K2
  refine wp_seq_k (fun K4 hK4 => ?_)
  refine e_region (fun R hR => ?_)
  refine e_op H rfl rfl (by decide) (x_move H rfl rfl) ?_
  clear H a; intro a H
  refine e_callp H rfl rfl (by decide) rfl rfl (Tryd.call15 _) (short_any ad m c _ hc) ?_
  clear H a; intro a H
  refine e_op H rfl rfl (by decide) (x_assign H rfl rfl) ?_
  clear H a; intro a H
  refine e_nil (hR.out _ _ ?_)
  clear hR R
  refine hK4 _ _ ?_
  clear hK4 K4
  refine wp_seq_k (fun K5 hK5 => ?_)
  refine e_region (fun R hR => ?_)
  obtain ⟨p2, hp2, hm2⟩ := bs_short (E1.bs hp)
  refine e_op H rfl rfl (by decide) (x_move H rfl rfl) ?_
  clear H a; intro a H
  refine e_callq H rfl rfl (by decide) rfl rfl (Tryd.call16 _) (dsum_any ad (min m 300) c p2 w1 hp2 (by omega) hn K1 (by omega) (by omega)) ?_
  clear H a
  rintro e w2 ⟨rfl, E2⟩
  refine ⟨_, rfl, fun a H => ?_⟩
  refine e_op H rfl rfl (by decide) (x_move H rfl rfl) ?_
  clear H a; intro a H
  refine e_callq H rfl rfl (by decide) rfl rfl (Tryd.call17 _) (refsum_any ad (min m 300) c p2 w2 (E2.bs hp2) hn (by omega)) ?_
  clear H a
  rintro e w3 ⟨rfl, E3⟩
  refine ⟨_, rfl, fun a H => ?_⟩
  refine e_op H rfl rfl (by decide) (x_bin H rfl rfl rfl eqg26 (eql26 (c := true) (sha_len _) (sha_len _) (by simp))) ?_
  clear H a; intro a H
  refine e_op H rfl rfl (by decide) (x_assign H rfl rfl) ?_
  clear H a; intro a H
  refine e_nil (hR.out _ _ ?_)
  clear hR R
  refine hK5 _ _ ?_
  clear hK5 K5
  refine wp_ret ?_
  exact ret1 H rfl rfl ⟨rfl, (E1.tr E2).tr E3⟩
end Go.Proofs.YtknllmcpogoeoaaDoor
