/- TransferOwnsUptoSaid: where what it reads is of bulk at most 1048576, the law returns true and everything reads as it did. -/
import Derived.Test.YtknllmcpogoeoaaHd
import Derived.Test.YtknllmcpogoeoaaK2
import Derived.Test.YtknllmcpogoeoaaT28
import Derived.Test.YtknllmcpogoeoaaK7
namespace Go.Proofs.Ytknllmcpogoeoaa.transferOwns
open Go.ChangeShapes Go.WideShapes Go.ChangeAt Go.RowKit
set_option linter.unusedVariables false
set_option maxRecDepth 100000
theorem contract (H : Type) (enc : TypeId × Value → H) (W : World) (base : Nat) (args : Array Value) (ds gs : List (DataW H)) (before : List MemPlace)
    (hval : ∀ (j : Nat) t v, Try.f29.params[j]? = some t → args[j]? = some v → Value.okWide Try.prog W .any base t v)
    (hW : DataW.Whole enc Try.prog Try.f29.params.toList Rows.transferOwnsSpec.vars false W args.toList ds gs before) (hk : Rows.uptoSmall H (ds ++ gs) = true) :
    Calls Try.prog 29 args W fun e W' => ∃ v, e = .returned v ∧ Rows.transferOwnsSpec.post enc Try.prog Try.f29 false true false false W args v W' := by
  have hW' := hW
  obtain ⟨p, q, hA0, hV, rfl, hfz, hnd⟩ := hW
  have hA : DataW.TrodAll enc Try.prog W 0 (fun _ => true) true Try.f29.params.toList args.toList ds p := hA0
  rw [Try.params29] at hA hval
  obtain ⟨v0, vs0, d0, ds0, p0, q0, hargs0, rfl, rfl, h0, r0⟩ := trodAll_cons hA
  obtain ⟨rfl, rfl, rfl⟩ := trodAll_nil r0
  obtain rfl : args = #[v0] := by cases args; simp_all
  obtain ⟨rfl, rfl⟩ := trodVars_none hV
  have hb : Rows.uptoBulkAll ([d0] ++ []) ≤ 1048576 := of_decide_eq_true hk
  simp only [List.append_nil, Rows.uptoBulkAll] at hb
  clear hA0 hA hV
  obtain ⟨a0, n0, c0, l0, x0, rfl, b0, e0, z0, k0, y0⟩ := open_file (hval 0 148 v0 rfl rfl) h0
  refine (transferOwns_any a0 n0 c0 l0 x0 W b0 z0 (by omega) y0).mono fun e W' ⟨he, hE⟩ => ?_
  subst he
  exact ⟨_, rfl, post_ext rfl (by kernel_rfl) (fun t ht => by rw [Try.params29] at ht; simp at ht; subst ht; exact ⟨by kernel_rfl, of_decide_eq_true (by kernel_rfl)⟩) hW' rfl hE⟩
theorem lifted (os : Os) (started : os.Started) (H : Type) (enc : TypeId × Value → H) (F : Stop.Interp) :
    ReturnsInHanded {} Try.checked os 29 .any ((Rows.OpenSpec.upto Rows.transferOwnsSpec).pre6 enc Try.prog Try.f29 Rows.transferOwnsUptoRow.domain false) (((Rows.OpenSpec.upto Rows.transferOwnsSpec).at F).post enc Try.prog Try.f29 false true false false) := by
  refine returnsInHanded_of_cond (C := Try.checked) (s := Rows.OpenSpec.upto Rows.transferOwnsSpec) (k := Rows.uptoSmall) rfl own started (by kernel_rfl) Try.func29
    (OpenSpec.witness (enc := enc) (C := Try.checked) (s := Rows.OpenSpec.upto Rows.transferOwnsSpec) (k := Rows.uptoSmall) rfl false ⟨#[], #[.agg #[.slice none 0 0, .int .u8 0]], []⟩ 8 (by kernel_rfl) (by kernel_rfl) (by kernel_rfl)
      (x := ([.agg [.nil, .lit (.int .u8 0)]], [], [])) (by kernel_rfl) rfl (by kernel_rfl)) ?_
  intro W base args ds gs before hval hW _ hk _
  exact contract H enc W base args ds gs before hval hW hk
theorem closed : joinedFacts Try.prog 29 Try.f29 (Rows.OpenSpec.upto Rows.transferOwnsSpec).bare Rows.transferOwnsUptoRow = true := by
  unfold joinedFacts
  rw [headEnter, headLifted, headMake]
  kernel_rfl
theorem proved : Rows.TransferOwnsUptoSaid :=
  OpenClaim.holds_of_cond 29 Try.f29 rfl rfl rfl rfl rfl rfl rfl ⟨rfl, rfl, rfl, rfl, rfl⟩ rfl rfl rfl rfl rfl (by kernel_rfl) Try.func29 closed
    (of_decide_eq_true (by kernel_rfl)) (by unfold Func.isWrapper; first | (rw [if_pos (by decide +kernel)]; kernel_rfl) | (rw [if_neg (by decide +kernel)]; exact ⟨rfl, rfl⟩))
    (fun os started H enc _ F => lifted os started H enc F)
end Go.Proofs.Ytknllmcpogoeoaa.transferOwns
