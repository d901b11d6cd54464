/- TransferOwnsSaid: for every input the law returns true and everything reads as it did. No bound of ours on what it reads. -/
import Derived.Test.YtknllmcpogoeoaaHd
import Derived.Test.YtknllmcpogoeoaaK2
import Derived.Test.YtknllmcpogoeoaaT28
import Derived.Test.YtknllmcpogoeoaaK7
import Derived.Test.YtknllmcpogoeoaaSz
import Derived.SizedLaws
import Derived.JoinedOf
namespace Go.Proofs.Ytknllmcpogoeoaa.transferOwnsFull
open Go.ChangeShapes Go.WideShapes Go.ChangeAt Go.RowKit
set_option linter.unusedVariables false
set_option maxRecDepth 100000
theorem contract (H : Type) (enc : TypeId × Value → H) (W : World) (base : Nat) (args : Array Value) (ds gs : List (DataW H)) (before : List MemPlace)
    (hval : ∀ (j : Nat) t v, Try.f29.params[j]? = some t → args[j]? = some v → Value.okWide Try.prog W .any base t v)
    (hW : DataW.Whole enc Try.prog Try.f29.params.toList Rows.transferOwnsSpec.vars false W args.toList ds gs before) (hz : (DataW.weightsEach Try.prog (Try.f29.params.toList ++ Rows.transferOwnsSpec.plain.varTypes Try.prog) (ds ++ gs)).all (· ≤ reachBytes) = true) :
    Calls Try.prog 29 args W fun e W' => ∃ v, e = .returned v ∧ Rows.transferOwnsSpec.post enc Try.prog Try.f29 false true false false W args v W' := by
  have hW' := hW
  obtain ⟨p, q, hA0, hV, rfl, hfz, hnd⟩ := hW
  have hA : DataW.TrodAll enc Try.prog W 0 (fun _ => true) true Try.f29.params.toList args.toList ds p := hA0
  rw [Try.params29] at hA hval
  obtain ⟨v0, vs0, d0, ds0, p0, q0, hargs0, rfl, rfl, h0, r0⟩ := trodAll_cons hA
  obtain ⟨rfl, rfl, rfl⟩ := trodAll_nil r0
  obtain rfl : args = #[v0] := by cases args; simp_all
  obtain ⟨rfl, rfl⟩ := trodVars_none hV
  rw [Try.params29] at hz
  clear hA0 hA hV
  obtain ⟨a0, n0, c0, l0, x0, rfl, b0, e0, z0, k0, y0⟩ := open_file (hval 0 148 v0 rfl rfl) h0
  have hl0 := len_file (hval 0 _ _ rfl rfl) h0 (weigh hz 0 rfl rfl)
  clear hz
  refine (transferOwns_any a0 n0 c0 l0 x0 W b0 z0 (by omega) y0).mono fun e W' ⟨he, hE⟩ => ?_
  subst he
  exact ⟨_, rfl, post_ext rfl (by kernel_rfl) (fun t ht => by rw [Try.params29] at ht; simp at ht; subst ht; exact ⟨by kernel_rfl, of_decide_eq_true (by kernel_rfl)⟩) hW' rfl hE⟩
theorem lifted (os : Os) (started : os.Started) (H : Type) (enc : TypeId × Value → H) :
    ReturnsInHanded {} Try.checked os 29 .any (Rows.transferOwnsSpec.pre6 enc Try.prog Try.f29 Rows.transferOwnsRow.domain false) (Rows.transferOwnsSpec.post enc Try.prog Try.f29 false true false false) := by
  refine returnsInHanded_of_change_sized (C := Try.checked) own started (by kernel_rfl) Try.func29
    (ChangeSpec.witness6 (enc := enc) (C := Try.checked) false ⟨#[], #[.agg #[.slice none 0 0, .int .u8 0]], []⟩ 8 (by kernel_rfl) (by kernel_rfl) (by kernel_rfl) (by kernel_rfl)) ?_
  intro W base args ds gs before hval hW _ hz _
  exact contract H enc W base args ds gs before hval hW hz
theorem closed : joinedFacts Try.prog 29 Try.f29 Rows.transferOwnsSpec Rows.transferOwnsRow = true := by
  unfold joinedFacts
  rw [headEnter, headLifted, headMake]
  kernel_rfl
theorem proved : Rows.TransferOwnsSaid :=
  OpenClaim.holds_of_wide 29 Try.f29 rfl rfl rfl rfl rfl rfl rfl ⟨rfl, rfl, rfl, rfl, rfl⟩ rfl rfl rfl rfl rfl (by kernel_rfl) Try.func29 closed
    (of_decide_eq_true (by kernel_rfl)) (by unfold Func.isWrapper; first | (rw [if_pos (by decide +kernel)]; kernel_rfl) | (rw [if_neg (by decide +kernel)]; exact ⟨rfl, rfl⟩))
    (fun os started H enc _ => lifted os started H enc)
end Go.Proofs.Ytknllmcpogoeoaa.transferOwnsFull
