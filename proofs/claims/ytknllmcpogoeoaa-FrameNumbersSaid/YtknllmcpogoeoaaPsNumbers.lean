/- FrameNumbersSaid: for every input the law returns true and everything reads as it did. No bound of ours on what it reads. -/
import Derived.Test.YtknllmcpogoeoaaHd
import Derived.Test.YtknllmcpogoeoaaK2
import Derived.Test.YtknllmcpogoeoaaN12
import Derived.Test.YtknllmcpogoeoaaSz
import Derived.SizedLaws
import Derived.JoinedOf
namespace Go.Proofs.Ytknllmcpogoeoaa.frameNumbersFull
open Go.ChangeShapes Go.WideShapes Go.ChangeAt Go.RowKit
set_option linter.unusedVariables false
set_option maxRecDepth 100000
theorem contract (H : Type) (enc : TypeId × Value → H) (W : World) (base : Nat) (args : Array Value) (ds gs : List (DataW H)) (before : List MemPlace)
    (hval : ∀ (j : Nat) t v, Try.f22.params[j]? = some t → args[j]? = some v → Value.okWide Try.prog W .any base t v)
    (hW : DataW.Whole enc Try.prog Try.f22.params.toList Rows.frameNumbersSpec.vars false W args.toList ds gs before) (hz : (DataW.weightsEach Try.prog (Try.f22.params.toList ++ Rows.frameNumbersSpec.plain.varTypes Try.prog) (ds ++ gs)).all (· ≤ reachBytes) = true) :
    Calls Try.prog 22 args W fun e W' => ∃ v, e = .returned v ∧ Rows.frameNumbersSpec.post enc Try.prog Try.f22 false true false false W args v W' := by
  have hW' := hW
  obtain ⟨p, q, hA0, hV, rfl, hfz, hnd⟩ := hW
  have hA : DataW.TrodAll enc Try.prog W 0 (fun _ => true) true Try.f22.params.toList args.toList ds p := hA0
  rw [Try.params22] at hA hval
  obtain ⟨v0, vs0, d0, ds0, p0, q0, hargs0, rfl, rfl, h0, r0⟩ := trodAll_cons hA
  obtain ⟨v1, vs1, d1, ds1, p1, q1, hargs1, rfl, rfl, h1, r1⟩ := trodAll_cons r0
  obtain ⟨rfl, rfl, rfl⟩ := trodAll_nil r1
  subst hargs1
  obtain rfl : args = #[v0, v1] := by cases args; simp_all
  obtain ⟨rfl, rfl⟩ := trodVars_none hV
  rw [Try.params22] at hz
  clear hA0 hA hV
  obtain ⟨f0, g0⟩ := h0
  rw [okWide_cells1 Try.underlying110 (hval 0 110 v0 rfl rfl)] at g0
  obtain ⟨a0, n0, c0, l0, rfl, b0, e0, z0, k0, m0⟩ := open_zsT Try.underlying110 Try.underlying56 (by kernel_rfl) g0
  obtain ⟨f1, g1⟩ := h1
  rw [okWide_cells1 Try.underlying91 (hval 1 91 v1 rfl rfl)] at g1
  obtain ⟨a1, n1, c1, l1, rfl, b1, e1, z1, k1, m1⟩ := open_zsT Try.underlying91 Try.underlying2 (by kernel_rfl) g1
  have hl0 := lenT_zs Try.underlying110 (k := 7) (by kernel_rfl) g0 (weigh hz 0 rfl rfl)
  have hl1 := lenT_zs Try.underlying91 (k := 7) (by kernel_rfl) g1 (weigh hz 1 rfl rfl)
  clear hz
  refine (frameNumbers_any a0 a1 n0 c0 n1 c1 l0 l1 W b0 b1 (by omega) (by omega) m0 m1).mono fun e W' ⟨he, hE⟩ => ?_
  subst he
  exact ⟨_, rfl, post_ext rfl (by kernel_rfl) (fun t ht => by rw [Try.params22] at ht; simp at ht; rcases ht with rfl | rfl <;> exact ⟨by kernel_rfl, of_decide_eq_true (by kernel_rfl)⟩) hW' rfl hE⟩
theorem lifted (os : Os) (started : os.Started) (H : Type) (enc : TypeId × Value → H) :
    ReturnsInHanded {} Try.checked os 22 .any (Rows.frameNumbersSpec.pre6 enc Try.prog Try.f22 Rows.frameNumbersRow.domain false) (Rows.frameNumbersSpec.post enc Try.prog Try.f22 false true false false) := by
  refine returnsInHanded_of_change_sized (C := Try.checked) own started (by kernel_rfl) Try.func22
    (ChangeSpec.witness6 (enc := enc) (C := Try.checked) false ⟨#[], #[.slice none 0 0, .slice none 0 0], []⟩ 8 (by kernel_rfl) (by kernel_rfl) (by kernel_rfl) (by kernel_rfl)) ?_
  intro W base args ds gs before hval hW _ hz _
  exact contract H enc W base args ds gs before hval hW hz
theorem closed : joinedFacts Try.prog 22 Try.f22 Rows.frameNumbersSpec Rows.frameNumbersRow = true := by
  unfold joinedFacts
  rw [headEnter, headLifted, headMake]
  kernel_rfl
theorem proved : Rows.FrameNumbersSaid :=
  OpenClaim.holds_of_wide 22 Try.f22 rfl rfl rfl rfl rfl rfl rfl ⟨rfl, rfl, rfl, rfl, rfl⟩ rfl rfl rfl rfl rfl (by kernel_rfl) Try.func22 closed
    (of_decide_eq_true (by kernel_rfl)) (by unfold Func.isWrapper; first | (rw [if_pos (by decide +kernel)]; kernel_rfl) | (rw [if_neg (by decide +kernel)]; exact ⟨rfl, rfl⟩))
    (fun os started H enc _ => lifted os started H enc)
end Go.Proofs.Ytknllmcpogoeoaa.frameNumbersFull
