/- RingFilesSaid: for every input the law returns true and everything reads as it did. No bound of ours on what it reads. -/
import Derived.Test.YtknllmcpogoeoaaHd
import Derived.Test.YtknllmcpogoeoaaK2
import Derived.Test.YtknllmcpogoeoaaR29
import Derived.Test.YtknllmcpogoeoaaK5
import Derived.Test.YtknllmcpogoeoaaSz
import Derived.SizedLaws
import Derived.JoinedOf
namespace Go.Proofs.Ytknllmcpogoeoaa.ringFilesFull
open Go.ChangeShapes Go.WideShapes Go.ChangeAt Go.RowKit
set_option linter.unusedVariables false
set_option maxRecDepth 100000
theorem contract (H : Type) (enc : TypeId × Value → H) (W : World) (base : Nat) (args : Array Value) (ds gs : List (DataW H)) (before : List MemPlace)
    (hval : ∀ (j : Nat) t v, Try.f16.params[j]? = some t → args[j]? = some v → Value.okWide Try.prog W .any base t v)
    (hW : DataW.Whole enc Try.prog Try.f16.params.toList Rows.ringFilesSpec.vars false W args.toList ds gs before) (hz : (DataW.weightsEach Try.prog (Try.f16.params.toList ++ Rows.ringFilesSpec.plain.varTypes Try.prog) (ds ++ gs)).all (· ≤ reachBytes) = true) :
    Calls Try.prog 16 args W fun e W' => ∃ v, e = .returned v ∧ Rows.ringFilesSpec.post enc Try.prog Try.f16 false true false false W args v W' := by
  have hW' := hW
  obtain ⟨p, q, hA0, hV, rfl, hfz, hnd⟩ := hW
  have hA : DataW.TrodAll enc Try.prog W 0 (fun _ => true) true Try.f16.params.toList args.toList ds p := hA0
  rw [Try.params16] at hA hval
  obtain ⟨v0, vs0, d0, ds0, p0, q0, hargs0, rfl, rfl, h0, r0⟩ := trodAll_cons hA
  obtain ⟨v1, vs1, d1, ds1, p1, q1, hargs1, rfl, rfl, h1, r1⟩ := trodAll_cons r0
  obtain ⟨rfl, rfl, rfl⟩ := trodAll_nil r1
  subst hargs1
  obtain rfl : args = #[v0, v1] := by cases args; simp_all
  obtain ⟨rfl, rfl⟩ := trodVars_none hV
  rw [Try.params16] at hz
  clear hA0 hA hV
  obtain ⟨x0, rfl, rfl, rfl, w0⟩ := open_int Try.underlying47 (hval 0 47 v0 rfl rfl) h0
  obtain ⟨x0, rfl, y0⟩ := u16_rng w0
  obtain ⟨x1, t1, a1, n1, c1, s1, rfl, y1, u1, b1, e1, z1, k1⟩ := open_play (hval 1 80 v1 rfl rfl) h1
  have hl1 := len_play (hval 1 _ _ rfl rfl) h1 (weigh hz 1 rfl rfl)
  clear hz
  refine (ringFiles_any x0 x1 t1 a1 n1 c1 s1 W b1 y0 y1 u1 (by omega)).mono fun e W' ⟨he, hE⟩ => ?_
  subst he
  exact ⟨_, rfl, post_ext rfl (by kernel_rfl) (fun t ht => by rw [Try.params16] at ht; simp at ht; rcases ht with rfl | rfl <;> exact ⟨by kernel_rfl, of_decide_eq_true (by kernel_rfl)⟩) hW' rfl hE⟩
theorem lifted (os : Os) (started : os.Started) (H : Type) (enc : TypeId × Value → H) :
    ReturnsInHanded {} Try.checked os 16 .any (Rows.ringFilesSpec.pre6 enc Try.prog Try.f16 Rows.ringFilesRow.domain false) (Rows.ringFilesSpec.post enc Try.prog Try.f16 false true false false) := by
  refine returnsInHanded_of_change_sized (C := Try.checked) own started (by kernel_rfl) Try.func16
    (ChangeSpec.witness6 (enc := enc) (C := Try.checked) false ⟨#[], #[.int .u16 0, .agg #[.int .u8 0, .int .u32 0, .slice none 0 0]], []⟩ 8 (by kernel_rfl) (by kernel_rfl) (by kernel_rfl) (by kernel_rfl)) ?_
  intro W base args ds gs before hval hW _ hz _
  exact contract H enc W base args ds gs before hval hW hz
theorem closed : joinedFacts Try.prog 16 Try.f16 Rows.ringFilesSpec Rows.ringFilesRow = true := by
  unfold joinedFacts
  rw [headEnter, headLifted, headMake]
  kernel_rfl
theorem proved : Rows.RingFilesSaid :=
  OpenClaim.holds_of_wide 16 Try.f16 rfl rfl rfl rfl rfl rfl rfl ⟨rfl, rfl, rfl, rfl, rfl⟩ rfl rfl rfl rfl rfl (by kernel_rfl) Try.func16 closed
    (of_decide_eq_true (by kernel_rfl)) (by unfold Func.isWrapper; first | (rw [if_pos (by decide +kernel)]; kernel_rfl) | (rw [if_neg (by decide +kernel)]; exact ⟨rfl, rfl⟩))
    (fun os started H enc _ => lifted os started H enc)
end Go.Proofs.Ytknllmcpogoeoaa.ringFilesFull
