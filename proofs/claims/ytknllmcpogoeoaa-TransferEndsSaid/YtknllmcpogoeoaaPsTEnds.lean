/- TransferEndsSaid: for every input the law returns true and everything reads as it did. No bound of ours on what it reads. -/
import Derived.Test.YtknllmcpogoeoaaHd
import Derived.Test.YtknllmcpogoeoaaK2
import Derived.Test.YtknllmcpogoeoaaT27
import Derived.Test.YtknllmcpogoeoaaK7
import Derived.Test.YtknllmcpogoeoaaSz
import Derived.SizedLaws
import Derived.JoinedOf
namespace Go.Proofs.Ytknllmcpogoeoaa.transferEndsFull
open Go.ChangeShapes Go.WideShapes Go.ChangeAt Go.RowKit
set_option linter.unusedVariables false
set_option maxRecDepth 100000
theorem contract (H : Type) (enc : TypeId × Value → H) (W : World) (base : Nat) (args : Array Value) (ds gs : List (DataW H)) (before : List MemPlace)
    (hval : ∀ (j : Nat) t v, Try.f31.params[j]? = some t → args[j]? = some v → Value.okWide Try.prog W .any base t v)
    (hW : DataW.Whole enc Try.prog Try.f31.params.toList Rows.transferEndsSpec.vars false W args.toList ds gs before) (hz : (DataW.weightsEach Try.prog (Try.f31.params.toList ++ Rows.transferEndsSpec.plain.varTypes Try.prog) (ds ++ gs)).all (· ≤ reachBytes) = true) :
    Calls Try.prog 31 args W fun e W' => ∃ v, e = .returned v ∧ Rows.transferEndsSpec.post enc Try.prog Try.f31 false true false false W args v W' := by
  have hW' := hW
  obtain ⟨p, q, hA0, hV, rfl, hfz, hnd⟩ := hW
  have hA : DataW.TrodAll enc Try.prog W 0 (fun _ => true) true Try.f31.params.toList args.toList ds p := hA0
  rw [Try.params31] at hA hval
  obtain ⟨v0, vs0, d0, ds0, p0, q0, hargs0, rfl, rfl, h0, r0⟩ := trodAll_cons hA
  obtain ⟨v1, vs1, d1, ds1, p1, q1, hargs1, rfl, rfl, h1, r1⟩ := trodAll_cons r0
  obtain ⟨v2, vs2, d2, ds2, p2, q2, hargs2, rfl, rfl, h2, r2⟩ := trodAll_cons r1
  obtain ⟨rfl, rfl, rfl⟩ := trodAll_nil r2
  subst hargs1
  subst hargs2
  obtain rfl : args = #[v0, v1, v2] := by cases args; simp_all
  obtain ⟨rfl, rfl⟩ := trodVars_none hV
  rw [Try.params31] at hz
  clear hA0 hA hV
  obtain ⟨x0, rfl, rfl, rfl, w0⟩ := open_int Try.underlying52 (hval 0 52 v0 rfl rfl) h0
  obtain ⟨x0, rfl, y0⟩ := u32_rng w0
  obtain ⟨a1, n1, c1, l1, x1, rfl, b1, e1, z1, k1, y1⟩ := open_file (hval 1 148 v1 rfl rfl) h1
  obtain ⟨f2, g2⟩ := h2
  rw [okWide_cells1 Try.underlying165 (hval 2 165 v2 rfl rfl)] at g2
  obtain ⟨a2, n2, c2, l2, rfl, b2, e2, z2, k2, m2⟩ := open_movesT g2
  have hl1 := len_file (hval 1 _ _ rfl rfl) h1 (weigh hz 1 rfl rfl)
  have hl2 := lenT_zs Try.underlying165 (k := 11) (by kernel_rfl) g2 (weigh hz 2 rfl rfl)
  clear hz
  refine (transferEnds_any x0 a1 n1 c1 l1 x1 a2 n2 c2 l2 W y0 b1 z1 (by omega) y1 b2 (by omega)).mono fun e W' ⟨he, hE⟩ => ?_
  subst he
  exact ⟨_, rfl, post_ext rfl (by kernel_rfl) (fun t ht => by rw [Try.params31] at ht; simp at ht; rcases ht with rfl | rfl | rfl <;> exact ⟨by kernel_rfl, of_decide_eq_true (by kernel_rfl)⟩) hW' rfl hE⟩
theorem lifted (os : Os) (started : os.Started) (H : Type) (enc : TypeId × Value → H) :
    ReturnsInHanded {} Try.checked os 31 .any (Rows.transferEndsSpec.pre6 enc Try.prog Try.f31 Rows.transferEndsRow.domain false) (Rows.transferEndsSpec.post enc Try.prog Try.f31 false true false false) := by
  refine returnsInHanded_of_change_sized (C := Try.checked) own started (by kernel_rfl) Try.func31
    (ChangeSpec.witness6 (enc := enc) (C := Try.checked) false ⟨#[], #[.int .u32 0, .agg #[.slice none 0 0, .int .u8 0], .slice none 0 0], []⟩ 8 (by kernel_rfl) (by kernel_rfl) (by kernel_rfl) (by kernel_rfl)) ?_
  intro W base args ds gs before hval hW _ hz _
  exact contract H enc W base args ds gs before hval hW hz
theorem closed : joinedFacts Try.prog 31 Try.f31 Rows.transferEndsSpec Rows.transferEndsRow = true := by
  unfold joinedFacts
  rw [headEnter, headLifted, headMake]
  kernel_rfl
theorem proved : Rows.TransferEndsSaid :=
  OpenClaim.holds_of_wide 31 Try.f31 rfl rfl rfl rfl rfl rfl rfl ⟨rfl, rfl, rfl, rfl, rfl⟩ rfl rfl rfl rfl rfl (by kernel_rfl) Try.func31 closed
    (of_decide_eq_true (by kernel_rfl)) (by unfold Func.isWrapper; first | (rw [if_pos (by decide +kernel)]; kernel_rfl) | (rw [if_neg (by decide +kernel)]; exact ⟨rfl, rfl⟩))
    (fun os started H enc _ => lifted os started H enc)
end Go.Proofs.Ytknllmcpogoeoaa.transferEndsFull
