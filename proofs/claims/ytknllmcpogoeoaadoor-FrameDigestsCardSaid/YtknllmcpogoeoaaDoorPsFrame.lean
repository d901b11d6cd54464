/- FrameDigestsCardSaid: for every input: where the table of constants reads as the text of the program lays it, the law returns true and everything reads as it did; the table is tied to the text. No bound of ours on what it reads. -/
import Derived.Test.YtknllmcpogoeoaaDoorCards
import Derived.Test.YtknllmcpogoeoaaDoorTie
import Derived.Test.YtknllmcpogoeoaaDoorKd
import Derived.Test.YtknllmcpogoeoaaDoorL10
import Derived.Test.YtknllmcpogoeoaaDoorSz
namespace Go.Proofs.YtknllmcpogoeoaaDoor.frameDigestsFull
open Go.ChangeShapes Go.WideShapes Go.ChangeAt Go.RowKit
open Go.ChangeMaps (open_string shut_string)
set_option linter.unusedVariables false
set_option maxRecDepth 100000
theorem contract (H : Type) (enc : TypeId × Value → H) (W : World) (base : Nat) (args : Array Value) (ds gs : List (DataW H)) (before : List MemPlace)
    (hval : ∀ (j : Nat) t v, Tryd.f12.params[j]? = some t → args[j]? = some v → Value.okWide Tryd.prog W .any base t v)
    (hW : DataW.Whole enc Tryd.prog Tryd.f12.params.toList Rows.frameDigestsSpec.vars false W args.toList ds gs before) (hL : laidMetH Tryd.prog Rows.frameDigestsRow.laid W) (hz : (DataW.weightsEach Tryd.prog (Tryd.f12.params.toList ++ Rows.frameDigestsSpec.plain.varTypes Tryd.prog) (ds ++ gs)).all (· ≤ reachBytes) = true) :
    Calls Tryd.prog 12 args W fun e W' => ∃ v, e = .returned v ∧ Rows.frameDigestsSpec.post enc Tryd.prog Tryd.f12 false true false false W args v W' := by
  have K0 : Kc W := kcOf hL
  have h0w := K0.pos
  have hW' := hW
  obtain ⟨p, q, hA0, hV, rfl, hfz, hnd⟩ := hW
  have hA : DataW.TrodAll enc Tryd.prog W 0 (fun _ => true) true Tryd.f12.params.toList args.toList ds p := hA0
  rw [Tryd.params12] at hA hval
  obtain ⟨v0, vs0, d0, ds0, p0, q0, hargs0, rfl, rfl, h0, r0⟩ := trodAll_cons hA
  obtain ⟨v1, vs1, d1, ds1, p1, q1, hargs1, rfl, rfl, h1, r1⟩ := trodAll_cons r0
  obtain ⟨rfl, rfl, rfl⟩ := trodAll_nil r1
  subst hargs1
  obtain rfl : args = #[v0, v1] := by cases args; simp_all
  obtain ⟨rfl, rfl⟩ := trodVars_none hV
  rw [Tryd.params12] at hz
  clear hA0 hA hV
  obtain ⟨f0, g0⟩ := h0
  rw [okWide_cells1 Tryd.underlying43 (hval 0 43 v0 rfl rfl)] at g0
  obtain ⟨a0, n0, c0, l0, rfl, b0, e0, z0, k0, m0⟩ := open_lsW g0 (weigh hz 0 rfl rfl)
  obtain ⟨a1, n1, c1, l1, rfl, b1, e1, z1, k1⟩ := open_bs (hval 1 22 v1 rfl rfl) h1
  clear hz
  refine (frameDigests_any a0 a1 n0 c0 n1 c1 l0 l1 W b0 b1 (by omega) K0 h0w).mono fun e W' ⟨he, hE⟩ => ?_
  subst he
  exact ⟨_, rfl, post_ext rfl (by kernel_rfl) (fun t ht => by rw [Tryd.params12] at ht; simp at ht; have ht3 : t = 43 ∨ t = 22 := (by omega); rcases ht3 with rfl | rfl <;> exact ⟨by kernel_rfl, of_decide_eq_true (by kernel_rfl)⟩) hW' rfl hE⟩
noncomputable def laidWorld (os : Os) : World :=
  { World.holding Tryd.prog os ⟨#[], #[], []⟩ with heap := (World.holding Tryd.prog os ⟨#[], #[], []⟩).heap.modify 0 fun
      | .cells _ t frozen => .cells (u32s kc).toArray t frozen
      | o => o }
theorem laid_met (os : Os) : laidMet Tryd.prog Rows.frameDigestsRow.laid ((laidWorld os).forCall (fun _ _ => 0) ⟨#[], (#[.slice none 0 0, .slice none 0 0] : Array Value), []⟩).memory :=
  laidMet_of_run' 8 (by kernel_rfl) (by kernel_rfl)
theorem reads (os : Os) {H : Type} (enc : TypeId × Value → H) : ∃ places, DataW.whole enc Tryd.prog ((laidWorld os).forCall (fun _ _ => 0) ⟨#[], (#[.slice none 0 0, .slice none 0 0] : Array Value), []⟩).memory Tryd.f12.params.toList Rows.frameDigestsSpec.vars false (#[.slice none 0 0, .slice none 0 0] : Array Value).toList 8 = some ([.nil, .nil], [], places) :=
  ⟨[], by kernel_rfl⟩
theorem lifted (os : Os) (started : os.Started) (H : Type) (enc : TypeId × Value → H) (F : Stop.Interp) :
    ReturnsInHanded {} Tryd.checked os 12 .any ((OpenSpec.ofChange Rows.frameDigestsSpec).preRow enc Tryd.prog Tryd.f12 Rows.frameDigestsRow.domain false Rows.frameDigestsRow.laid) (((OpenSpec.ofChange Rows.frameDigestsSpec).at F).post enc Tryd.prog Tryd.f12 false true false false) := by
  obtain ⟨places, hx⟩ := reads os enc
  refine returnsInHanded_of_row (C := Tryd.checked) (s := OpenSpec.ofChange Rows.frameDigestsSpec) own started (by kernel_rfl) Tryd.func12
    (witness_row_at (enc := enc) (C := Tryd.checked) false (laidWorld os) (#[.slice none 0 0, .slice none 0 0] : Array Value) rfl (by kernel_rfl) (by kernel_rfl) (by kernel_rfl)
      (OpenSpec.preRow_of_cond 8 hx (by kernel_rfl) (fun k hk => by cases hk) (by kernel_rfl) (laid_met os))) ?_
  intro W base args ds gs before hval hW _ _ hz hL _ _
  exact contract H enc W base args ds gs before hval hW hL hz
theorem said : Rows.FrameDigestsSaid :=
  OpenClaim.holds_of_cond 12 Tryd.f12 rfl rfl rfl rfl rfl rfl rfl ⟨rfl, rfl, rfl, rfl, rfl⟩ rfl rfl rfl rfl rfl (by kernel_rfl) Tryd.func12 (by kernel_rfl)
    (of_decide_eq_true (by kernel_rfl)) (by unfold Func.isWrapper; first | (rw [if_pos (by decide +kernel)]; kernel_rfl) | (rw [if_neg (by decide +kernel)]; exact ⟨rfl, rfl⟩))
    (fun os started H enc _ F => by rw [OpenClaim.pre_eq_preRow]; exact lifted os started H enc F)
theorem plain (f : FuncId) (fn : Func) (hf : Tryd.pinned.checked.prog.funcNamed "rootcause/rootcauselaw03.FrameDigests" = some f) (hfn : Tryd.pinned.checked.prog.funcs[f]? = some fn) :
    false = Tryd.pinned.checked.prog.looks [] ∧ ∀ (j : Nat) t, fn.params[j]? = some t → Tryd.pinned.checked.prog.wantsStandIn t = false := by
  obtain rfl : f = 12 := Option.some.inj ((show Tryd.prog.funcNamed "rootcause/rootcauselaw03.FrameDigests" = some 12 by kernel_rfl).symm.trans hf) |>.symm
  obtain rfl : fn = Tryd.f12 := (Option.some.inj (Tryd.func12.symm.trans hfn)).symm
  refine ⟨by kernel_rfl, fun j t ht => ?_⟩
  rw [Tryd.params12] at ht
  have ht2 := Array.mem_of_getElem? ht
  have ht3 : t = 43 ∨ t = 22 := by simp at ht2; omega
  rcases ht3 with rfl | rfl
  · exact (show Tryd.prog.wantsStandIn 43 = false by kernel_rfl)
  · exact (show Tryd.prog.wantsStandIn 22 = false by kernel_rfl)
theorem proved : Rows.FrameDigestsCardSaid :=
  Claim7.holds_tied_plain_at .later [] _ _ _ _ said (fun _ h => by cases h) (by kernel_rfl) (fun _ h => by cases h) frameDigests_row_tie rfl ⟨rfl, rfl⟩ (by kernel_rfl) rfl plain (by kernel_rfl)
end Go.Proofs.YtknllmcpogoeoaaDoor.frameDigestsFull
