/- law26's entry, walked. -/
import Derived.Test.YtknllmcpogoeoaaR5
namespace Go.Proofs.Ytknllmcpogoeoaa
open Go.RowKit
set_option linter.unusedVariables false
set_option linter.unusedSimpArgs false
set_option maxRecDepth 100000
def entEvt (args : List Int) : Evt := ⟨1, 0, 4, 0, 0, 0, 0, 0, args⟩
def entRec (s : Nat) (args : List Int) : Rcd := ⟨1, s, List.replicate 16 0, 1, entEvt args, 0⟩
def zero95 : List Value := [.int .i64 0, .int .u64 0] ++ List.replicate 16 (.int .u64 0) ++ [.int .u8 0, .int .i64 0, .int .i64 0, .int .u8 0, .int .i64 0, .int .i64 0, .int .i64 0, .int .i64 0, .int .i64 0, .slice none 0 0, .int .u64 0]
theorem z95 (w : World) : (zeroValue 95).run Try.prog w = .ok (.agg zero95.toArray) w := by rw [Try.zeroValue95]; rfl
theorem bld93 (args : List Int) (a : Option Addr) (n c : Nat) (w : World) : (Instr.build 93 #[(1, .int .i64 1), (2, .int .u8 4), (8, .slice a n c)]).run Try.prog w = .ok (.agg ((⟨0, 1, 4, 0, 0, 0, 0, 0, args⟩ : Evt).cells (.slice a n c)).toArray) w := by kernel_rfl
theorem bld95 (s : Nat) (x : Evt) (v : Value) (w : World) : (Instr.build 95 #[(0, .int .i64 1), (1, .int .u64 (s : Int)), (3, .int .u8 1), (4, .agg (x.cells v).toArray)]).run Try.prog w = .ok (.agg ((⟨1, s, List.replicate 16 0, 1, x, 0⟩ : Rcd).cells v).toArray) w := by kernel_rfl
def entR (s : Nat) (args : List Int) : Rcd := ⟨1, s, List.replicate 16 0, 1, ⟨0, 1, 4, 0, 0, 0, 0, 0, args⟩, 0⟩
section
variable {P : Program} {a : Act} {N : Nat} {l : List (Nat × Value)} {w : World}
theorem retc {fn : Func} {p : Nat} {ty t : TypeId} {R : Ending → World → Prop} {g : Nat} {cs : Array Value} {d : TypeDesc} (H : Has a N l) (hr : fn.results = #[.cell p ty]) (e : lk l p = some (.pointer (some ⟨g, 0, none⟩)))
    (hg : w.heap[g]? = some (.cells cs t (0, 0))) (hu : P.underlying ty = some d) (hd : (match d with | .struct _ | .array _ _ => true | _ => false) = true) (hi : (P.info? ty).map (·.size) = some cs.size)
    (h : R (.returned (.agg cs)) w) : bodyPost P fn R .ret a w :=
  bodyPost_ret (results_cell_row hr _ _ g t cs (0, 0) d (H.ev (x := .tmp p) e) hg hu hd hi) H.nod h
end
theorem entry_any (s : Nat) (args : List Int) (ad : Option Addr) (n c : Nat) (w0 : World) : Calls Try.prog 96 #[.int .u64 (s : Int), .slice ad n c] w0 fun e w' => e = .returned (.agg ((entR s args).cells (.slice ad n c)).toArray) ∧ Ext w0 w' := by
  refine calls_has (args := [.int .u64 (s : Int), .slice ad n c]) Try.func96 rfl Try.ntmps96 (Nat.le_of_ble_eq_true rfl) (fun a H => ?_)
  simp only [argl, Nat.reduceAdd] at H
  refine wp_seq_k (fun K1 hK1 => ?_)
  refine e_region (fun R hR => ?_)
  refine e_op H rfl rfl (by decide) (x_alloc H rfl (al_new (z95 _))) ?_
  clear H a; intro a H
  have D := Blk.new w0 95 zero95
  have E := (Ext.refl w0).al (.cells zero95.toArray 95)
  obtain ⟨g, hg⟩ : ∃ g, g = w0.heap.size := ⟨_, rfl⟩
  rw [← hg] at H D
  generalize w0.alloc (.cells zero95.toArray 95) = w1 at *
  refine e_nil (hR.out _ _ ?_)
  clear hR R
  refine hK1 _ _ ?_
  clear hK1 K1
  refine wp_seq_k (fun K2 hK2 => ?_)
  refine e_region (fun R hR => ?_)
  refine e_op H rfl rfl (by decide) (x_move H rfl rfl) ?_
  clear H a; intro a H
  refine e_op H rfl rfl (by decide) (x_move H rfl rfl) ?_
  clear H a; intro a H
  refine e_op H rfl rfl (by decide) (x_build H rfl rfl (bld93 args _ _ _ _)) ?_
  clear H a; intro a H
  refine e_op H rfl rfl (by decide) (x_build H rfl rfl (bld95 _ _ _ _)) ?_
  clear H a; intro a H
  refine e_st H rfl rfl (x_store H rfl rfl rfl (st_row D (by kernel_rfl) (by rfl) (by simp [Value.oneCell', Rcd.cells, Evt.cells]))) ?_
  refine e_nil (hR.out _ _ ?_)
  clear hR R
  refine hK2 _ _ ?_
  clear hK2 K2
  refine wp_ret ?_
  exact retc H rfl rfl (setRow_heap _ _ _ _ 95 (0, 0) D) Try.underlying95 rfl (by kernel_rfl) ⟨rfl, E.row_ (by omega) _⟩
end Go.Proofs.Ytknllmcpogoeoaa
