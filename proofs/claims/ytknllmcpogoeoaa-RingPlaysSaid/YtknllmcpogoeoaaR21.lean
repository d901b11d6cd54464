/- The reference's ring: items, what is used, how many are lost; told: walked. -/
import Derived.Test.YtknllmcpogoeoaaR16
import Derived.Test.YtknllmcpogoeoaaR17
namespace Go.Proofs.Ytknllmcpogoeoaa
open Go.RowKit
set_option linter.unusedVariables false
set_option linter.unusedSimpArgs false
set_option maxRecDepth 100000
/-- an item of the reference -/
structure Itm where
  era : Int
  lost : Bool
  seq : Nat
  count : Nat
  size : Nat
def Itm.cells (x : Itm) : List Value := [.int .i64 x.era, .bool x.lost, .int .u64 (x.seq : Int), .int .u64 (x.count : Int), .int .i64 (x.size : Int)]
def toldOf (x : Rcd) : Itm := ⟨x.era, decide (x.what = 2), x.idx, x.step, x.size⟩
def itsC (xs : List Itm) : List Value := xs.flatMap Itm.cells
/-- the reference's ring as cells -/
def rfCells (r : Rg) (v : Value) : List Value := [.int .i64 r.cap, v, .bool r.begun, .int .i64 r.era, .int .u64 (r.first : Int), .int .u64 (r.next : Int)]
/-- v is a slice of the items of these records, of the call's own -/
def It (w : World) (B : Nat) (v : Value) (xs : List Itm) : Prop := Sr w B 141 5 v xs.length (itsC xs)
theorem fa135_0 (b : Nat) (w : World) : (Instr.fieldAt 135 (.pointer (some ⟨b, 0, none⟩)) 0).run Try.prog w = .ok (.pointer (some ⟨b, 0, none⟩)) w := by kernel_rfl
theorem fa135_1 (b : Nat) (w : World) : (Instr.fieldAt 135 (.pointer (some ⟨b, 0, none⟩)) 1).run Try.prog w = .ok (.pointer (some ⟨b, 1, none⟩)) w := by kernel_rfl
theorem fa135_2 (b : Nat) (w : World) : (Instr.fieldAt 135 (.pointer (some ⟨b, 0, none⟩)) 2).run Try.prog w = .ok (.pointer (some ⟨b, 2, none⟩)) w := by kernel_rfl
theorem fa135_3 (b : Nat) (w : World) : (Instr.fieldAt 135 (.pointer (some ⟨b, 0, none⟩)) 3).run Try.prog w = .ok (.pointer (some ⟨b, 3, none⟩)) w := by kernel_rfl
theorem fa135_4 (b : Nat) (w : World) : (Instr.fieldAt 135 (.pointer (some ⟨b, 0, none⟩)) 4).run Try.prog w = .ok (.pointer (some ⟨b, 4, none⟩)) w := by kernel_rfl
theorem fa135_5 (b : Nat) (w : World) : (Instr.fieldAt 135 (.pointer (some ⟨b, 0, none⟩)) 5).run Try.prog w = .ok (.pointer (some ⟨b, 5, none⟩)) w := by kernel_rfl
theorem fa141_0 (b : Nat) (w : World) : (Instr.fieldAt 141 (.pointer (some ⟨b, 0, none⟩)) 0).run Try.prog w = .ok (.pointer (some ⟨b, 0, none⟩)) w := by kernel_rfl
theorem fa141_1 (b : Nat) (w : World) : (Instr.fieldAt 141 (.pointer (some ⟨b, 0, none⟩)) 1).run Try.prog w = .ok (.pointer (some ⟨b, 1, none⟩)) w := by kernel_rfl
theorem fa141_2 (b : Nat) (w : World) : (Instr.fieldAt 141 (.pointer (some ⟨b, 0, none⟩)) 2).run Try.prog w = .ok (.pointer (some ⟨b, 2, none⟩)) w := by kernel_rfl
theorem fa141_3 (b : Nat) (w : World) : (Instr.fieldAt 141 (.pointer (some ⟨b, 0, none⟩)) 3).run Try.prog w = .ok (.pointer (some ⟨b, 3, none⟩)) w := by kernel_rfl
theorem fa141_4 (b : Nat) (w : World) : (Instr.fieldAt 141 (.pointer (some ⟨b, 0, none⟩)) 4).run Try.prog w = .ok (.pointer (some ⟨b, 4, none⟩)) w := by kernel_rfl
theorem fa141o_1 (b o : Nat) (w : World) : (Instr.fieldAt 141 (.pointer (some ⟨b, o, none⟩)) 1).run Try.prog w = .ok (.pointer (some ⟨b, o + 1, none⟩)) w := by kernel_rfl
theorem fa141o_2 (b o : Nat) (w : World) : (Instr.fieldAt 141 (.pointer (some ⟨b, o, none⟩)) 2).run Try.prog w = .ok (.pointer (some ⟨b, o + 2, none⟩)) w := by kernel_rfl
theorem under133 : Try.prog.underlying 133 = some (.slice 141) := by kernel_rfl
theorem isAgg141 (w : World) : (isAgg 141).run Try.prog w = .ok true w := by kernel_rfl
theorem size141 (w : World) : (sizeOf 141).run Try.prog w = .ok 5 w := by kernel_rfl
theorem isAgg135 (w : World) : (isAgg 135).run Try.prog w = .ok true w := by kernel_rfl
theorem size135 (w : World) : (sizeOf 135).run Try.prog w = .ok 6 w := by kernel_rfl
def zero141 : List Value := [.int .i64 0, .bool false, .int .u64 0, .int .u64 0, .int .i64 0]
def zero135 : List Value := [.int .i64 0, .slice none 0 0, .bool false, .int .i64 0, .int .u64 0, .int .u64 0]
theorem z141 (w : World) : (zeroValue 141).run Try.prog w = .ok (.agg zero141.toArray) w := by rw [Try.zeroValue141]; rfl
theorem z135 (w : World) : (zeroValue 135).run Try.prog w = .ok (.agg zero135.toArray) w := by rw [Try.zeroValue135]; rfl
theorem bld141 (x : Itm) (w : World) : (Instr.build 141 #[(0, .int .i64 x.era), (1, .bool x.lost), (2, .int .u64 (x.seq : Int)), (3, .int .u64 (x.count : Int)), (4, .int .i64 (x.size : Int))]).run Try.prog w = .ok (.agg x.cells.toArray) w := by kernel_rfl
theorem el133 : ElemT 133 141 5 40 (.agg zero141.toArray) := ⟨under133, by kernel_rfl, rfl, by decide⟩
theorem itsC_at : ∀ (ss : List Itm) (k : Nat) (s : Itm), ss[k]? = some s → ∀ j u, s.cells[j]? = some u → (itsC ss)[k * 5 + j]? = some u
  | [], k, s, h, j, u, hu => by simp at h
  | q :: r, 0, s, h, j, u, hu => by
    simp only [List.getElem?_cons_zero, Option.some.injEq] at h
    subst h
    unfold itsC
    rw [List.flatMap_cons, Nat.zero_mul, Nat.zero_add, List.getElem?_append_left ((List.getElem?_eq_some_iff.1 hu).1)]
    exact hu
  | q :: r, k + 1, s, h, j, u, hu => by
    rw [List.getElem?_cons_succ] at h
    have ih := itsC_at r k s h j u hu
    unfold itsC at ih ⊢
    have hl : q.cells.length = 5 := rfl
    rw [List.flatMap_cons, List.getElem?_append_right (by omega), hl, show (k + 1) * 5 + j - 5 = k * 5 + j by omega]
    exact ih
theorem itsC_drop : ∀ (k : Nat) (ps : List Itm), itsC (ps.drop k) = (itsC ps).drop (k * 5)
  | 0, ps => by simp
  | k + 1, [] => by simp [itsC]
  | k + 1, q :: r => by
    rw [List.drop_succ_cons, itsC_drop k r]
    have hl : q.cells.length = 5 := rfl
    unfold itsC
    rw [List.flatMap_cons, show (k + 1) * 5 = 5 + k * 5 by omega, ← List.drop_drop, List.drop_append_of_le_length (by omega), List.drop_of_length_le (show q.cells.length ≤ 5 by omega), List.nil_append]
section
variable {w w' : World} {B : Nat} {v : Value} {xs : List Itm}
theorem It.ext (h : It w B v xs) (E : Ext w w') : It w' B v xs := Sr.ext h E
theorem It.at_ {a : Option Addr} {n c : Nat} (h : It w B (.slice a n c) xs) (k : Nat) (p : Itm) (hp : xs[k]? = some p) : ∃ g off, a = some ⟨g, off, none⟩ ∧ (∀ j u, p.cells[j]? = some u → w.cell? ⟨g, off + k * 5 + j, none⟩ = some u) := by
  have hk := (List.getElem?_eq_some_iff.1 hp).1
  have hr : Sr w B 141 5 (.slice a n c) xs.length (itsC xs) := h
  rcases hr.2 with ⟨_, h0⟩ | ⟨g, off, cap, cur, e, hb, _⟩
  · omega
  · simp only [Value.slice.injEq] at e
    obtain ⟨rfl, rfl, rfl⟩ := e
    refine ⟨g, off, rfl, fun j u hu => ?_⟩
    have := hr.cells (k * 5 + j) u (itsC_at xs k p hp j u hu)
    rwa [← Nat.add_assoc] at this
end
theorem told_any (x : Rcd) (u : Value) (w0 : World) (hx : x.ok) (hu : Zl w0 u x.ev.args) : Calls Try.prog 92 #[.agg (x.cells u).toArray] w0 fun e w' => e = .returned (.agg (toldOf x).cells.toArray) ∧ Ext w0 w' := by
  have hwb : (((x.what : Nat) : Int) == 2) = decide (x.what = 2) := by rw [Bool.eq_iff_iff, beq_iff_eq, decide_eq_true_eq]; omega
  refine calls_has (args := [.agg (x.cells u).toArray]) Try.func92 rfl Try.ntmps92 (Nat.le_of_ble_eq_true rfl) (fun a H => ?_)
  simp only [argl, Nat.reduceAdd] at H
  refine wp_seq_k (fun K1 hK1 => ?_)
  refine e_region (fun R hR => ?_)
  refine e_op H rfl rfl (by decide) (x_box H rfl rfl bx_new) ?_
  clear H a; intro a H
  have T1 := Blk.new w0 95 (x.cells u)
  have E1 := (Ext.refl w0).al (.cells (x.cells u).toArray 95)
  obtain ⟨g1, hg1⟩ : ∃ g, g = w0.heap.size := ⟨_, rfl⟩
  rw [← hg1] at H T1
  generalize w0.alloc (.cells (x.cells u).toArray 95) = w1 at *
  refine e_op H rfl rfl (by decide) (x_alloc H rfl (al_new (z141 _))) ?_
  clear H a; intro a H
  have D := Blk.new w1 141 zero141
  have T1l := T1.lt
  replace T1 := T1.alloc (.cells zero141.toArray 141)
  have E := E1.al (.cells zero141.toArray 141)
  obtain ⟨g2, hg2⟩ : ∃ g, g = w1.heap.size := ⟨_, rfl⟩
  rw [← hg2] at H D
  have h12 : g1 ≠ g2 := by omega
  have hg2l : w0.heap.size ≤ g2 := by have := E1.sz; omega
  clear E1
  generalize w1.alloc (.cells zero141.toArray 141) = w2 at *
  refine e_nil (hR.out _ _ ?_)
  clear hR R
  refine hK1 _ _ ?_
  clear hK1 K1
  refine wp_seq_k (fun K2 hK2 => ?_)
  obtain ⟨wd, hwd⟩ : ∃ wx, wx = w2.drew := ⟨_, rfl⟩
  have Ewd : Ext w2 wd := by rw [hwd]; exact (Ext.refl _).dr
  replace T1 := T1.ext Ewd
  replace D := D.ext Ewd
  replace E := E.tr Ewd
  have T0 := T1
  have FSq := Frm.refl [g2] wd
  refine g_start (fun w' => Frm [g2] wd w') (by kernel_rfl) (fun R hR => ?_)
  rw [← hwd]
  refine g_take 0 H rfl (wanted_none rfl) rfl (by decide) (by kernel_rfl) (by kernel_rfl) (by kernel_rfl) FSq (fun w' hSw => (x_fieldAddr H rfl rfl (fa95_0 _ _))) ?_
  clear H a; intro a H
  refine g_take 1 H rfl (wanted_none rfl) rfl (by decide) (by kernel_rfl) (by kernel_rfl) (by kernel_rfl) FSq (fun w' hSw => (x_load H rfl rfl (l_cell Try.isAgg3 ((T0.frm hSw (by simpa using h12)).at_ (i := 0) rfl)))) ?_
  clear H a; intro a H
  refine g_take 2 H rfl (wanted_none rfl) rfl (by decide) (by kernel_rfl) (by kernel_rfl) (by kernel_rfl) FSq (fun w' hSw => (x_fieldAddr H rfl rfl (fa95_3 _ _))) ?_
  clear H a; intro a H
  refine g_take 3 H rfl (wanted_none rfl) rfl (by decide) (by kernel_rfl) (by kernel_rfl) (by kernel_rfl) FSq (fun w' hSw => (x_load H rfl rfl (l_cell Try.isAgg89 ((T0.frm hSw (by simpa using h12)).at_ (rc_what hx.words))))) ?_
  clear H a; intro a H
  refine g_take 4 H rfl (wanted_none rfl) rfl (by decide) (by kernel_rfl) (by kernel_rfl) (by kernel_rfl) FSq (fun w' hSw => (x_binI H rfl rfl rfl (b_eql (b := (decide (x.what = 2))) (hwb)))) ?_
  clear H a; intro a H
  refine g_take 5 H rfl (wanted_none rfl) rfl (by decide) (by kernel_rfl) (by kernel_rfl) (by kernel_rfl) FSq (fun w' hSw => (x_fieldAddr H rfl rfl (fa95_1 _ _))) ?_
  clear H a; intro a H
  refine g_take 6 H rfl (wanted_none rfl) rfl (by decide) (by kernel_rfl) (by kernel_rfl) (by kernel_rfl) FSq (fun w' hSw => (x_load H rfl rfl (l_cell Try.isAgg56 ((T0.frm hSw (by simpa using h12)).at_ (i := 1) rfl)))) ?_
  clear H a; intro a H
  refine g_take 7 H rfl (wanted_none rfl) rfl (by decide) (by kernel_rfl) (by kernel_rfl) (by kernel_rfl) FSq (fun w' hSw => (x_fieldAddr H rfl rfl (fa95_5 _ _))) ?_
  clear H a; intro a H
  refine g_take 8 H rfl (wanted_none rfl) rfl (by decide) (by kernel_rfl) (by kernel_rfl) (by kernel_rfl) FSq (fun w' hSw => (x_load H rfl rfl (l_cell Try.isAgg56 ((T0.frm hSw (by simpa using h12)).at_ (rc_lost hx.words))))) ?_
  clear H a; intro a H
  refine g_take 9 H rfl (wanted_none rfl) rfl (by decide) (by kernel_rfl) (by kernel_rfl) (by kernel_rfl) FSq (fun w' hSw => (x_builtin H rfl rfl (fun cs => bi_max (z := ((x.step : Nat) : Int)) (max_step x)))) ?_
  clear H a; intro a H
  refine g_take 10 H rfl (wanted_none rfl) rfl (by decide) (by kernel_rfl) (by kernel_rfl) (by kernel_rfl) FSq (fun w' hSw => (x_load H rfl rfl (ld_rec (T0.frm hSw (by simpa using h12)) hx.words))) ?_
  clear H a; intro a H
  refine g_call 11 H rfl (by kernel_rfl) (wanted_none rfl) rfl (by decide) rfl rfl (Try.call116 _) (size_any x u _ hx (hu.ext E)) ?_
  clear H a
  rintro e we ⟨rfl, Ee⟩
  replace D := D.ext Ee
  replace E := E.tr Ee
  replace FSq := FSq.tr Ee.frm
  refine ⟨_, rfl, FSq, fun a H => ?_⟩
  refine g_take 12 H rfl (wanted_none rfl) rfl (by decide) (by kernel_rfl) (by kernel_rfl) (by kernel_rfl) FSq (fun w' hSw => (x_build H rfl rfl (bld141 (toldOf x) _))) ?_
  clear H a; intro a H
  refine g_st 13 H rfl (by kernel_rfl) (wanted_none rfl) rfl (x_store H rfl rfl rfl (st_row D (by kernel_rfl) (by rfl) (by simp [Value.oneCell', Itm.cells]))) (FSq.grown (grown_setRow we g2 _) (fun k e => by cases e; exact .inl (by simp))) ?_
  replace D := D.row (toldOf x).cells
  replace E := E.row_ hg2l (toldOf x).cells.toArray
  replace FSq := FSq.grown (grown_setRow we g2 (toldOf x).cells.toArray) (fun k e => by cases e; exact .inl (by simp))
  generalize we.setRow g2 (toldOf x).cells.toArray = wf at *
  refine g_done (by kernel_rfl) (hR.out _ _ ?_)
  clear hR R
  refine hK2 _ _ ?_
  clear hK2 K2
  refine wp_ret ?_
  exact retc H rfl rfl D Try.underlying141 rfl (by kernel_rfl) ⟨rfl, E⟩
theorem sumB (xs : List Itm) (h : ∀ p ∈ xs, p.size ≤ 400) (i : Nat) : ((xs.take i).map Itm.size).sum ≤ xs.length * 400 := by
  induction xs generalizing i with
  | nil => simp
  | cons x r ih =>
    cases i with
    | zero => simp
    | succ i =>
      have := ih (fun p hp => h p (List.mem_cons_of_mem _ hp)) i
      have := h x (List.mem_cons_self ..)
      rw [List.take_succ_cons, List.map_cons, List.sum_cons, List.length_cons]
      omega
theorem usedRef_any (r : Rg) (B : Nat) (va : Option Addr) (nn c : Nat) (xs : List Itm) (w0 : World) (hit : It w0 B (.slice va nn c) xs) (hn : xs.length = nn) (hsz : ∀ p ∈ xs, p.size ≤ 400) (hb : nn ≤ 1000000) : Calls Try.prog 94 #[.agg (rfCells r (.slice va nn c)).toArray] w0 fun e w' => e = .returned (.int .i64 (((xs.map Itm.size).sum : Nat) : Int)) ∧ Ext w0 w' := by
  refine calls_has (args := [.agg (rfCells r (.slice va nn c)).toArray]) Try.func94 rfl Try.ntmps94 (Nat.le_of_ble_eq_true rfl) (fun a H => ?_)
  simp only [argl, Nat.reduceAdd] at H
  refine wp_seq_k (fun K1 hK1 => ?_)
  refine e_region (fun R hR => ?_)
  refine e_op H rfl rfl (by decide) (x_box H rfl rfl bx_new) ?_
  clear H a; intro a H
  have T1 := Blk.new w0 135 (rfCells r (.slice va nn c))
  have E1 := (Ext.refl w0).al (.cells (rfCells r (.slice va nn c)).toArray 135)
  obtain ⟨g1, hg1⟩ : ∃ g, g = w0.heap.size := ⟨_, rfl⟩
  rw [← hg1] at H T1
  generalize w0.alloc (.cells (rfCells r (.slice va nn c)).toArray 135) = w1 at *
  refine e_op H rfl rfl (by decide) (x_assign H rfl rfl) ?_
  clear H a; intro a H
  refine e_nil (hR.out _ _ ?_)
  clear hR R
  refine hK1 _ _ ?_
  clear hK1 K1
  refine wp_seq_k (fun K2 hK2 => ?_)
  refine e_region (fun R hR => ?_)
  refine e_op H rfl rfl (by decide) (x_assign H rfl rfl) ?_
  clear H a; intro a H
  refine e_nil (hR.out _ _ ?_)
  clear hR R
  refine hK2 _ _ ?_
  clear hK2 K2
  refine wp_seq_k (fun K3 hK3 => ?_)
  refine wp_seq_k (fun K4 hK4 => ?_)
  refine e_region (fun R hR => ?_)
  refine e_op H rfl rfl (by decide) (x_fieldAddr H rfl rfl (fa135_1 _ _)) ?_
  clear H a; intro a H
  refine e_op H rfl rfl (by decide) (x_load H rfl rfl (l_cell Try.isAgg133 (T1.at_ (i := 1) rfl))) ?_
  clear H a; intro a H
  refine e_op H rfl rfl (by decide) (x_builtin H rfl rfl (fun cs => len_sl under133)) ?_
  clear H a; intro a H
  refine e_op H rfl rfl (by decide) (x_move H rfl rfl) ?_
  clear H a; intro a H
  refine e_nil (hR.out _ _ ?_)
  clear hR R
  refine hK4 _ _ ?_
  clear hK4 K4
  refine wp_block ?_
  refine wp_loop_ghost (fun n a w => ∃ i, i ≤ nn ∧ n = nn - i ∧ Has a 19 [(3, .int .i64 (((xs.take i).map Itm.size).sum : Int)), (7, .slice va nn c), (8, .int .i64 ((nn : Nat) : Int)), (9, .int .i64 (i : Int))] ∧ Ext w0 w) (nn) ?_ ?_
  · skip
    exact ⟨0, by omega, rfl, H.sub ⟨rfl, rfl, rfl, rfl, trivial⟩, E1⟩
  · skip
    clear H T1 E1
    intro n a wq hI
    obtain ⟨i, hi, rfl, H, E⟩ := hI
    rcases (show i < nn ∨ i = nn by omega) with hlt | rfl
    · skip
      obtain ⟨p, hp⟩ : ∃ p, xs[i]? = some p := ⟨_, List.getElem?_eq_getElem (by omega)⟩
      obtain ⟨gk, ok, hva, hcl⟩ := (hit.ext E).at_ i p hp
      subst hva
      have hps : p.size ≤ 400 := hsz p (List.mem_of_getElem? hp)
      have hsum : ((xs.take (i + 1)).map Itm.size).sum = ((xs.take i).map Itm.size).sum + p.size := by rw [List.take_add_one, hp]; simp
      have hsb := sumB xs hsz i
      refine wp_seq_k (fun K5 hK5 => ?_)
      refine e_region (fun R hR => ?_)
      refine e_op H rfl rfl (by decide) (x_binI H rfl rfl rfl (b_lss (b := true) (dec_t (by omega)))) ?_
      clear H a; intro a H
      refine e_nil (hR.out _ _ ?_)
      clear hR R
      refine hK5 _ _ ?_
      clear hK5 K5
      refine wp_seq_k (fun K6 hK6 => ?_)
      refine c_true H rfl ?_
      refine wp_skip ?_
      refine hK6 _ _ ?_
      clear hK6 K6
      refine wp_seq_k (fun K7 hK7 => ?_)
      refine wp_block ?_
      refine wp_seq_k (fun K8 hK8 => ?_)
      refine e_region (fun R hR => ?_)
      refine e_op H rfl rfl (by decide) (x_indexAddr H rfl rfl rfl (i_slN (m := i) under133 size141 rfl hlt)) ?_
      clear H a; intro a H
      refine e_op H rfl rfl (by decide) (x_load H rfl rfl (l_part (cs := p.cells) isAgg141 size141 hcl)) ?_
      clear H a; intro a H
      refine e_op H rfl rfl (by decide) (x_alloc H rfl (al_new (z141 _))) ?_
      clear H a; intro a H
      refine e_st H rfl rfl (x_store H rfl rfl rfl (st_row (Blk.new wq 141 zero141) (by kernel_rfl) (by rfl) (by simp [Value.oneCell', Itm.cells]))) ?_
      have T := (Blk.new wq 141 zero141).row p.cells
      have E5 := (E.al (.cells zero141.toArray 141)).row_ E.sz p.cells.toArray
      obtain ⟨g5, hg5⟩ : ∃ g, g = wq.heap.size := ⟨_, rfl⟩
      rw [← hg5] at H T E5
      rw [← hg5]
      generalize (wq.alloc (.cells zero141.toArray 141)).setRow g5 p.cells.toArray = w5 at *
      refine e_nil (hR.out _ _ ?_)
      clear hR R
      refine hK8 _ _ ?_
      clear hK8 K8
      refine e_region (fun R hR => ?_)
      refine e_op H rfl rfl (by decide) (x_move H rfl rfl) ?_
      clear H a; intro a H
      refine e_op H rfl rfl (by decide) (x_fieldAddr H rfl rfl (fa141_4 _ _)) ?_
      clear H a; intro a H
      refine e_op H rfl rfl (by decide) (x_load H rfl rfl (l_cell Try.isAgg3 (T.at_ (i := 4) rfl))) ?_
      clear H a; intro a H
      refine e_op H rfl rfl (by decide) (x_binI H rfl rfl rfl (b_add (z := ((((xs.take (i + 1)).map Itm.size).sum : Nat) : Int)) (by rw [IntKind.wrap_i64]; omega))) ?_
      clear H a; intro a H
      refine e_op H rfl rfl (by decide) (x_assign H rfl rfl) ?_
      clear H a; intro a H
      refine e_nil (hR.out _ _ ?_)
      clear hR R
      refine hK7 _ _ ?_
      clear hK7 K7
      refine e_region (fun R hR => ?_)
      refine e_op H rfl rfl (by decide) (x_binI H rfl rfl rfl (b_add (z := ((i + 1 : Nat) : Int)) (by rw [IntKind.wrap_i64]; omega))) ?_
      clear H a; intro a H
      refine e_op H rfl rfl (by decide) (x_move H rfl rfl) ?_
      clear H a; intro a H
      refine e_nil (hR.out _ _ ?_)
      clear hR R
      exact ⟨nn - (i + 1), by omega, i + 1, by omega, rfl, H.sub ⟨rfl, rfl, rfl, rfl, trivial⟩, E5⟩
    · skip
      skip
      refine wp_seq_k (fun K9 hK9 => ?_)
      refine e_region (fun R hR => ?_)
      refine e_op H rfl rfl (by decide) (x_binI H rfl rfl rfl (b_lss (b := false) (dec_f (by omega)))) ?_
      clear H a; intro a H
      refine e_nil (hR.out _ _ ?_)
      clear hR R
      refine hK9 _ _ ?_
      clear hK9 K9
      refine wp_seq_k (fun K10 hK10 => ?_)
      refine c_false H rfl ?_
      refine wp_exit ?_
      refine t_exit ?_
      refine t_exit ?_
      refine b_hit ?_
      clear hK10 K10
      refine hK3 _ _ ?_
      clear hK3 K3
      refine wp_seq_k (fun K11 hK11 => ?_)
      refine e_region (fun R hR => ?_)
      refine e_op H rfl rfl (by decide) (x_move H rfl rfl) ?_
      clear H a; intro a H
      refine e_op H rfl rfl (by decide) (x_assign H rfl rfl) ?_
      clear H a; intro a H
      refine e_nil (hR.out _ _ ?_)
      clear hR R
      refine hK11 _ _ ?_
      clear hK11 K11
      refine wp_ret ?_
      refine ret1 H rfl rfl ⟨?_, E⟩
      rw [List.take_of_length_le (by omega)]
theorem lostRef_any (r : Rg) (B : Nat) (va : Option Addr) (n c : Nat) (w0 : World) (hit : It w0 B (.slice va n c) (r.list.map toldOf)) (hn : r.list.length = n) (n1 : r.first < 18446744073709551616) (n2 : r.next < 18446744073709551616) (hix : ∀ x ∈ r.list, x.idx < 18446744073709551616) (hb0 : r.begun = false → r.lost = 0) : Calls Try.prog 95 #[.agg (rfCells r (.slice va n c)).toArray] w0 fun e w' => e = .returned (.int .u64 ((r.lost : Nat) : Int)) ∧ Ext w0 w' := by
  cases hb : r.begun with
  | false =>
    have h0 := hb0 hb
    refine calls_has (args := [.agg (rfCells r (.slice va n c)).toArray]) Try.func95 rfl Try.ntmps95 (Nat.le_of_ble_eq_true rfl) (fun a H => ?_)
    simp only [argl, Nat.reduceAdd] at H
    refine wp_seq_k (fun K1 hK1 => ?_)
    refine e_region (fun R hR => ?_)
    refine e_op H rfl rfl (by decide) (x_box H rfl rfl bx_new) ?_
    clear H a; intro a H
    have T1 := Blk.new w0 135 (rfCells r (.slice va n c))
    have E1 := (Ext.refl w0).al (.cells (rfCells r (.slice va n c)).toArray 135)
    obtain ⟨g1, hg1⟩ : ∃ g, g = w0.heap.size := ⟨_, rfl⟩
    rw [← hg1] at H T1
    generalize w0.alloc (.cells (rfCells r (.slice va n c)).toArray 135) = w1 at *
    refine e_op H rfl rfl (by decide) (x_assign H rfl rfl) ?_
    clear H a; intro a H
    refine e_nil (hR.out _ _ ?_)
    clear hR R
    refine hK1 _ _ ?_
    clear hK1 K1
    refine wp_seq_k (fun K2 hK2 => ?_)
    refine wp_seq_k (fun K3 hK3 => ?_)
    refine e_region (fun R hR => ?_)
    refine e_op H rfl rfl (by decide) (x_fieldAddr H rfl rfl (fa135_2 _ _)) ?_
    clear H a; intro a H
    refine e_op H rfl rfl (by decide) (x_load H rfl rfl (l_cell Try.isAgg4 ((show _ = some (.bool false) by rw [← hb]; exact T1.at_ (i := 2) rfl)))) ?_
    clear H a; intro a H
    refine e_op H rfl rfl (by decide) (x_un H rfl rfl (u_not (c := true) (rfl))) ?_
    clear H a; intro a H
    refine e_nil (hR.out _ _ ?_)
    clear hR R
    refine hK3 _ _ ?_
    clear hK3 K3
    refine c_true H rfl ?_
    refine wp_seq_k (fun K4 hK4 => ?_)
    refine e_region (fun R hR => ?_)
    refine e_op H rfl rfl (by decide) (x_assign H rfl rfl) ?_
    clear H a; intro a H
    refine e_nil (hR.out _ _ ?_)
    clear hR R
    refine hK4 _ _ ?_
    clear hK4 K4
    refine wp_ret ?_
    refine t_ret ?_
    exact ret1 H rfl rfl ⟨by rw [h0]; rfl, E1⟩
  | true =>
    cases hl : r.list with
    | nil =>
      have hsub : IntKind.u64.wrap ((r.next : Int) - (r.first : Int)) = ((r.lost : Nat) : Int) := by
        unfold Rg.lost
        rw [hl, IntKind.wrap_u64]
        simp only
        omega
      rw [hl] at hn
      simp only [List.length_nil] at hn
      refine calls_has (args := [.agg (rfCells r (.slice va n c)).toArray]) Try.func95 rfl Try.ntmps95 (Nat.le_of_ble_eq_true rfl) (fun a H => ?_)
      simp only [argl, Nat.reduceAdd] at H
      refine wp_seq_k (fun K1 hK1 => ?_)
      refine e_region (fun R hR => ?_)
      refine e_op H rfl rfl (by decide) (x_box H rfl rfl bx_new) ?_
      clear H a; intro a H
      have T1 := Blk.new w0 135 (rfCells r (.slice va n c))
      have E1 := (Ext.refl w0).al (.cells (rfCells r (.slice va n c)).toArray 135)
      obtain ⟨g1, hg1⟩ : ∃ g, g = w0.heap.size := ⟨_, rfl⟩
      rw [← hg1] at H T1
      generalize w0.alloc (.cells (rfCells r (.slice va n c)).toArray 135) = w1 at *
      refine e_op H rfl rfl (by decide) (x_assign H rfl rfl) ?_
      clear H a; intro a H
      refine e_nil (hR.out _ _ ?_)
      clear hR R
      refine hK1 _ _ ?_
      clear hK1 K1
      refine wp_seq_k (fun K2 hK2 => ?_)
      refine wp_seq_k (fun K3 hK3 => ?_)
      refine e_region (fun R hR => ?_)
      refine e_op H rfl rfl (by decide) (x_fieldAddr H rfl rfl (fa135_2 _ _)) ?_
      clear H a; intro a H
      refine e_op H rfl rfl (by decide) (x_load H rfl rfl (l_cell Try.isAgg4 ((show _ = some (.bool true) by rw [← hb]; exact T1.at_ (i := 2) rfl)))) ?_
      clear H a; intro a H
      refine e_op H rfl rfl (by decide) (x_un H rfl rfl (u_not (c := false) (rfl))) ?_
      clear H a; intro a H
      refine e_nil (hR.out _ _ ?_)
      clear hR R
      refine hK3 _ _ ?_
      clear hK3 K3
      refine c_false H rfl ?_
      refine wp_skip ?_
      refine hK2 _ _ ?_
      clear hK2 K2
      refine wp_seq_k (fun K4 hK4 => ?_)
      refine wp_seq_k (fun K5 hK5 => ?_)
      refine e_region (fun R hR => ?_)
      refine e_op H rfl rfl (by decide) (x_fieldAddr H rfl rfl (fa135_1 _ _)) ?_
      clear H a; intro a H
      refine e_op H rfl rfl (by decide) (x_load H rfl rfl (l_cell Try.isAgg133 (T1.at_ (i := 1) rfl))) ?_
      clear H a; intro a H
      refine e_op H rfl rfl (by decide) (x_builtin H rfl rfl (fun cs => len_sl under133)) ?_
      clear H a; intro a H
      refine e_op H rfl rfl (by decide) (x_binI H rfl rfl rfl (b_eql (b := true) (beq_t (by omega)))) ?_
      clear H a; intro a H
      refine e_nil (hR.out _ _ ?_)
      clear hR R
      refine hK5 _ _ ?_
      clear hK5 K5
      refine c_true H rfl ?_
      refine wp_seq_k (fun K6 hK6 => ?_)
      refine e_region (fun R hR => ?_)
      refine e_op H rfl rfl (by decide) (x_fieldAddr H rfl rfl (fa135_5 _ _)) ?_
      clear H a; intro a H
      refine e_op H rfl rfl (by decide) (x_load H rfl rfl (l_cell Try.isAgg56 (T1.at_ (i := 5) rfl))) ?_
      clear H a; intro a H
      refine e_op H rfl rfl (by decide) (x_fieldAddr H rfl rfl (fa135_4 _ _)) ?_
      clear H a; intro a H
      refine e_op H rfl rfl (by decide) (x_load H rfl rfl (l_cell Try.isAgg56 (T1.at_ (i := 4) rfl))) ?_
      clear H a; intro a H
      refine e_op H rfl rfl (by decide) (x_binI H rfl rfl rfl (b_sub (z := ((r.lost : Nat) : Int)) (hsub))) ?_
      clear H a; intro a H
      refine e_op H rfl rfl (by decide) (x_assign H rfl rfl) ?_
      clear H a; intro a H
      refine e_nil (hR.out _ _ ?_)
      clear hR R
      refine hK6 _ _ ?_
      clear hK6 K6
      refine wp_ret ?_
      refine t_ret ?_
      exact ret1 H rfl rfl ⟨rfl, E1⟩
    | cons p rest =>
      have hix0 := hix p (by rw [hl]; exact List.mem_cons_self ..)
      have hsub : IntKind.u64.wrap ((p.idx : Int) - (r.first : Int)) = ((r.lost : Nat) : Int) := by
        unfold Rg.lost
        rw [hl, IntKind.wrap_u64]
        simp only
        omega
      have hnl : n = rest.length + 1 := by rw [← hn, hl]; rfl
      obtain ⟨gk, ok, hva, hcl0⟩ := hit.at_ 0 (toldOf p) (by rw [hl]; rfl)
      subst hva
      have hcl : ∀ w1, Ext w0 w1 → ∀ w2, Ext w1 w2 → w2.cell? ⟨gk, ok + 0 * 5 + 2, none⟩ = some (.int .u64 (p.idx : Int)) := fun w1 E1 w2 E2 => E2.cell (E1.cell (hcl0 2 _ rfl))
      refine calls_has (args := [.agg (rfCells r (.slice (some ⟨gk, ok, none⟩) n c)).toArray]) Try.func95 rfl Try.ntmps95 (Nat.le_of_ble_eq_true rfl) (fun a H => ?_)
      simp only [argl, Nat.reduceAdd] at H
      refine wp_seq_k (fun K1 hK1 => ?_)
      refine e_region (fun R hR => ?_)
      refine e_op H rfl rfl (by decide) (x_box H rfl rfl bx_new) ?_
      clear H a; intro a H
      have T1 := Blk.new w0 135 (rfCells r (.slice (some ⟨gk, ok, none⟩) n c))
      have E1 := (Ext.refl w0).al (.cells (rfCells r (.slice (some ⟨gk, ok, none⟩) n c)).toArray 135)
      obtain ⟨g1, hg1⟩ : ∃ g, g = w0.heap.size := ⟨_, rfl⟩
      rw [← hg1] at H T1
      generalize w0.alloc (.cells (rfCells r (.slice (some ⟨gk, ok, none⟩) n c)).toArray 135) = w1 at *
      refine e_op H rfl rfl (by decide) (x_assign H rfl rfl) ?_
      clear H a; intro a H
      refine e_nil (hR.out _ _ ?_)
      clear hR R
      refine hK1 _ _ ?_
      clear hK1 K1
      refine wp_seq_k (fun K2 hK2 => ?_)
      refine wp_seq_k (fun K3 hK3 => ?_)
      refine e_region (fun R hR => ?_)
      refine e_op H rfl rfl (by decide) (x_fieldAddr H rfl rfl (fa135_2 _ _)) ?_
      clear H a; intro a H
      refine e_op H rfl rfl (by decide) (x_load H rfl rfl (l_cell Try.isAgg4 ((show _ = some (.bool true) by rw [← hb]; exact T1.at_ (i := 2) rfl)))) ?_
      clear H a; intro a H
      refine e_op H rfl rfl (by decide) (x_un H rfl rfl (u_not (c := false) (rfl))) ?_
      clear H a; intro a H
      refine e_nil (hR.out _ _ ?_)
      clear hR R
      refine hK3 _ _ ?_
      clear hK3 K3
      refine c_false H rfl ?_
      refine wp_skip ?_
      refine hK2 _ _ ?_
      clear hK2 K2
      refine wp_seq_k (fun K4 hK4 => ?_)
      refine wp_seq_k (fun K5 hK5 => ?_)
      refine e_region (fun R hR => ?_)
      refine e_op H rfl rfl (by decide) (x_fieldAddr H rfl rfl (fa135_1 _ _)) ?_
      clear H a; intro a H
      refine e_op H rfl rfl (by decide) (x_load H rfl rfl (l_cell Try.isAgg133 (T1.at_ (i := 1) rfl))) ?_
      clear H a; intro a H
      refine e_op H rfl rfl (by decide) (x_builtin H rfl rfl (fun cs => len_sl under133)) ?_
      clear H a; intro a H
      refine e_op H rfl rfl (by decide) (x_binI H rfl rfl rfl (b_eql (b := false) (beq_f (by omega)))) ?_
      clear H a; intro a H
      refine e_nil (hR.out _ _ ?_)
      clear hR R
      refine hK5 _ _ ?_
      clear hK5 K5
      refine c_false H rfl ?_
      refine wp_skip ?_
      refine hK4 _ _ ?_
      clear hK4 K4
      refine wp_seq_k (fun K6 hK6 => ?_)
      refine e_quiet (by kernel_rfl) (by kernel_rfl) (fun R hR => ?_)
      obtain ⟨wd, hwd⟩ : ∃ wx, wx = w1.drew := ⟨_, rfl⟩
      have Ewd : Ext w1 wd := by rw [hwd]; exact (Ext.refl _).dr
      rw [← hwd]
      replace T1 := T1.ext Ewd
      replace hcl := hcl w1 E1 wd Ewd
      refine s_op H rfl rfl (by decide) (x_fieldAddr H rfl rfl (fa135_1 _ _)) ?_
      clear H a; intro a H
      refine s_op H rfl rfl (by decide) (x_load H rfl rfl (l_cell Try.isAgg133 (T1.at_ (i := 1) rfl))) ?_
      clear H a; intro a H
      refine s_op H rfl rfl (by decide) (x_indexAddr H rfl rfl rfl (i_slN (m := 0) under133 size141 rfl (by omega))) ?_
      clear H a; intro a H
      refine s_op H rfl rfl (by decide) (x_fieldAddr H rfl rfl (fa141o_2 _ _ _)) ?_
      clear H a; intro a H
      refine s_op H rfl rfl (by decide) (x_load H rfl rfl (l_cell Try.isAgg56 (hcl))) ?_
      clear H a; intro a H
      refine s_op H rfl rfl (by decide) (x_fieldAddr H rfl rfl (fa135_4 _ _)) ?_
      clear H a; intro a H
      refine s_op H rfl rfl (by decide) (x_load H rfl rfl (l_cell Try.isAgg56 (T1.at_ (i := 4) rfl))) ?_
      clear H a; intro a H
      refine s_op H rfl rfl (by decide) (x_binI H rfl rfl rfl (b_sub (z := ((r.lost : Nat) : Int)) (hsub))) ?_
      clear H a; intro a H
      refine s_op H rfl rfl (by decide) (x_assign H rfl rfl) ?_
      clear H a; intro a H
      refine wpStill_nil (hR.out _ _ ?_)
      clear hR R
      refine hK6 _ _ ?_
      clear hK6 K6
      refine wp_ret ?_
      exact ret1 H rfl rfl ⟨rfl, E1.tr Ewd⟩
end Go.Proofs.Ytknllmcpogoeoaa
