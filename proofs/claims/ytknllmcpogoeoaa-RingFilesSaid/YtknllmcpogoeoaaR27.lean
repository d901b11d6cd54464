/- An event read back: walked. -/
import Derived.Test.YtknllmcpogoeoaaR26
import Derived.Test.YtknllmcpogoeoaaR14
namespace Go.Proofs.Ytknllmcpogoeoaa
open Go.RowKit
set_option linter.unusedVariables false
set_option linter.unusedSimpArgs false
set_option maxRecDepth 100000
section
variable {P : Program} {a : Act} {N : Nat} {l : List (Nat × Value)} {w w2 : World} {o o2 : Oper} {R : Act → World → Prop} {Q : Act → World → Prop} {ops : Array Oper} {rest : List Oper} {d fuel : Nat} {listed : Array Bool} {md : Region.Mode} {S : World → Prop}
theorem x_makeFunc (H : Has a N l) {fn : Fn} {xs : List Operand} {vs : List Value} (ho : o.op = .makeFunc fn #[] xs.toArray) (he : evs l xs = some vs) : (execOp a.eval o).run P w = .ok (.value (.func fn #[] vs.toArray)) w := by
  unfold execOp
  rw [ho]
  simp only [List.map_toArray, H.evs he, Instr.makeFunc, Sem.run_bind, Sem.run_pure, Result.andThen_ok]
  rfl
/-- a func value is called -/
theorem run_callv (H : Has a N l) {x : Operand} {f : FuncId} {cap : Array Value} (ho : o.op = .call { callee := .value x, args := #[], argTypes := #[] }) (ex : ev l x = some (.func (.func f) #[] cap))
    (hent : (callFunc f cap).run P w = .ok (.enter f cap) w) : (execOp a.eval o).run P w = .ok (.enter f cap) w := by
  unfold execOp
  simp only [ho, resolve, Sem.run_bind, H.ev ex, Deferred.ofValue, Sem.run_pure, Result.andThen_ok, invoke, Array.map_empty, Array.empty_append, Array.append_empty]
  exact hent
theorem e_callr {Q : Exit → Act → World → Prop} (H : Has a N l) (hg : o.guard = none) (hd : o.dst = some d) (hdN : d < N) {f : FuncId} {cap : Array Value} (hrun : (execOp a.eval o).run P w = .ok (.enter f cap) w)
    {S : Ending → World → Prop} (C : Calls P f cap w S)
    (k : ∀ e w', S e w' → ∃ v, e = .returned v ∧ ∀ a, Has a N ((d, v) :: l) → wpList P ops Q rest a w') : wpList P ops Q (o :: rest) a w := by
  refine wpList_plain hg fun K hK => ?_
  unfold Oper.wp
  rw [hrun, Oper.upon_enter]
  refine C.mono ?_
  intro e w1 hS
  obtain ⟨v, rfl, h⟩ := k e w1 hS
  rw [hd]
  exact hK _ _ (h _ (H.put hdN))
theorem g_callr (i : Nat) (H : Has a N l) (hi : ops[i]? = some o) (hr : Region.ready md ops listed = [i]) (hw : Region.wanted o (yielded ops a.tmps) = true) (hd : o.dst = some d) (hdN : d < N) {f : FuncId} {cap : Array Value}
    (hrun : (execOp a.eval o).run P w = .ok (.enter f cap) w)
    {T : Ending → World → Prop} (C : Calls P f cap w T)
    (k : ∀ e w', T e w' → ∃ v, e = .returned v ∧ S w' ∧ ∀ a, Has a N ((d, v) :: l) → wpAnyH P md ops (OnlyN R) S fuel (listed.setIfInBounds i true) a w') : wpAnyH P md ops (OnlyN R) S (fuel + 1) listed a w := by
  refine wpAnyH_ready hr (by simp) (AllReadyH.cons hi (fun K hK => ?_) AllReadyH.nil)
  rw [if_pos hw]
  unfold Oper.wp
  rw [hrun, Oper.upon_enter]
  refine C.mono ?_
  intro e w1 hS
  obtain ⟨v, rfl, hE, h⟩ := k e w1 hS
  rw [hd]
  exact hK.out _ _ hE (fun _ => h _ (H.put hdN))
theorem g_twor2 (i j : Nat) (H : Has a N l) {d2 : Nat} {v2 : Value} (hr : Region.ready md ops listed = [i, j])
    (hi : ops[i]? = some o) (hw : Region.wanted o (yielded ops a.tmps) = true) (hd : o.dst = some d) (hdN : d < N) {f : FuncId} {cap : Array Value} (hrun : (execOp a.eval o).run P w = .ok (.enter f cap) w)
    {T : Ending → World → Prop} (C : Calls P f cap w T)
    (hj : ops[j]? = some o2) (hw2 : Region.wanted o2 (yielded ops a.tmps) = true) (hd2 : o2.dst = some d2) (hdN2 : d2 < N) (hy2 : (execOp a.eval o2).run P w = .ok (.value v2) w2) (hE2 : S w2)
    (k : ∀ e w', T e w' → ∃ v, e = .returned v ∧ S w' ∧ ∀ a, Has a N ((d, v) :: l) → wpAnyH P md ops (OnlyN R) S fuel (listed.setIfInBounds i true) a w')
    (k2 : ∀ a, Has a N ((d2, v2) :: l) → wpAnyH P md ops (OnlyN R) S fuel (listed.setIfInBounds j true) a w2) : wpAnyH P md ops (OnlyN R) S (fuel + 1) listed a w := by
  refine wpAnyH_ready hr (by simp) (AllReadyH.cons hi (fun K hK => ?_) (AllReadyH.cons hj (fun K hK => ?_) AllReadyH.nil))
  · rw [if_pos hw]
    unfold Oper.wp
    rw [hrun, Oper.upon_enter]
    refine C.mono ?_
    intro e w1 hS
    obtain ⟨v, rfl, hE, h⟩ := k e w1 hS
    rw [hd]
    exact hK.out _ _ hE (fun _ => h _ (H.put hdN))
  · rw [if_pos hw2]; unfold Oper.wp; rw [hy2, Oper.upon_value, hd2]; exact hK.out _ _ hE2 (fun _ => k2 _ (H.put hdN2))
/-- a call, or a plain operation behind it in number -/
theorem g_twoc2 (i j : Nat) (H : Has a N l) {d2 : Nat} {v2 : Value} (hr : Region.ready md ops listed = [i, j])
    (hi : ops[i]? = some o) (hw : Region.wanted o (yielded ops a.tmps) = true) (hd : o.dst = some d) (hdN : d < N) {f : FuncId} {xs : List Operand} {ts : Array TypeId} {vs : List Value}
    (ho : o.op = .call { callee := .value (.func f), args := xs.toArray, argTypes := ts }) (he : evs l xs = some vs) (hent : ∀ w, (callFunc f vs.toArray).run P w = .ok (.enter f vs.toArray) w)
    {T : Ending → World → Prop} (C : Calls P f vs.toArray w T)
    (hj : ops[j]? = some o2) (hw2 : Region.wanted o2 (yielded ops a.tmps) = true) (hd2 : o2.dst = some d2) (hdN2 : d2 < N) (hy2 : (execOp a.eval o2).run P w = .ok (.value v2) w2) (hE2 : S w2)
    (k : ∀ e w', T e w' → ∃ v, e = .returned v ∧ S w' ∧ ∀ a, Has a N ((d, v) :: l) → wpAnyH P md ops (OnlyN R) S fuel (listed.setIfInBounds i true) a w')
    (k2 : ∀ a, Has a N ((d2, v2) :: l) → wpAnyH P md ops (OnlyN R) S fuel (listed.setIfInBounds j true) a w2) : wpAnyH P md ops (OnlyN R) S (fuel + 1) listed a w :=
  g_twor2 i j H hr hi hw hd hdN (run_call H ho he (hent w)) C hj hw2 hd2 hdN2 hy2 hE2 k k2
end
theorem bx_one {P : Program} {w : World} {t : TypeId} {v : Value} (hv : v.cells = #[v]) : (Instr.box t v).run P w = .ok (.pointer (some ⟨w.heap.size, 0, none⟩)) (w.alloc (.cells #[v] t)) := by
  simp [Instr.box, Sem.run_bind, newVar, newRow, hv]
theorem rsU_put (v m : Nat) (r : List UInt8) (h : v < 18446744073709551616) (hm : v ≤ m) : rsUint (putU v ++ r) 0 m = ⟨v, r, 0⟩ := by
  unfold rsUint
  rw [if_neg (by simp), rdU_put v r h]
  simp [Nat.not_lt.2 hm]
theorem rsI_put (z : Int) (r : List UInt8) (h : zz z < 18446744073709551616) : rsInt (putU (zz z) ++ r) 0 = ⟨z, r, 0⟩ := by
  unfold rsInt
  rw [if_neg (by simp), rdU_put _ r h]
  simp [uz_zz]
/-- what a reader's call of an encoded number does -/
theorem rU_put (g q v m : Nat) (l r : List UInt8) (w : World) (R : Rd w g q l 0) (hl : l = putU v ++ r) (h : v < 18446744073709551616) (hm : v ≤ m) (hm2 : m < 18446744073709551616) :
    Calls Try.prog 78 #[.pointer (some ⟨g, 0, none⟩), .int .u64 (m : Int)] w fun e w' => e = .returned (.int .u64 (v : Int)) ∧ Rd w' g q r 0 ∧ Frm [g] w w' := by
  have := rUint_any g q l 0 m w R hm2
  rw [hl, rsU_put v m r h hm] at this
  exact this
theorem rI_put (g q : Nat) (z : Int) (l r : List UInt8) (w : World) (R : Rd w g q l 0) (hl : l = putU (zz z) ++ r) (h1 : -9223372036854775808 ≤ z) (h2 : z ≤ 9223372036854775807) :
    Calls Try.prog 81 #[.pointer (some ⟨g, 0, none⟩)] w fun e w' => e = .returned (.int .i64 z) ∧ Rd w' g q r 0 ∧ Frm [g] w w' := by
  have := rInt_any g q l 0 w R
  rw [hl, rsI_put z r (zz_lt z h1 h2)] at this
  exact this
theorem rdB_lt {w : World} {g q : Nat} {l : List UInt8} {e : Nat} (R : Rd w g q l e) : g < w.heap.size ∧ q ≠ g := by
  obtain ⟨hne, a, n, c, B, _⟩ := R
  exact ⟨B.lt, hne⟩
theorem zero93 (w : World) : (zeroValue 93).run Try.prog w = .ok (.agg (evt0.cells (.slice none 0 0)).toArray) w := z93 w
theorem bldev3 (a comp : Int) (k : Nat) (w : World) : (Instr.build 93 #[(1, .int .i64 comp), (0, .int .i64 a), (2, .int .u8 (k : Int))]).run Try.prog w = .ok (.agg ((⟨a, comp, k, 0, 0, 0, 0, 0, []⟩ : Evt).cells (.slice none 0 0)).toArray) w := by kernel_rfl
theorem evt_one (x : Evt) (a : Option Addr) (n c : Nat) : ∀ v ∈ x.cells (.slice a n c), v.oneCell' = true := by
  intro v hv
  unfold Evt.cells at hv
  simp only [List.mem_cons, List.not_mem_nil, or_false] at hv
  rcases hv with h | h | h | h | h | h | h | h | h <;> rw [h] <;> rfl
theorem argsB_cons (zs : List Int) (i : Nat) (h : i < zs.length) : argsB (zs.drop i) = putU (zz (zs[i]?.getD 0)) ++ argsB (zs.drop (i + 1)) := by
  unfold argsB
  rw [List.drop_eq_getElem_cons h, List.flatMap_cons, List.getElem?_eq_getElem h]
  rfl
theorem Blk.nt {w : World} {k : Nat} {t t' : TypeId} {cs : List Value} (h : Blk w k t cs) (hne : t ≠ t') : ∀ cur f, w.heap[k]? ≠ some (.cells cur t' f) := by
  intro cur f e
  unfold Blk at h
  rw [h] at e
  simp at e
  exact hne e.2.1
theorem number_any (gb gr q v : Nat) (l r : List UInt8) (w0 : World) (T : Blk w0 gb 111 [.pointer (some ⟨gr, 0, none⟩)]) (Qd : Rd w0 gr q l 0) (hl : l = putU v ++ r) (hv : v ≤ 2147483647) :
    Calls Try.prog 139 #[.pointer (some ⟨gb, 0, none⟩)] w0 fun e w' => e = .returned (.int .i64 (v : Int)) ∧ Rd w' gr q r 0 ∧ Frm [gr] w0 w' := by
  refine calls_has (args := [.pointer (some ⟨gb, 0, none⟩)]) Try.func139 rfl Try.ntmps139 (Nat.le_of_ble_eq_true rfl) (fun a H => ?_)
  simp only [argl, Nat.reduceAdd] at H
  refine wp_seq_k (fun K1 hK1 => ?_)
  refine e_region (fun R hR => ?_)
  refine e_op H rfl rfl (by decide) (x_assign H rfl rfl) ?_
  clear H a; intro a H
  refine e_nil (hR.out _ _ ?_)
  clear hR R
  refine hK1 _ _ ?_
  clear hK1 K1
  refine wp_seq_k (fun K2 hK2 => ?_)
  refine e_region (fun R hR => ?_)
  refine e_op H rfl rfl (by decide) (x_load H rfl rfl (l_cell Try.isAgg111 (T.at_ (i := 0) rfl))) ?_
  clear H a; intro a H
  refine e_callq H rfl rfl (by decide) rfl rfl (Try.call78 _) (rU_put gr q v 2147483647 l r w0 Qd hl (by omega) hv (by omega)) ?_
  clear H a
  rintro e w1 ⟨rfl, Qd1, F1⟩
  refine ⟨_, rfl, fun a H => ?_⟩
  refine e_op H rfl rfl (by decide) (x_conv H rfl rfl (c_int (z := (v : Int)) Try.underlying56 Try.underlying3 (by rw [IntKind.wrap_i64]; omega))) ?_
  clear H a; intro a H
  refine e_op H rfl rfl (by decide) (x_assign H rfl rfl) ?_
  clear H a; intro a H
  refine e_nil (hR.out _ _ ?_)
  clear hR R
  refine hK2 _ _ ?_
  clear hK2 K2
  refine wp_ret ?_
  exact ret1 H rfl rfl ⟨rfl, Qd1, F1⟩
theorem rd_no2 {w : World} {g q : Nat} {l : List UInt8} {e : Nat} (Qd : Rd w g q l e) : ∀ cur f, w.heap[g]? ≠ some (.cells cur 2 f) := by
  obtain ⟨hne, a, n, c, B, _⟩ := Qd
  exact B.nt (by decide)
theorem getD_mem0 {zs : List Int} (h : ∀ z ∈ zs, -9223372036854775808 ≤ z ∧ z ≤ 9223372036854775807) (i : Nat) : -9223372036854775808 ≤ zs[i]?.getD 0 ∧ zs[i]?.getD 0 ≤ 9223372036854775807 := by
  cases hz : zs[i]? with
  | none => simp
  | some z => exact h z (List.mem_of_getElem? hz)
set_option maxHeartbeats 1600000 in
theorem readEvent_any (gr q : Nat) (ev : Evt) (rest l : List UInt8) (w0 : World) (hQd : Rd w0 gr q l 0) (hl : l = ev.bytes ++ rest) (hq : q < w0.heap.size) (hok : ev.ok) (ha : 0 ≤ ev.a ∧ ev.a ≤ 200) (hk : ev.kind ≤ 11) (hc : 0 ≤ ev.c ∧ ev.c ≤ 8) (hd : 0 ≤ ev.d ∧ ev.d ≤ 2147483647) (he : 0 ≤ ev.e ∧ ev.e ≤ 1) (hf : 0 ≤ ev.f ∧ ev.f ≤ 7) (h4 : ev.args.length ≤ 4) :
    Calls Try.prog 120 #[.pointer (some ⟨gr, 0, none⟩), .int .i64 ev.comp] w0 fun e w' => ∃ ua uc, e = .returned (.agg (ev.cells (.slice ua ev.args.length uc)).toArray) ∧ Zw w' w0.heap.size (.slice ua ev.args.length uc) ev.args ∧ Rd w' gr q rest 0 ∧ Frm [gr] w0 w' := by
  have hgr := hok.g
  have hargs := getD_mem0 hok.args
  have hgl := (rdB_lt hQd).1
  have hA : ((ev.a.toNat : Nat) : Int) = ev.a := by omega
  have hC : ((ev.c.toNat : Nat) : Int) = ev.c := by omega
  have hD : ((ev.d.toNat : Nat) : Int) = ev.d := by omega
  have hE : ((ev.e.toNat : Nat) : Int) = ev.e := by omega
  have hF2 : ((ev.f.toNat : Nat) : Int) = ev.f := by omega
  rw [hl] at hQd
  unfold Evt.bytes at hQd
  simp only [List.append_assoc] at hQd
  refine calls_has (args := [.pointer (some ⟨gr, 0, none⟩), .int .i64 ev.comp]) Try.func120 rfl Try.ntmps120 (Nat.le_of_ble_eq_true rfl) (fun a H => ?_)
  simp only [argl, Nat.reduceAdd] at H
  refine wp_seq_k (fun K1 hK1 => ?_)
  refine e_region (fun R hR => ?_)
  refine e_op H rfl rfl (by decide) (x_box H rfl rfl (bx_one rfl)) ?_
  clear H a; intro a H
  have T2 := Blk.new w0 111 [.pointer (some ⟨gr, 0, none⟩)]
  have F := (Frm.refl [gr] w0).al (.cells #[.pointer (some ⟨gr, 0, none⟩)] 111)
  have Qd := hQd.ext ((Ext.refl w0).al (.cells #[.pointer (some ⟨gr, 0, none⟩)] 111))
  obtain ⟨g2, hg2⟩ : ∃ g, g = w0.heap.size := ⟨_, rfl⟩
  rw [← hg2] at H T2
  change Blk (w0.alloc (.cells #[.pointer (some ⟨gr, 0, none⟩)] 111)) g2 111 _ at T2
  generalize w0.alloc (.cells #[.pointer (some ⟨gr, 0, none⟩)] 111) = w1 at *
  have hn2 : g2 ≠ gr := by omega
  refine e_op H rfl rfl (by decide) (x_alloc H rfl (al_new (z93 _))) ?_
  clear H a; intro a H
  have T4 := Blk.new w1 93 (evt0.cells (.slice none 0 0))
  have hs2 := T2.lt
  replace F := F.al (.cells (evt0.cells (.slice none 0 0)).toArray 93)
  replace Qd := Qd.ext ((Ext.refl w1).al (.cells (evt0.cells (.slice none 0 0)).toArray 93))
  replace T2 := T2.alloc (.cells (evt0.cells (.slice none 0 0)).toArray 93)
  obtain ⟨g4, hg4⟩ : ∃ g, g = w1.heap.size := ⟨_, rfl⟩
  rw [← hg4] at H T4
  generalize w1.alloc (.cells (evt0.cells (.slice none 0 0)).toArray 93) = w2 at *
  have hn4 : g4 ≠ gr := by omega
  have hlow4 : w0.heap.size ≤ g4 := by omega
  refine e_nil (hR.out _ _ ?_)
  clear hR R
  refine hK1 _ _ ?_
  clear hK1 K1
  refine wp_seq_k (fun K2 hK2 => ?_)
  refine e_region (fun R hR => ?_)
  refine e_op H rfl rfl (by decide) (x_makeFunc H rfl rfl) ?_
  clear H a; intro a H
  refine e_op H rfl rfl (by decide) (x_assign H rfl rfl) ?_
  clear H a; intro a H
  refine e_nil (hR.out _ _ ?_)
  clear hR R
  refine hK2 _ _ ?_
  clear hK2 K2
  refine wp_seq_k (fun K3 hK3 => ?_)
  obtain ⟨wx, hwx⟩ : ∃ wx, wx = w2.drew := ⟨_, rfl⟩
  have hwd2 : Ext w2 wx := by rw [hwx]; exact (Ext.refl _).dr
  replace F := F.tr hwd2.frm
  replace Qd := Qd.ext hwd2
  replace T2 := T2.ext hwd2
  replace T4 := T4.ext hwd2
  have hsz2 := hwd2.sz
  obtain ⟨wd, hwd⟩ : ∃ wd, wd = wx := ⟨_, rfl⟩
  have T20 : Blk wd g2 111 [.pointer (some ⟨gr, 0, none⟩)] := by rw [hwd]; exact T2
  have FSq : Frm [gr] wd wx := by rw [hwd]; exact Frm.refl _ _
  have hszd : wd.heap.size = wx.heap.size := by rw [hwd]
  clear hwd
  have hszw : w0.heap.size ≤ wd.heap.size := by have := F.size; omega
  have hq2 : q < wd.heap.size := by have := F.size; omega
  refine Code.wp_mono (Q := fun e a w => e = Exit.normal ∧ ∃ g6, Has a 43 [(2, .pointer (some ⟨g2, 0, none⟩)), (4, .pointer (some ⟨g4, 0, none⟩)), (5, .func (.func 139) #[] #[.pointer (some ⟨g2, 0, none⟩)]), (6, .pointer (some ⟨g6, 0, none⟩))] ∧ Rd w gr q (putU ev.c.toNat ++ (putU ev.d.toNat ++ (putU ev.e.toNat ++ (putU ev.f.toNat ++ (putU (zz ev.g) ++ (putU ev.args.length ++ (argsB ev.args ++ rest))))))) 0 ∧ Blk w g2 111 [.pointer (some ⟨gr, 0, none⟩)] ∧ Blk w g4 93 (evt0.cells (.slice none 0 0)) ∧ Blk w g6 93 ((⟨ev.a, ev.comp, ev.kind, 0, 0, 0, 0, 0, []⟩ : Evt).cells (.slice none 0 0)) ∧ Frm [gr] w0 w ∧ g6 ≠ gr ∧ w0.heap.size ≤ g6 ∧ g4 ≠ g6 ∧ g2 ≠ g6) (fun e a w hM => ?_) ?_
  · skip
    clear H Qd T2 T4 F
    obtain ⟨rfl, g6, H, Qd, T2, T4, T6, F, hn6, hlow6, h46, h26⟩ := hM
    generalize hwx : w = wx at *
    clear hwx
    refine hK3 _ _ ?_
    clear hK3 K3
    refine wp_seq_k (fun K4 hK4 => ?_)
    refine e_region (fun R hR => ?_)
    refine e_op H rfl rfl (by decide) (x_move H rfl rfl) ?_
    clear H a; intro a H
    refine e_callr H rfl rfl (by decide) (run_callv H rfl rfl (Try.call139 _ _)) (number_any g2 gr q ev.c.toNat _ (putU ev.d.toNat ++ (putU ev.e.toNat ++ (putU ev.f.toNat ++ (putU (zz ev.g) ++ (putU ev.args.length ++ (argsB ev.args ++ rest)))))) wx T2 Qd rfl (by omega)) ?_
    clear H a
    rintro e wn ⟨rfl, Qd2, Fn⟩
    replace Qd := Qd2
    clear Qd2
    replace T2 := T2.frm Fn (by simpa using hn2)
    replace T4 := T4.frm Fn (by simpa using hn4)
    replace T6 := T6.frm Fn (by simpa using hn6)
    replace F := F.tr Fn
    clear Fn
    generalize wn = wx at *
    refine ⟨_, rfl, fun a H => ?_⟩
    refine e_op H rfl rfl (by decide) (x_move H rfl rfl) ?_
    clear H a; intro a H
    refine e_callr H rfl rfl (by decide) (run_callv H rfl rfl (Try.call139 _ _)) (number_any g2 gr q ev.d.toNat _ (putU ev.e.toNat ++ (putU ev.f.toNat ++ (putU (zz ev.g) ++ (putU ev.args.length ++ (argsB ev.args ++ rest))))) wx T2 Qd rfl (by omega)) ?_
    clear H a
    rintro e wn ⟨rfl, Qd2, Fn⟩
    replace Qd := Qd2
    clear Qd2
    replace T2 := T2.frm Fn (by simpa using hn2)
    replace T4 := T4.frm Fn (by simpa using hn4)
    replace T6 := T6.frm Fn (by simpa using hn6)
    replace F := F.tr Fn
    clear Fn
    generalize wn = wx at *
    refine ⟨_, rfl, fun a H => ?_⟩
    refine e_op H rfl rfl (by decide) (x_move H rfl rfl) ?_
    clear H a; intro a H
    refine e_callr H rfl rfl (by decide) (run_callv H rfl rfl (Try.call139 _ _)) (number_any g2 gr q ev.e.toNat _ (putU ev.f.toNat ++ (putU (zz ev.g) ++ (putU ev.args.length ++ (argsB ev.args ++ rest)))) wx T2 Qd rfl (by omega)) ?_
    clear H a
    rintro e wn ⟨rfl, Qd2, Fn⟩
    replace Qd := Qd2
    clear Qd2
    replace T2 := T2.frm Fn (by simpa using hn2)
    replace T4 := T4.frm Fn (by simpa using hn4)
    replace T6 := T6.frm Fn (by simpa using hn6)
    replace F := F.tr Fn
    clear Fn
    generalize wn = wx at *
    refine ⟨_, rfl, fun a H => ?_⟩
    refine e_op H rfl rfl (by decide) (x_move H rfl rfl) ?_
    clear H a; intro a H
    refine e_callr H rfl rfl (by decide) (run_callv H rfl rfl (Try.call139 _ _)) (number_any g2 gr q ev.f.toNat _ (putU (zz ev.g) ++ (putU ev.args.length ++ (argsB ev.args ++ rest))) wx T2 Qd rfl (by omega)) ?_
    clear H a
    rintro e wn ⟨rfl, Qd2, Fn⟩
    replace Qd := Qd2
    clear Qd2
    replace T2 := T2.frm Fn (by simpa using hn2)
    replace T4 := T4.frm Fn (by simpa using hn4)
    replace T6 := T6.frm Fn (by simpa using hn6)
    replace F := F.tr Fn
    clear Fn
    generalize wn = wx at *
    refine ⟨_, rfl, fun a H => ?_⟩
    refine e_op H rfl rfl (by decide) (x_fieldAddr H rfl rfl (fa93_3 _ _)) ?_
    clear H a; intro a H
    refine e_st H rfl rfl (x_store H rfl rfl rfl (st_cell rfl rfl Try.sizeOf3 (T6.frozen _) (T6.isSome 3 (by simp [Evt.cells])))) ?_
    replace F := F.st g6 3 (.int .i64 ((ev.c.toNat : Nat) : Int)) (.inr (by omega))
    replace Qd := Qd.frm ((Frm.refl [g6] wx).st g6 3 (.int .i64 ((ev.c.toNat : Nat) : Int)) (.inl (by simp))) (by simpa using Ne.symm hn6) (by simp; omega)
    replace T2 := T2.far (o := 3) h26 (.int .i64 ((ev.c.toNat : Nat) : Int))
    replace T4 := T4.far (o := 3) h46 (.int .i64 ((ev.c.toNat : Nat) : Int))
    replace T6 := T6.set_ 3 (.int .i64 ((ev.c.toNat : Nat) : Int))
    generalize wx.setCell ⟨g6, 3, none⟩ (.int .i64 ((ev.c.toNat : Nat) : Int)) = wx at *
    refine e_op H rfl rfl (by decide) (x_fieldAddr H rfl rfl (fa93_4 _ _)) ?_
    clear H a; intro a H
    refine e_st H rfl rfl (x_store H rfl rfl rfl (st_cell rfl rfl Try.sizeOf3 (T6.frozen _) (T6.isSome 4 (by simp [Evt.cells])))) ?_
    replace F := F.st g6 4 (.int .i64 ((ev.d.toNat : Nat) : Int)) (.inr (by omega))
    replace Qd := Qd.frm ((Frm.refl [g6] wx).st g6 4 (.int .i64 ((ev.d.toNat : Nat) : Int)) (.inl (by simp))) (by simpa using Ne.symm hn6) (by simp; omega)
    replace T2 := T2.far (o := 4) h26 (.int .i64 ((ev.d.toNat : Nat) : Int))
    replace T4 := T4.far (o := 4) h46 (.int .i64 ((ev.d.toNat : Nat) : Int))
    replace T6 := T6.set_ 4 (.int .i64 ((ev.d.toNat : Nat) : Int))
    generalize wx.setCell ⟨g6, 4, none⟩ (.int .i64 ((ev.d.toNat : Nat) : Int)) = wx at *
    refine e_op H rfl rfl (by decide) (x_fieldAddr H rfl rfl (fa93_5 _ _)) ?_
    clear H a; intro a H
    refine e_st H rfl rfl (x_store H rfl rfl rfl (st_cell rfl rfl Try.sizeOf3 (T6.frozen _) (T6.isSome 5 (by simp [Evt.cells])))) ?_
    replace F := F.st g6 5 (.int .i64 ((ev.e.toNat : Nat) : Int)) (.inr (by omega))
    replace Qd := Qd.frm ((Frm.refl [g6] wx).st g6 5 (.int .i64 ((ev.e.toNat : Nat) : Int)) (.inl (by simp))) (by simpa using Ne.symm hn6) (by simp; omega)
    replace T2 := T2.far (o := 5) h26 (.int .i64 ((ev.e.toNat : Nat) : Int))
    replace T4 := T4.far (o := 5) h46 (.int .i64 ((ev.e.toNat : Nat) : Int))
    replace T6 := T6.set_ 5 (.int .i64 ((ev.e.toNat : Nat) : Int))
    generalize wx.setCell ⟨g6, 5, none⟩ (.int .i64 ((ev.e.toNat : Nat) : Int)) = wx at *
    refine e_op H rfl rfl (by decide) (x_fieldAddr H rfl rfl (fa93_6 _ _)) ?_
    clear H a; intro a H
    refine e_st H rfl rfl (x_store H rfl rfl rfl (st_cell rfl rfl Try.sizeOf3 (T6.frozen _) (T6.isSome 6 (by simp [Evt.cells])))) ?_
    replace F := F.st g6 6 (.int .i64 ((ev.f.toNat : Nat) : Int)) (.inr (by omega))
    replace Qd := Qd.frm ((Frm.refl [g6] wx).st g6 6 (.int .i64 ((ev.f.toNat : Nat) : Int)) (.inl (by simp))) (by simpa using Ne.symm hn6) (by simp; omega)
    replace T2 := T2.far (o := 6) h26 (.int .i64 ((ev.f.toNat : Nat) : Int))
    replace T4 := T4.far (o := 6) h46 (.int .i64 ((ev.f.toNat : Nat) : Int))
    replace T6 := T6.set_ 6 (.int .i64 ((ev.f.toNat : Nat) : Int))
    generalize wx.setCell ⟨g6, 6, none⟩ (.int .i64 ((ev.f.toNat : Nat) : Int)) = wx at *
    refine e_nil (hR.out _ _ ?_)
    clear hR R
    refine hK4 _ _ ?_
    clear hK4 K4
    refine wp_seq_k (fun K5 hK5 => ?_)
    refine e_region (fun R hR => ?_)
    refine e_op H rfl rfl (by decide) (x_load H rfl rfl (l_cell Try.isAgg111 (T2.at_ (i := 0) rfl))) ?_
    clear H a; intro a H
    refine e_callq H rfl rfl (by decide) rfl rfl (Try.call81 _) (rI_put gr q ev.g _ (putU ev.args.length ++ (argsB ev.args ++ rest)) wx Qd rfl hgr.1 hgr.2) ?_
    clear H a
    rintro e wn ⟨rfl, Qd2, Fn⟩
    replace Qd := Qd2
    clear Qd2
    replace T2 := T2.frm Fn (by simpa using hn2)
    replace T4 := T4.frm Fn (by simpa using hn4)
    replace T6 := T6.frm Fn (by simpa using hn6)
    replace F := F.tr Fn
    clear Fn
    generalize wn = wx at *
    refine ⟨_, rfl, fun a H => ?_⟩
    refine e_op H rfl rfl (by decide) (x_fieldAddr H rfl rfl (fa93_7 _ _)) ?_
    clear H a; intro a H
    refine e_st H rfl rfl (x_store H rfl rfl rfl (st_cell rfl rfl Try.sizeOf2 (T6.frozen _) (T6.isSome 7 (by simp [Evt.cells])))) ?_
    replace F := F.st g6 7 (.int .i64 ev.g) (.inr (by omega))
    replace Qd := Qd.frm ((Frm.refl [g6] wx).st g6 7 (.int .i64 ev.g) (.inl (by simp))) (by simpa using Ne.symm hn6) (by simp; omega)
    replace T2 := T2.far (o := 7) h26 (.int .i64 ev.g)
    replace T4 := T4.far (o := 7) h46 (.int .i64 ev.g)
    replace T6 := T6.set_ 7 (.int .i64 ev.g)
    generalize wx.setCell ⟨g6, 7, none⟩ (.int .i64 ev.g) = wx at *
    refine e_nil (hR.out _ _ ?_)
    clear hR R
    refine hK5 _ _ ?_
    clear hK5 K5
    refine wp_seq_k (fun K6 hK6 => ?_)
    refine wp_seq_k (fun K7 hK7 => ?_)
    refine e_region (fun R hR => ?_)
    refine e_op H rfl rfl (by decide) (x_load H rfl rfl (l_cell Try.isAgg111 (T2.at_ (i := 0) rfl))) ?_
    clear H a; intro a H
    refine e_callq H rfl rfl (by decide) rfl rfl (Try.call78 _) (rU_put gr q ev.args.length 4 _ (argsB ev.args ++ rest) wx Qd rfl (by omega) h4 (by omega)) ?_
    clear H a
    rintro e wn ⟨rfl, Qd2, Fn⟩
    replace Qd := Qd2
    clear Qd2
    replace T2 := T2.frm Fn (by simpa using hn2)
    replace T4 := T4.frm Fn (by simpa using hn4)
    replace T6 := T6.frm Fn (by simpa using hn6)
    replace F := F.tr Fn
    clear Fn
    generalize wn = wx at *
    refine ⟨_, rfl, fun a H => ?_⟩
    refine e_op H rfl rfl (by decide) (x_move H rfl rfl) ?_
    clear H a; intro a H
    refine e_nil (hR.out _ _ ?_)
    clear hR R
    refine hK7 _ _ ?_
    clear hK7 K7
    refine wp_block ?_
    refine wp_loop_ghost (fun n a wx => ∃ i ua uc, i ≤ ev.args.length ∧ n = ev.args.length - i ∧ Has a 43 [(2, .pointer (some ⟨g2, 0, none⟩)), (4, .pointer (some ⟨g4, 0, none⟩)), (6, .pointer (some ⟨g6, 0, none⟩)), (31, .int .u64 ((ev.args.length : Nat) : Int)), (32, .int .u64 (i : Int))] ∧ Rd wx gr q (argsB (ev.args.drop i) ++ rest) 0 ∧ Blk wx g2 111 [.pointer (some ⟨gr, 0, none⟩)] ∧ Blk wx g4 93 (evt0.cells (.slice none 0 0)) ∧ Blk wx g6 93 (ev.cells (.slice ua i uc)) ∧ Zw wx w0.heap.size (.slice ua i uc) (ev.args.take i) ∧ Frm [gr] w0 wx) (ev.args.length) ?_ ?_
    · skip
      have hT6 : Blk wx g6 93 (ev.cells (.slice none 0 0)) := by
        have := T6
        unfold Evt.cells at this ⊢
        simp only [List.set_cons_zero, List.set_cons_succ, hC, hD, hE, hF2] at this
        exact this
      replace T6 := hT6
      exact ⟨0, none, 0, by omega, rfl, H.sub ⟨rfl, rfl, rfl, rfl, rfl, trivial⟩, Qd, T2, T4, T6, Zw.nil _ _, F⟩
    · skip
      clear H Qd T2 T4 T6 F
      intro n a wx hI
      obtain ⟨i, ua, uc, hi, rfl, H, Qd, T2, T4, T6, Z, F⟩ := hI
      rcases (show i < ev.args.length ∨ i = ev.args.length by omega) with hlt | rfl
      · skip
        have htk : (ev.args.take i).length = i := by rw [List.length_take]; omega
        refine wp_seq_k (fun K8 hK8 => ?_)
        refine e_region (fun R hR => ?_)
        refine e_op H rfl rfl (by decide) (x_binI H rfl rfl rfl (b_lss (b := true) (dec_t (by omega)))) ?_
        clear H a; intro a H
        refine e_nil (hR.out _ _ ?_)
        clear hR R
        refine hK8 _ _ ?_
        clear hK8 K8
        refine wp_seq_k (fun K9 hK9 => ?_)
        refine c_true H rfl ?_
        refine wp_skip ?_
        refine hK9 _ _ ?_
        clear hK9 K9
        refine wp_seq_k (fun K10 hK10 => ?_)
        refine wp_block ?_
        obtain ⟨wy, hwy⟩ : ∃ wy, wy = wx.drew := ⟨_, rfl⟩
        have hwd2 : Ext wx wy := by rw [hwy]; exact (Ext.refl _).dr
        replace F := F.tr hwd2.frm
        replace Qd := Qd.ext hwd2
        replace T2 := T2.ext hwd2
        replace T4 := T4.ext hwd2
        replace T6 := T6.ext hwd2
        replace Z := Z.ext hwd2
        clear hwd2
        obtain ⟨wd, hwd⟩ : ∃ wd, wd = wy := ⟨_, rfl⟩
        have T20 : Blk wd g2 111 [.pointer (some ⟨gr, 0, none⟩)] := by rw [hwd]; exact T2
        have FSq : Frm (gr :: g6 :: (Value.slice ua i uc).ownBlock.toList) wd wy := by rw [hwd]; exact Frm.refl _ _
        clear hwd
        have hown : ∀ t cs k, Blk wy k t cs → t ≠ 2 → k ∉ (Value.slice ua i uc).ownBlock.toList := fun t cs k hB ht hk => by
          obtain ⟨_, _, cur, hc⟩ := Z.blk k (by simpa using hk)
          exact hB.nt ht _ _ hc
        have hn20 : g2 ∉ gr :: g6 :: (Value.slice ua i uc).ownBlock.toList := by
          simp only [List.mem_cons, not_or]
          exact ⟨hn2, h26, hown _ _ _ T2 (by decide)⟩
        have hzl : (ev.args[i]?.getD 0) = ev.args[i]?.getD 0 := rfl
        rw [argsB_cons _ _ hlt, List.append_assoc] at Qd
        have hz1 := hargs i
        have Qd0 := Qd
        
        refine Code.wp_mono (Q := fun e a w => e = Exit.normal ∧ ∃ ua uc, Has a 43 [(2, .pointer (some ⟨g2, 0, none⟩)), (4, .pointer (some ⟨g4, 0, none⟩)), (6, .pointer (some ⟨g6, 0, none⟩)), (31, .int .u64 ((ev.args.length : Nat) : Int)), (32, .int .u64 (i : Int))] ∧ Rd w gr q (argsB (ev.args.drop (i + 1)) ++ rest) 0 ∧ Blk w g2 111 [.pointer (some ⟨gr, 0, none⟩)] ∧ Blk w g4 93 (evt0.cells (.slice none 0 0)) ∧ Blk w g6 93 (ev.cells (.slice ua (i + 1) uc)) ∧ Zw w w0.heap.size (.slice ua (i + 1) uc) (ev.args.take (i + 1)) ∧ Frm [gr] w0 w) (fun e a w hM => ?_) ?_
        · skip
          clear H Qd T2 T4 T6 Z F
          obtain ⟨rfl, ub, uc2, H, Qd, T2, T4, T6, Z, F⟩ := hM
          generalize hwx : w = wx at *
          clear hwx
          refine hK10 _ _ ?_
          clear hK10 K10
          refine e_region (fun R hR => ?_)
          refine e_op H rfl rfl (by decide) (x_binI H rfl rfl rfl (b_add (z := ((i + 1 : Nat) : Int)) (by rw [IntKind.wrap_u64]; omega))) ?_
          clear H a; intro a H
          refine e_op H rfl rfl (by decide) (x_move H rfl rfl) ?_
          clear H a; intro a H
          refine e_nil (hR.out _ _ ?_)
          clear hR R
          exact ⟨ev.args.length - (i + 1), by omega, i + 1, ub, uc2, by omega, rfl, H.sub ⟨rfl, rfl, rfl, rfl, rfl, trivial⟩, Qd, T2, T4, T6, Z, F⟩
        · skip
          refine g_start (fun w' => Frm (gr :: g6 :: (Value.slice ua i uc).ownBlock.toList) wd w') (by kernel_rfl) (fun R hR => ?_)
          rw [← hwy]
          refine g_take 0 H rfl (wanted_none rfl) rfl (by decide) (by kernel_rfl) (by kernel_rfl) (by kernel_rfl) FSq (fun w' hSw => (x_fieldAddr H rfl rfl (fa93_8 _ _))) ?_
          clear H a; intro a H
          refine g_take 2 H rfl (wanted_none rfl) rfl (by decide) (by kernel_rfl) (by kernel_rfl) (by kernel_rfl) FSq (fun w' hSw => (x_load H rfl rfl (l_cell Try.isAgg111 ((T20.frm hSw hn20).at_ (i := 0) rfl)))) ?_
          clear H a; intro a H
          refine g_twoc 1 3 H (by kernel_rfl) rfl (wanted_none rfl) rfl (by decide) (x_load H rfl rfl (l_cell Try.isAgg91 (T6.at_ (i := 8) rfl))) (FSq) rfl (wanted_none rfl) rfl (by decide) rfl rfl (Try.call81 _) (rI_put gr q (ev.args[i]?.getD 0) _ _ wy Qd rfl hz1.1 hz1.2) ?_ ?_
          · skip
            clear H a; intro a H
            refine g_call 3 H rfl (by kernel_rfl) (wanted_none rfl) rfl (by decide) rfl rfl (Try.call81 _) (rI_put gr q (ev.args[i]?.getD 0) _ _ wy Qd rfl hz1.1 hz1.2) ?_
            clear H a
            rintro e wn ⟨rfl, Qd2, Fn⟩
            replace Qd := Qd2
            clear Qd2
            replace T2 := T2.frm Fn (by simpa using hn2)
            replace T4 := T4.frm Fn (by simpa using hn4)
            replace T6 := T6.frm Fn (by simpa using hn6)
            replace Z := Z.frm Fn (by simp only [List.mem_singleton]; rintro b rfl cur e; exact rd_no2 Qd0 _ _ e)
            replace F := F.tr Fn
            replace FSq := FSq.tr (Fn.mono (by simp))
            clear Fn
            generalize wn = wy at *
            refine ⟨_, rfl, FSq, fun a H => ?_⟩
            refine g_op 4 H rfl (by kernel_rfl) (wanted_none rfl) rfl (by decide) (x_buildSlice H rfl rfl (bs91 _ _)) (FSq.al _) ?_
            clear H a; intro a H
            replace F := F.al (.cells #[.int .i64 (ev.args[i]?.getD 0)] 2)
            replace FSq := FSq.al (.cells #[.int .i64 (ev.args[i]?.getD 0)] 2)
            have E9 := (Ext.refl wy).al (.cells #[.int .i64 (ev.args[i]?.getD 0)] 2)
            replace Qd := Qd.ext E9
            replace T2 := T2.ext E9
            replace T4 := T4.ext E9
            replace T6 := T6.ext E9
            have hrow := (Z.ext E9).1
            rw [htk] at hrow
            have hszy : w0.heap.size ≤ (wy.alloc (.cells #[.int .i64 (ev.args[i]?.getD 0)] 2)).heap.size := F.size
            obtain ⟨g9, c9, wq, hr9, hO9, hG9⟩ := run_appE el91 (wy.alloc (.cells #[.int .i64 (ev.args[i]?.getD 0)] 2)) 91 w0.heap.size ua i uc (i64s (ev.args.take i)) wy.heap.size 1 1 [.int .i64 (ev.args[i]?.getD 0)] hrow rfl (news_new wy [.int .i64 (ev.args[i]?.getD 0)] 2) (by intro u hu; rw [List.mem_singleton.1 hu]; rfl) (by omega) (by omega) hszy (by omega)
            have hne2 : some g2 ≠ (Value.slice ua i uc).ownBlock := own_blk_ne hrow T2 (by decide)
            have hne4 : some g4 ≠ (Value.slice ua i uc).ownBlock := own_blk_ne hrow T4 (by decide)
            have hne6 : some g6 ≠ (Value.slice ua i uc).ownBlock := own_blk_ne hrow T6 (by decide)
            have hoF : ∀ k, (Value.slice ua i uc).ownBlock = some k → w0.heap.size ≤ k := fun k hk => ((Sr.of hrow).blk k hk).1
            have FN : Frm (Value.slice ua i uc).ownBlock.toList (wy.alloc (.cells #[.int .i64 (ev.args[i]?.getD 0)] 2)) wq := (Frm.refl _ _).grown hG9 (fun k hk => .inl (by simp [hk]))
            have Qd9 : Rd wq gr q (argsB (ev.args.drop (i + 1)) ++ rest) 0 := Qd.frm FN (fun hm => by have := hoF gr (by simpa using hm); omega) (fun hm => by have := hoF q (by simpa using hm); omega)
            have F9 := F.grown hG9 (fun k hk => .inr (hoF k hk))
            have FS9 : Frm (gr :: g6 :: (Value.slice ua i uc).ownBlock.toList) wd wq := FSq.tr (FN.mono (fun x hx => by simp only [List.mem_cons]; exact .inr (.inr hx)))
            have Z9 : Zw wq w0.heap.size (.slice (some ⟨g9, 0, none⟩) (i + 1) c9) (ev.args.take (i + 1)) := by
              refine ⟨?_, by rw [List.length_take]; omega⟩
              rw [List.length_take, Nat.min_eq_left (by omega), List.take_add_one, show ev.args[i]?.toList = [ev.args[i]?.getD 0] by rw [List.getElem?_eq_getElem hlt]; rfl, show i64s (ev.args.take i ++ [ev.args[i]?.getD 0]) = i64s (ev.args.take i) ++ [.int .i64 (ev.args[i]?.getD 0)] by unfold i64s; rw [List.map_append]; rfl]
              exact hO9
            refine g_op 5 H rfl (by kernel_rfl) (wanted_none rfl) rfl (by decide) (x_builtin H rfl rfl (fun cs => bi_app hr9)) (FS9) ?_
            clear H a; intro a H
            replace T2 := T2.grown hG9 hne2
            replace T4 := T4.grown hG9 hne4
            replace T6 := T6.grown hG9 hne6
            clear Qd F hG9 hr9 hO9 hrow E9 Z FN
            refine g_take 6 H rfl (wanted_none rfl) rfl (by decide) (by kernel_rfl) (by kernel_rfl) (by kernel_rfl) FS9 (fun w' hSw => (x_fieldAddr H rfl rfl (fa93_8 _ _))) ?_
            clear H a; intro a H
            refine g_st 7 H rfl (by kernel_rfl) (wanted_none rfl) rfl (x_store H rfl rfl rfl (st_cell rfl rfl Try.sizeOf91 (T6.frozen _) (T6.isSome 8 (by simp [Evt.cells])))) (FS9.st g6 8 _ (.inl (by simp))) ?_
            have F := F9.st g6 8 (.slice (some ⟨g9, 0, none⟩) (i + 1) c9) (.inr (by omega))
            have Qd := Qd9.frm ((Frm.refl [g6] wq).st g6 8 (.slice (some ⟨g9, 0, none⟩) (i + 1) c9) (.inl (by simp))) (by simpa using Ne.symm hn6) (by simp; omega)
            have Z := Z9.set T6 (by decide) 8 (.slice (some ⟨g9, 0, none⟩) (i + 1) c9)
            replace T2 := T2.far (o := 8) h26 (.slice (some ⟨g9, 0, none⟩) (i + 1) c9)
            replace T4 := T4.far (o := 8) h46 (.slice (some ⟨g9, 0, none⟩) (i + 1) c9)
            replace T6 := T6.set_ 8 (.slice (some ⟨g9, 0, none⟩) (i + 1) c9)
            generalize wq.setCell ⟨g6, 8, none⟩ (.slice (some ⟨g9, 0, none⟩) (i + 1) c9) = wq at *
            refine g_done (by kernel_rfl) (hR.out _ _ ?_)
            clear hR R
            exact ⟨rfl, some ⟨g9, 0, none⟩, c9, H.sub ⟨rfl, rfl, rfl, rfl, rfl, trivial⟩, Qd, T2, T4, T6, Z, F⟩
          · skip
            clear H a
            rintro e wn ⟨rfl, Qd2, Fn⟩
            replace Qd := Qd2
            clear Qd2
            replace T2 := T2.frm Fn (by simpa using hn2)
            replace T4 := T4.frm Fn (by simpa using hn4)
            replace T6 := T6.frm Fn (by simpa using hn6)
            replace Z := Z.frm Fn (by simp only [List.mem_singleton]; rintro b rfl cur e; exact rd_no2 Qd0 _ _ e)
            replace F := F.tr Fn
            replace FSq := FSq.tr (Fn.mono (by simp))
            clear Fn
            generalize wn = wy at *
            refine ⟨_, rfl, FSq, fun a H => ?_⟩
            refine g_two 1 4 H (by kernel_rfl) rfl (wanted_none rfl) rfl (by decide) (x_load H rfl rfl (l_cell Try.isAgg91 (T6.at_ (i := 8) rfl))) (FSq) rfl (wanted_none rfl) rfl (by decide) (x_buildSlice H rfl rfl (bs91 _ _)) (FSq.al _) ?_ ?_
            · skip
              clear H a; intro a H
              refine g_op 4 H rfl (by kernel_rfl) (wanted_none rfl) rfl (by decide) (x_buildSlice H rfl rfl (bs91 _ _)) (FSq.al _) ?_
              clear H a; intro a H
              replace F := F.al (.cells #[.int .i64 (ev.args[i]?.getD 0)] 2)
              replace FSq := FSq.al (.cells #[.int .i64 (ev.args[i]?.getD 0)] 2)
              have E9 := (Ext.refl wy).al (.cells #[.int .i64 (ev.args[i]?.getD 0)] 2)
              replace Qd := Qd.ext E9
              replace T2 := T2.ext E9
              replace T4 := T4.ext E9
              replace T6 := T6.ext E9
              have hrow := (Z.ext E9).1
              rw [htk] at hrow
              have hszy : w0.heap.size ≤ (wy.alloc (.cells #[.int .i64 (ev.args[i]?.getD 0)] 2)).heap.size := F.size
              obtain ⟨g9, c9, wq, hr9, hO9, hG9⟩ := run_appE el91 (wy.alloc (.cells #[.int .i64 (ev.args[i]?.getD 0)] 2)) 91 w0.heap.size ua i uc (i64s (ev.args.take i)) wy.heap.size 1 1 [.int .i64 (ev.args[i]?.getD 0)] hrow rfl (news_new wy [.int .i64 (ev.args[i]?.getD 0)] 2) (by intro u hu; rw [List.mem_singleton.1 hu]; rfl) (by omega) (by omega) hszy (by omega)
              have hne2 : some g2 ≠ (Value.slice ua i uc).ownBlock := own_blk_ne hrow T2 (by decide)
              have hne4 : some g4 ≠ (Value.slice ua i uc).ownBlock := own_blk_ne hrow T4 (by decide)
              have hne6 : some g6 ≠ (Value.slice ua i uc).ownBlock := own_blk_ne hrow T6 (by decide)
              have hoF : ∀ k, (Value.slice ua i uc).ownBlock = some k → w0.heap.size ≤ k := fun k hk => ((Sr.of hrow).blk k hk).1
              have FN : Frm (Value.slice ua i uc).ownBlock.toList (wy.alloc (.cells #[.int .i64 (ev.args[i]?.getD 0)] 2)) wq := (Frm.refl _ _).grown hG9 (fun k hk => .inl (by simp [hk]))
              have Qd9 : Rd wq gr q (argsB (ev.args.drop (i + 1)) ++ rest) 0 := Qd.frm FN (fun hm => by have := hoF gr (by simpa using hm); omega) (fun hm => by have := hoF q (by simpa using hm); omega)
              have F9 := F.grown hG9 (fun k hk => .inr (hoF k hk))
              have FS9 : Frm (gr :: g6 :: (Value.slice ua i uc).ownBlock.toList) wd wq := FSq.tr (FN.mono (fun x hx => by simp only [List.mem_cons]; exact .inr (.inr hx)))
              have Z9 : Zw wq w0.heap.size (.slice (some ⟨g9, 0, none⟩) (i + 1) c9) (ev.args.take (i + 1)) := by
                refine ⟨?_, by rw [List.length_take]; omega⟩
                rw [List.length_take, Nat.min_eq_left (by omega), List.take_add_one, show ev.args[i]?.toList = [ev.args[i]?.getD 0] by rw [List.getElem?_eq_getElem hlt]; rfl, show i64s (ev.args.take i ++ [ev.args[i]?.getD 0]) = i64s (ev.args.take i) ++ [.int .i64 (ev.args[i]?.getD 0)] by unfold i64s; rw [List.map_append]; rfl]
                exact hO9
              refine g_op 5 H rfl (by kernel_rfl) (wanted_none rfl) rfl (by decide) (x_builtin H rfl rfl (fun cs => bi_app hr9)) (FS9) ?_
              clear H a; intro a H
              replace T2 := T2.grown hG9 hne2
              replace T4 := T4.grown hG9 hne4
              replace T6 := T6.grown hG9 hne6
              clear Qd F hG9 hr9 hO9 hrow E9 Z FN
              refine g_take 6 H rfl (wanted_none rfl) rfl (by decide) (by kernel_rfl) (by kernel_rfl) (by kernel_rfl) FS9 (fun w' hSw => (x_fieldAddr H rfl rfl (fa93_8 _ _))) ?_
              clear H a; intro a H
              refine g_st 7 H rfl (by kernel_rfl) (wanted_none rfl) rfl (x_store H rfl rfl rfl (st_cell rfl rfl Try.sizeOf91 (T6.frozen _) (T6.isSome 8 (by simp [Evt.cells])))) (FS9.st g6 8 _ (.inl (by simp))) ?_
              have F := F9.st g6 8 (.slice (some ⟨g9, 0, none⟩) (i + 1) c9) (.inr (by omega))
              have Qd := Qd9.frm ((Frm.refl [g6] wq).st g6 8 (.slice (some ⟨g9, 0, none⟩) (i + 1) c9) (.inl (by simp))) (by simpa using Ne.symm hn6) (by simp; omega)
              have Z := Z9.set T6 (by decide) 8 (.slice (some ⟨g9, 0, none⟩) (i + 1) c9)
              replace T2 := T2.far (o := 8) h26 (.slice (some ⟨g9, 0, none⟩) (i + 1) c9)
              replace T4 := T4.far (o := 8) h46 (.slice (some ⟨g9, 0, none⟩) (i + 1) c9)
              replace T6 := T6.set_ 8 (.slice (some ⟨g9, 0, none⟩) (i + 1) c9)
              generalize wq.setCell ⟨g6, 8, none⟩ (.slice (some ⟨g9, 0, none⟩) (i + 1) c9) = wq at *
              refine g_done (by kernel_rfl) (hR.out _ _ ?_)
              clear hR R
              exact ⟨rfl, some ⟨g9, 0, none⟩, c9, H.sub ⟨rfl, rfl, rfl, rfl, rfl, trivial⟩, Qd, T2, T4, T6, Z, F⟩
            · skip
              clear H a; intro a H
              replace F := F.al (.cells #[.int .i64 (ev.args[i]?.getD 0)] 2)
              replace FSq := FSq.al (.cells #[.int .i64 (ev.args[i]?.getD 0)] 2)
              have E9 := (Ext.refl wy).al (.cells #[.int .i64 (ev.args[i]?.getD 0)] 2)
              replace Qd := Qd.ext E9
              replace T2 := T2.ext E9
              replace T4 := T4.ext E9
              replace T6 := T6.ext E9
              have hrow := (Z.ext E9).1
              rw [htk] at hrow
              have hszy : w0.heap.size ≤ (wy.alloc (.cells #[.int .i64 (ev.args[i]?.getD 0)] 2)).heap.size := F.size
              obtain ⟨g9, c9, wq, hr9, hO9, hG9⟩ := run_appE el91 (wy.alloc (.cells #[.int .i64 (ev.args[i]?.getD 0)] 2)) 91 w0.heap.size ua i uc (i64s (ev.args.take i)) wy.heap.size 1 1 [.int .i64 (ev.args[i]?.getD 0)] hrow rfl (news_new wy [.int .i64 (ev.args[i]?.getD 0)] 2) (by intro u hu; rw [List.mem_singleton.1 hu]; rfl) (by omega) (by omega) hszy (by omega)
              have hne2 : some g2 ≠ (Value.slice ua i uc).ownBlock := own_blk_ne hrow T2 (by decide)
              have hne4 : some g4 ≠ (Value.slice ua i uc).ownBlock := own_blk_ne hrow T4 (by decide)
              have hne6 : some g6 ≠ (Value.slice ua i uc).ownBlock := own_blk_ne hrow T6 (by decide)
              have hoF : ∀ k, (Value.slice ua i uc).ownBlock = some k → w0.heap.size ≤ k := fun k hk => ((Sr.of hrow).blk k hk).1
              have FN : Frm (Value.slice ua i uc).ownBlock.toList (wy.alloc (.cells #[.int .i64 (ev.args[i]?.getD 0)] 2)) wq := (Frm.refl _ _).grown hG9 (fun k hk => .inl (by simp [hk]))
              have Qd9 : Rd wq gr q (argsB (ev.args.drop (i + 1)) ++ rest) 0 := Qd.frm FN (fun hm => by have := hoF gr (by simpa using hm); omega) (fun hm => by have := hoF q (by simpa using hm); omega)
              have F9 := F.grown hG9 (fun k hk => .inr (hoF k hk))
              have FS9 : Frm (gr :: g6 :: (Value.slice ua i uc).ownBlock.toList) wd wq := FSq.tr (FN.mono (fun x hx => by simp only [List.mem_cons]; exact .inr (.inr hx)))
              have Z9 : Zw wq w0.heap.size (.slice (some ⟨g9, 0, none⟩) (i + 1) c9) (ev.args.take (i + 1)) := by
                refine ⟨?_, by rw [List.length_take]; omega⟩
                rw [List.length_take, Nat.min_eq_left (by omega), List.take_add_one, show ev.args[i]?.toList = [ev.args[i]?.getD 0] by rw [List.getElem?_eq_getElem hlt]; rfl, show i64s (ev.args.take i ++ [ev.args[i]?.getD 0]) = i64s (ev.args.take i) ++ [.int .i64 (ev.args[i]?.getD 0)] by unfold i64s; rw [List.map_append]; rfl]
                exact hO9
              refine g_op 1 H rfl (by kernel_rfl) (wanted_none rfl) rfl (by decide) (x_load H rfl rfl (l_cell Try.isAgg91 (T6.at_ (i := 8) rfl))) (FSq) ?_
              clear H a; intro a H
              refine g_op 5 H rfl (by kernel_rfl) (wanted_none rfl) rfl (by decide) (x_builtin H rfl rfl (fun cs => bi_app hr9)) (FS9) ?_
              clear H a; intro a H
              replace T2 := T2.grown hG9 hne2
              replace T4 := T4.grown hG9 hne4
              replace T6 := T6.grown hG9 hne6
              clear Qd F hG9 hr9 hO9 hrow E9 Z FN
              refine g_take 6 H rfl (wanted_none rfl) rfl (by decide) (by kernel_rfl) (by kernel_rfl) (by kernel_rfl) FS9 (fun w' hSw => (x_fieldAddr H rfl rfl (fa93_8 _ _))) ?_
              clear H a; intro a H
              refine g_st 7 H rfl (by kernel_rfl) (wanted_none rfl) rfl (x_store H rfl rfl rfl (st_cell rfl rfl Try.sizeOf91 (T6.frozen _) (T6.isSome 8 (by simp [Evt.cells])))) (FS9.st g6 8 _ (.inl (by simp))) ?_
              have F := F9.st g6 8 (.slice (some ⟨g9, 0, none⟩) (i + 1) c9) (.inr (by omega))
              have Qd := Qd9.frm ((Frm.refl [g6] wq).st g6 8 (.slice (some ⟨g9, 0, none⟩) (i + 1) c9) (.inl (by simp))) (by simpa using Ne.symm hn6) (by simp; omega)
              have Z := Z9.set T6 (by decide) 8 (.slice (some ⟨g9, 0, none⟩) (i + 1) c9)
              replace T2 := T2.far (o := 8) h26 (.slice (some ⟨g9, 0, none⟩) (i + 1) c9)
              replace T4 := T4.far (o := 8) h46 (.slice (some ⟨g9, 0, none⟩) (i + 1) c9)
              replace T6 := T6.set_ 8 (.slice (some ⟨g9, 0, none⟩) (i + 1) c9)
              generalize wq.setCell ⟨g6, 8, none⟩ (.slice (some ⟨g9, 0, none⟩) (i + 1) c9) = wq at *
              refine g_done (by kernel_rfl) (hR.out _ _ ?_)
              clear hR R
              exact ⟨rfl, some ⟨g9, 0, none⟩, c9, H.sub ⟨rfl, rfl, rfl, rfl, rfl, trivial⟩, Qd, T2, T4, T6, Z, F⟩
      · skip
        rw [List.drop_length, List.take_length] at *
        refine wp_seq_k (fun K11 hK11 => ?_)
        refine e_region (fun R hR => ?_)
        refine e_op H rfl rfl (by decide) (x_binI H rfl rfl rfl (b_lss (b := false) (dec_f (by omega)))) ?_
        clear H a; intro a H
        refine e_nil (hR.out _ _ ?_)
        clear hR R
        refine hK11 _ _ ?_
        clear hK11 K11
        refine wp_seq_k (fun K12 hK12 => ?_)
        refine c_false H rfl ?_
        refine wp_exit ?_
        refine t_exit ?_
        refine t_exit ?_
        refine b_hit ?_
        clear hK12 K12
        refine hK6 _ _ ?_
        clear hK6 K6
        refine wp_seq_k (fun K13 hK13 => ?_)
        refine e_region (fun R hR => ?_)
        refine e_op H rfl rfl (by decide) (x_load H rfl rfl (l_row T6 Try.underlying93 rfl (by kernel_rfl))) ?_
        clear H a; intro a H
        refine e_st H rfl rfl (x_store H rfl rfl rfl (st_row T4 (by kernel_rfl) (by rfl) (by rw [Array.all_eq_true']; intro z hz; exact evt_one _ ua _ uc z (by simpa using hz)))) ?_
        refine e_nil (hR.out _ _ ?_)
        clear hR R
        refine hK13 _ _ ?_
        clear hK13 K13
        refine wp_ret ?_
        exact retc H rfl rfl (setRow_heap _ _ _ _ 93 (0, 0) T4) Try.underlying93 rfl (by kernel_rfl) ⟨ua, uc, rfl, Z.row T4 (by decide) _, Qd.frm ((Frm.refl [g4] wx).grown (grown_setRow wx g4 _) (fun k e => by cases e; exact .inl (by simp))) (by simpa using Ne.symm hn4) (by simp; omega), F.grown (grown_setRow wx g4 _) (fun k e => by cases e; exact .inr hlow4)⟩
  · skip
    refine g_start (fun w' => Frm [gr] wd w') (by kernel_rfl) (fun R hR => ?_)
    rw [← hwx]
    refine g_take 0 H rfl (wanted_none rfl) rfl (by decide) (by kernel_rfl) (by kernel_rfl) (by kernel_rfl) FSq (fun w' hSw => (x_move H rfl rfl)) ?_
    clear H a; intro a H
    refine g_take 1 H rfl (wanted_none rfl) rfl (by decide) (by kernel_rfl) (by kernel_rfl) (by kernel_rfl) FSq (fun w' hSw => (x_move H rfl rfl)) ?_
    clear H a; intro a H
    refine g_take 3 H rfl (wanted_none rfl) rfl (by decide) (by kernel_rfl) (by kernel_rfl) (by kernel_rfl) FSq (fun w' hSw => (x_load H rfl rfl (l_cell Try.isAgg111 ((T20.frm hSw (by simpa using hn2)).at_ (i := 0) rfl)))) ?_
    clear H a; intro a H
    refine g_twor2 2 7 H (by kernel_rfl) rfl (wanted_none rfl) rfl (by decide) (run_callv H rfl rfl (Try.call139 _ _)) (number_any g2 gr q ev.a.toNat _ (putU ev.kind ++ (putU ev.c.toNat ++ (putU ev.d.toNat ++ (putU ev.e.toNat ++ (putU ev.f.toNat ++ (putU (zz ev.g) ++ (putU ev.args.length ++ (argsB ev.args ++ rest)))))))) wx T2 Qd rfl (by omega)) rfl (wanted_none rfl) rfl (by decide) (x_alloc H rfl (al_new (z93 _))) (FSq.al _) ?_ ?_
    · skip
      clear H a
      rintro e wn ⟨rfl, Qd2, Fn⟩
      replace Qd := Qd2
      clear Qd2
      replace T2 := T2.frm Fn (by simpa using hn2)
      replace T4 := T4.frm Fn (by simpa using hn4)
      try replace T6 := T6.frm Fn (by simpa using hn6)
      replace F := F.tr Fn
      replace FSq := FSq.tr Fn
      clear Fn
      generalize wn = wx at *
      refine ⟨_, rfl, FSq, fun a H => ?_⟩
      rw [hA] at H
      refine g_twoc2 4 7 H (by kernel_rfl) rfl (wanted_none rfl) rfl (by decide) rfl rfl (Try.call78 _) (rU_put gr q ev.kind 255 _ (putU ev.c.toNat ++ (putU ev.d.toNat ++ (putU ev.e.toNat ++ (putU ev.f.toNat ++ (putU (zz ev.g) ++ (putU ev.args.length ++ (argsB ev.args ++ rest))))))) wx Qd rfl (by omega) (by omega) (by omega)) rfl (wanted_none rfl) rfl (by decide) (x_alloc H rfl (al_new (z93 _))) (FSq.al _) ?_ ?_
      · skip
        clear H a
        rintro e wn ⟨rfl, Qd2, Fn⟩
        replace Qd := Qd2
        clear Qd2
        replace T2 := T2.frm Fn (by simpa using hn2)
        replace T4 := T4.frm Fn (by simpa using hn4)
        try replace T6 := T6.frm Fn (by simpa using hn6)
        replace F := F.tr Fn
        replace FSq := FSq.tr Fn
        clear Fn
        generalize wn = wx at *
        refine ⟨_, rfl, FSq, fun a H => ?_⟩
        refine g_take 5 H rfl (wanted_none rfl) rfl (by decide) (by kernel_rfl) (by kernel_rfl) (by kernel_rfl) FSq (fun w' hSw => (x_conv H rfl rfl (c_int (z := (ev.kind : Int)) Try.underlying56 Try.underlying90 (by rw [IntKind.wrap_u8]; omega)))) ?_
        clear H a; intro a H
        refine g_take 6 H rfl (wanted_none rfl) rfl (by decide) (by kernel_rfl) (by kernel_rfl) (by kernel_rfl) FSq (fun w' hSw => (x_build H rfl rfl (bldev3 _ _ _ _))) ?_
        clear H a; intro a H
        refine g_op 7 H rfl (by kernel_rfl) (wanted_none rfl) rfl (by decide) (x_alloc H rfl (al_new (z93 _))) (FSq.al _) ?_
        clear H a; intro a H
        have T6 := Blk.new wx 93 (evt0.cells (.slice none 0 0))
        have hn6 : wx.heap.size ≠ gr := by have := (rdB_lt Qd).1; omega
        have hlow6 : wd.heap.size ≤ wx.heap.size := FSq.size
        have h46 : g4 ≠ wx.heap.size := by have := T4.lt; omega
        have h26 : g2 ≠ wx.heap.size := by have := T2.lt; omega
        replace F := F.al (.cells (evt0.cells (.slice none 0 0)).toArray 93)
        replace Qd := Qd.ext ((Ext.refl wx).al (.cells (evt0.cells (.slice none 0 0)).toArray 93))
        replace T2 := T2.alloc (.cells (evt0.cells (.slice none 0 0)).toArray 93)
        replace T4 := T4.alloc (.cells (evt0.cells (.slice none 0 0)).toArray 93)
        replace FSq := FSq.al (.cells (evt0.cells (.slice none 0 0)).toArray 93)
        have hlt6 : wx.heap.size < (wx.alloc (.cells (evt0.cells (.slice none 0 0)).toArray 93)).heap.size := T6.lt
        obtain ⟨g6, hg6⟩ : ∃ g, g = wx.heap.size := ⟨_, rfl⟩
        rw [← hg6] at H T6 hn6 hlow6 h46 h26 hlt6
        clear hg6
        generalize wx.alloc (.cells (evt0.cells (.slice none 0 0)).toArray 93) = wx at *
        refine g_st 8 H rfl (by kernel_rfl) (wanted_none rfl) rfl (x_store H rfl rfl rfl (st_row T6 (by kernel_rfl) (by rfl) (by rw [Array.all_eq_true']; intro z hz; exact evt_one _ none 0 0 z (by simpa using hz)))) (FSq.grown (grown_setRow wx g6 _) (fun k e => by cases e; exact .inr (by omega))) ?_
        replace F := F.grown (grown_setRow wx g6 ((⟨ev.a, ev.comp, ev.kind, 0, 0, 0, 0, 0, []⟩ : Evt).cells (.slice none 0 0)).toArray) (fun k e => by cases e; exact .inr (by omega))
        have F6 : Frm [g6] wx (wx.setRow g6 ((⟨ev.a, ev.comp, ev.kind, 0, 0, 0, 0, 0, []⟩ : Evt).cells (.slice none 0 0)).toArray) := (Frm.refl [g6] wx).grown (grown_setRow wx g6 _) (fun k e => by cases e; exact .inl (by simp))
        replace Qd := Qd.frm F6 (by simpa using Ne.symm hn6) (by simp; omega)
        replace T2 := T2.frm F6 (by simpa using h26)
        replace T4 := T4.frm F6 (by simpa using h46)
        replace T6 := T6.row ((⟨ev.a, ev.comp, ev.kind, 0, 0, 0, 0, 0, []⟩ : Evt).cells (.slice none 0 0))
        clear F6 FSq
        generalize wx.setRow g6 ((⟨ev.a, ev.comp, ev.kind, 0, 0, 0, 0, 0, []⟩ : Evt).cells (.slice none 0 0)).toArray = wx at *
        refine g_done (by kernel_rfl) (hR.out _ _ ?_)
        clear hR R
        exact ⟨rfl, g6, H.sub ⟨rfl, rfl, rfl, rfl, trivial⟩, Qd, T2, T4, T6, F, hn6, by omega, h46, h26⟩
      · skip
        clear H a; intro a H
        have T6 := Blk.new wx 93 (evt0.cells (.slice none 0 0))
        have hn6 : wx.heap.size ≠ gr := by have := (rdB_lt Qd).1; omega
        have hlow6 : wd.heap.size ≤ wx.heap.size := FSq.size
        have h46 : g4 ≠ wx.heap.size := by have := T4.lt; omega
        have h26 : g2 ≠ wx.heap.size := by have := T2.lt; omega
        replace F := F.al (.cells (evt0.cells (.slice none 0 0)).toArray 93)
        replace Qd := Qd.ext ((Ext.refl wx).al (.cells (evt0.cells (.slice none 0 0)).toArray 93))
        replace T2 := T2.alloc (.cells (evt0.cells (.slice none 0 0)).toArray 93)
        replace T4 := T4.alloc (.cells (evt0.cells (.slice none 0 0)).toArray 93)
        replace FSq := FSq.al (.cells (evt0.cells (.slice none 0 0)).toArray 93)
        have hlt6 : wx.heap.size < (wx.alloc (.cells (evt0.cells (.slice none 0 0)).toArray 93)).heap.size := T6.lt
        obtain ⟨g6, hg6⟩ : ∃ g, g = wx.heap.size := ⟨_, rfl⟩
        rw [← hg6] at H T6 hn6 hlow6 h46 h26 hlt6
        clear hg6
        generalize wx.alloc (.cells (evt0.cells (.slice none 0 0)).toArray 93) = wx at *
        refine g_call 4 H rfl (by kernel_rfl) (wanted_none rfl) rfl (by decide) rfl rfl (Try.call78 _) (rU_put gr q ev.kind 255 _ (putU ev.c.toNat ++ (putU ev.d.toNat ++ (putU ev.e.toNat ++ (putU ev.f.toNat ++ (putU (zz ev.g) ++ (putU ev.args.length ++ (argsB ev.args ++ rest))))))) wx Qd rfl (by omega) (by omega) (by omega)) ?_
        clear H a
        rintro e wn ⟨rfl, Qd2, Fn⟩
        replace Qd := Qd2
        clear Qd2
        replace T2 := T2.frm Fn (by simpa using hn2)
        replace T4 := T4.frm Fn (by simpa using hn4)
        try replace T6 := T6.frm Fn (by simpa using hn6)
        replace F := F.tr Fn
        replace FSq := FSq.tr Fn
        clear Fn
        generalize wn = wx at *
        refine ⟨_, rfl, FSq, fun a H => ?_⟩
        refine g_take 5 H rfl (wanted_none rfl) rfl (by decide) (by kernel_rfl) (by kernel_rfl) (by kernel_rfl) FSq (fun w' hSw => (x_conv H rfl rfl (c_int (z := (ev.kind : Int)) Try.underlying56 Try.underlying90 (by rw [IntKind.wrap_u8]; omega)))) ?_
        clear H a; intro a H
        refine g_take 6 H rfl (wanted_none rfl) rfl (by decide) (by kernel_rfl) (by kernel_rfl) (by kernel_rfl) FSq (fun w' hSw => (x_build H rfl rfl (bldev3 _ _ _ _))) ?_
        clear H a; intro a H
        refine g_st 8 H rfl (by kernel_rfl) (wanted_none rfl) rfl (x_store H rfl rfl rfl (st_row T6 (by kernel_rfl) (by rfl) (by rw [Array.all_eq_true']; intro z hz; exact evt_one _ none 0 0 z (by simpa using hz)))) (FSq.grown (grown_setRow wx g6 _) (fun k e => by cases e; exact .inr (by omega))) ?_
        replace F := F.grown (grown_setRow wx g6 ((⟨ev.a, ev.comp, ev.kind, 0, 0, 0, 0, 0, []⟩ : Evt).cells (.slice none 0 0)).toArray) (fun k e => by cases e; exact .inr (by omega))
        have F6 : Frm [g6] wx (wx.setRow g6 ((⟨ev.a, ev.comp, ev.kind, 0, 0, 0, 0, 0, []⟩ : Evt).cells (.slice none 0 0)).toArray) := (Frm.refl [g6] wx).grown (grown_setRow wx g6 _) (fun k e => by cases e; exact .inl (by simp))
        replace Qd := Qd.frm F6 (by simpa using Ne.symm hn6) (by simp; omega)
        replace T2 := T2.frm F6 (by simpa using h26)
        replace T4 := T4.frm F6 (by simpa using h46)
        replace T6 := T6.row ((⟨ev.a, ev.comp, ev.kind, 0, 0, 0, 0, 0, []⟩ : Evt).cells (.slice none 0 0))
        clear F6 FSq
        generalize wx.setRow g6 ((⟨ev.a, ev.comp, ev.kind, 0, 0, 0, 0, 0, []⟩ : Evt).cells (.slice none 0 0)).toArray = wx at *
        refine g_done (by kernel_rfl) (hR.out _ _ ?_)
        clear hR R
        exact ⟨rfl, g6, H.sub ⟨rfl, rfl, rfl, rfl, trivial⟩, Qd, T2, T4, T6, F, hn6, by omega, h46, h26⟩
    · skip
      clear H a; intro a H
      have T6 := Blk.new wx 93 (evt0.cells (.slice none 0 0))
      have hn6 : wx.heap.size ≠ gr := by have := (rdB_lt Qd).1; omega
      have hlow6 : wd.heap.size ≤ wx.heap.size := FSq.size
      have h46 : g4 ≠ wx.heap.size := by have := T4.lt; omega
      have h26 : g2 ≠ wx.heap.size := by have := T2.lt; omega
      replace F := F.al (.cells (evt0.cells (.slice none 0 0)).toArray 93)
      replace Qd := Qd.ext ((Ext.refl wx).al (.cells (evt0.cells (.slice none 0 0)).toArray 93))
      replace T2 := T2.alloc (.cells (evt0.cells (.slice none 0 0)).toArray 93)
      replace T4 := T4.alloc (.cells (evt0.cells (.slice none 0 0)).toArray 93)
      replace FSq := FSq.al (.cells (evt0.cells (.slice none 0 0)).toArray 93)
      have hlt6 : wx.heap.size < (wx.alloc (.cells (evt0.cells (.slice none 0 0)).toArray 93)).heap.size := T6.lt
      obtain ⟨g6, hg6⟩ : ∃ g, g = wx.heap.size := ⟨_, rfl⟩
      rw [← hg6] at H T6 hn6 hlow6 h46 h26 hlt6
      clear hg6
      generalize wx.alloc (.cells (evt0.cells (.slice none 0 0)).toArray 93) = wx at *
      refine g_callr 2 H rfl (by kernel_rfl) (wanted_none rfl) rfl (by decide) (run_callv H rfl rfl (Try.call139 _ _)) (number_any g2 gr q ev.a.toNat _ (putU ev.kind ++ (putU ev.c.toNat ++ (putU ev.d.toNat ++ (putU ev.e.toNat ++ (putU ev.f.toNat ++ (putU (zz ev.g) ++ (putU ev.args.length ++ (argsB ev.args ++ rest)))))))) wx T2 Qd rfl (by omega)) ?_
      clear H a
      rintro e wn ⟨rfl, Qd2, Fn⟩
      replace Qd := Qd2
      clear Qd2
      replace T2 := T2.frm Fn (by simpa using hn2)
      replace T4 := T4.frm Fn (by simpa using hn4)
      try replace T6 := T6.frm Fn (by simpa using hn6)
      replace F := F.tr Fn
      replace FSq := FSq.tr Fn
      clear Fn
      generalize wn = wx at *
      refine ⟨_, rfl, FSq, fun a H => ?_⟩
      rw [hA] at H
      refine g_call 4 H rfl (by kernel_rfl) (wanted_none rfl) rfl (by decide) rfl rfl (Try.call78 _) (rU_put gr q ev.kind 255 _ (putU ev.c.toNat ++ (putU ev.d.toNat ++ (putU ev.e.toNat ++ (putU ev.f.toNat ++ (putU (zz ev.g) ++ (putU ev.args.length ++ (argsB ev.args ++ rest))))))) wx Qd rfl (by omega) (by omega) (by omega)) ?_
      clear H a
      rintro e wn ⟨rfl, Qd2, Fn⟩
      replace Qd := Qd2
      clear Qd2
      replace T2 := T2.frm Fn (by simpa using hn2)
      replace T4 := T4.frm Fn (by simpa using hn4)
      try replace T6 := T6.frm Fn (by simpa using hn6)
      replace F := F.tr Fn
      replace FSq := FSq.tr Fn
      clear Fn
      generalize wn = wx at *
      refine ⟨_, rfl, FSq, fun a H => ?_⟩
      refine g_take 5 H rfl (wanted_none rfl) rfl (by decide) (by kernel_rfl) (by kernel_rfl) (by kernel_rfl) FSq (fun w' hSw => (x_conv H rfl rfl (c_int (z := (ev.kind : Int)) Try.underlying56 Try.underlying90 (by rw [IntKind.wrap_u8]; omega)))) ?_
      clear H a; intro a H
      refine g_take 6 H rfl (wanted_none rfl) rfl (by decide) (by kernel_rfl) (by kernel_rfl) (by kernel_rfl) FSq (fun w' hSw => (x_build H rfl rfl (bldev3 _ _ _ _))) ?_
      clear H a; intro a H
      refine g_st 8 H rfl (by kernel_rfl) (wanted_none rfl) rfl (x_store H rfl rfl rfl (st_row T6 (by kernel_rfl) (by rfl) (by rw [Array.all_eq_true']; intro z hz; exact evt_one _ none 0 0 z (by simpa using hz)))) (FSq.grown (grown_setRow wx g6 _) (fun k e => by cases e; exact .inr (by omega))) ?_
      replace F := F.grown (grown_setRow wx g6 ((⟨ev.a, ev.comp, ev.kind, 0, 0, 0, 0, 0, []⟩ : Evt).cells (.slice none 0 0)).toArray) (fun k e => by cases e; exact .inr (by omega))
      have F6 : Frm [g6] wx (wx.setRow g6 ((⟨ev.a, ev.comp, ev.kind, 0, 0, 0, 0, 0, []⟩ : Evt).cells (.slice none 0 0)).toArray) := (Frm.refl [g6] wx).grown (grown_setRow wx g6 _) (fun k e => by cases e; exact .inl (by simp))
      replace Qd := Qd.frm F6 (by simpa using Ne.symm hn6) (by simp; omega)
      replace T2 := T2.frm F6 (by simpa using h26)
      replace T4 := T4.frm F6 (by simpa using h46)
      replace T6 := T6.row ((⟨ev.a, ev.comp, ev.kind, 0, 0, 0, 0, 0, []⟩ : Evt).cells (.slice none 0 0))
      clear F6 FSq
      generalize wx.setRow g6 ((⟨ev.a, ev.comp, ev.kind, 0, 0, 0, 0, 0, []⟩ : Evt).cells (.slice none 0 0)).toArray = wx at *
      refine g_done (by kernel_rfl) (hR.out _ _ ?_)
      clear hR R
      exact ⟨rfl, g6, H.sub ⟨rfl, rfl, rfl, rfl, trivial⟩, Qd, T2, T4, T6, F, hn6, by omega, h46, h26⟩
end Go.Proofs.Ytknllmcpogoeoaa
