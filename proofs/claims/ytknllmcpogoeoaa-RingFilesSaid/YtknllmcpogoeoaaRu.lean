/- The records of a good play follow one another; two rings side by side in memory. -/
import Derived.Test.YtknllmcpogoeoaaR15
namespace Go.Proofs.Ytknllmcpogoeoaa
open Go.RowKit
set_option linter.unusedVariables false
set_option linter.unusedSimpArgs false
set_option maxRecDepth 100000
theorem rec_plain (comp k nx : Nat) (s : RStep) (h1 : s.skip = false) (h2 : s.other = false) : recOf comp k nx s = baseOf comp k nx s := by
  unfold recOf otherOf skipOf
  rw [h1, h2]
  simp
theorem plain_self (s : RStep) (h1 : s.skip = false) (h2 : s.other = false) : plain s = s := by
  obtain ⟨a, b, c, d, e, f⟩ := s
  simp only at h1 h2
  subst h1 h2
  rfl
theorem rows_fine (comp : Nat) (hc : comp < 8) : ∀ (l : List RStep) (k next : Nat), (∀ s ∈ l, s.ok ∧ s.skip = false ∧ s.other = false) → k + l.length ≤ 40 → next + l.length * 52 < 9223372036854775808 →
    ∀ (i : Nat) (x : Rcd), (recsFrom comp k next l)[i]? = some x → Fine (comp : Int) x ∧ ∃ m, chain next ((recsFrom comp k next l).take i) m ∧ x.idx = m ∧ m + x.step < 9223372036854775808
  | [], k, next, _, _, _, i, x, h => by simp [recsFrom] at h
  | s :: r, k, next, hs, hk, hn, i, x, h => by
    obtain ⟨h1, h2, h3⟩ := hs s (List.mem_cons_self ..)
    have e := rec_plain comp k next s h2 h3
    simp only [List.length_cons] at hk hn
    obtain ⟨hf, hi, hb⟩ := base_fine comp k next s hc (by omega) (by omega) h1
    rw [plain_self s h2 h3] at hb
    have hst := base_step50 comp k next s
    cases i with
    | zero =>
      simp only [recsFrom, List.getElem?_cons_zero, Option.some.injEq] at h
      rw [e] at h
      subst h
      exact ⟨hf, next, by simp [chain], hi, by omega⟩
    | succ i =>
      simp only [recsFrom, List.getElem?_cons_succ] at h
      obtain ⟨g1, m, g2, g3, g4⟩ := rows_fine comp hc r (k + 1) (behind next s) (fun y hy => hs y (List.mem_cons_of_mem _ hy)) (by omega) (by omega) i x h
      refine ⟨g1, m, ?_, g3, g4⟩
      simp only [recsFrom, List.take_succ_cons]
      rw [e]
      exact ⟨hi, by rw [hb]; exact g2⟩
theorem good_row (comp first : Nat) (ss : List RStep) (hf : first ≤ 4294967295) (hok : ∀ s ∈ ss, s.ok) (i : Nat) (x : Rcd) (h : (goodOf comp first ss)[i]? = some x) :
    Fine ((comp % 8 : Nat) : Int) x ∧ ∃ m, chain first ((goodOf comp first ss).take i) m ∧ x.idx = m ∧ m + x.step < 9223372036854775808 := by
  unfold goodOf recordsOf at h ⊢
  have hl : ((ss.map plain).take 40).length ≤ 40 := by rw [List.length_take]; omega
  exact rows_fine (comp % 8) (Nat.mod_lt _ (by omega)) _ 0 first (fun s hs => by
    obtain ⟨y, hy, rfl⟩ := List.mem_map.1 (List.mem_of_mem_take hs)
    exact ⟨hok y hy, rfl, rfl⟩) (by omega) (by omega) i x h
theorem good_len (comp first : Nat) (ss : List RStep) : (goodOf comp first ss).length ≤ 40 := by
  unfold goodOf recordsOf
  rw [recsFrom_len, List.length_take]
  omega
theorem fed_beg {first : Nat} {era : Int} {done : List Rcd} {d : Nat} {r : Rg} {x : Rcd} (F : Fed first era done d r) (hx : Fine era x) {m : Nat} (hm : chain first done m) (hxi : x.idx = m) : r.begun = true → x.era = r.era ∧ x.idx = r.next := by
  intro hb
  rw [F.begun] at hb
  have hd : done ≠ [] := of_decide_eq_true hb
  obtain ⟨m', hc, hlt, hn1, hn0⟩ := F.chn
  obtain rfl := chain_fun _ _ _ _ hm hc
  exact ⟨by rw [hx.era_, F.era_ hd], by rw [hxi, hn1 hd]⟩
theorem put_of {r : Rg} {x : Rcd} (h : r.code x = 0) : (r.put x).1 = r.add x ∧ (r.put x).2 = ((dropR r.cap (r.used + x.size) (r.list ++ [x])).1, 0) := by unfold Rg.put; rw [if_pos h]; exact ⟨rfl, rfl⟩
section
variable {w w' : World} {B g : Nat} {v : Value} {ps : List (Rcd × Value)} {r : Rg}
theorem Rn.frm {s : List Nat} (R0 : Rn w B g v ps r) (F : Frm s w w') (hg : g ∉ s) (hv : ∀ k, v.ownBlock = some k → k ∉ s) (hs : ∀ b ∈ s, ∀ cur, w.heap[b]? ≠ some (.cells cur 2 (0, 0))) : Rn w' B g v ps r :=
  ⟨R0.blk.frm F hg, R0.lst.frm F hv hs, R0.eq, R0.sum, R0.low, R0.n1, R0.n2, R0.e1, R0.c1⟩
theorem Rn.no2 (R0 : Rn w B g v ps r) : ∀ b ∈ g :: v.ownBlock.toList, ∀ cur, w.heap[b]? ≠ some (.cells cur 2 (0, 0)) := R0.lst.no2 R0.blk
/-- a ring's blocks are none of another's -/
theorem Rn.apart {B2 g2 : Nat} {v2 : Value} {ps2 : List (Rcd × Value)} {r2 : Rg} (R0 : Rn w B g v ps r) (R2 : Rn w B2 g2 v2 ps2 r2) (hg : g2 ≠ g) (hv : ∀ k, v2.ownBlock = some k → v.ownBlock ≠ some k) :
    g2 ∉ g :: v.ownBlock.toList ∧ ∀ k, v2.ownBlock = some k → k ∉ g :: v.ownBlock.toList := by
  refine ⟨fun h => ?_, fun k hk h => ?_⟩
  · rcases List.mem_cons.1 h with h | h
    · exact hg h
    · exact R0.lst.ne R2.blk g2 (by simpa using h) rfl
  · rcases List.mem_cons.1 h with h | h
    · exact R2.lst.ne R0.blk k hk h
    · exact hv k hk (by simpa using h)
/-- a row of records that is older than the ring's -/
theorem Rl.apart {B2 : Nat} {v2 : Value} {ps2 : List (Rcd × Value)} (R0 : Rn w B g v ps r) (RL : Rl w B2 v2 ps2) (hv : ∀ k, v2.ownBlock = some k → v.ownBlock ≠ some k) :
    ∀ k, v2.ownBlock = some k → k ∉ g :: v.ownBlock.toList := fun k hk h => by
  rcases List.mem_cons.1 h with h | h
  · exact RL.ne R0.blk k hk h
  · exact hv k hk (by simpa using h)
end
end Go.Proofs.Ytknllmcpogoeoaa
