/- What law03 compares with: begins, same, few, file; the reference's File and Bodies. -/
import Derived.Test.YtknllmcpogoeoaaBd
import Derived.Laws.IdiomStrings
import Derived.Laws.BytesArg
namespace Go.Proofs.Ytknllmcpogoeoaa
open Go.RowKit
set_option linter.unusedVariables false
set_option linter.unusedSimpArgs false
/-- string(b) -/
theorem conv_bs {w : World} {a : Option Addr} {len cap : Nat} {l : List UInt8} (h : Bs w a len l) : (convert 22 9 (.slice a len cap)).run Try.prog w = .ok (.string ⟨l.toArray⟩) w := by
  have hl := h.leng
  cases a with
  | none =>
    have : l = [] := by
      cases l with
      | nil => rfl
      | cons x r =>
        obtain ⟨b, off, e, _⟩ := h.cell 0 (by simp at hl; omega)
        cases e
    subst this
    exact run_convert_bytes_nil w 22 5 Try.underlying22 Try.underlying5 len cap 9 Try.underlying9
  | some ad =>
    rw [← hl]
    refine run_convert_bytes_back w 22 9 5 ad cap l Try.underlying22 Try.underlying5 Try.underlying9 (fun j hj => ?_)
    obtain ⟨b, off, e, hc⟩ := h.cell j (by omega)
    simp only [Option.some.injEq] at e
    rw [e, Addr.add_lit, hc]
    simp [nb, List.getElem?_eq_getElem hj]
theorem str_eq (l r : List UInt8) : ((⟨l.toArray⟩ : ByteArray) = ⟨r.toArray⟩) ↔ l = r := by simp
set_option maxHeartbeats 800000 in
theorem begins_any (a1 : Option Addr) (n1 c1 : Nat) (a2 : Option Addr) (n2 c2 : Nat) (l1 l2 : List (List UInt8)) (w : World) (h1 : Ls w a1 n1 l1) (h2 : Ls w a2 n2 l2) (hn1 : n1 ≤ 140737488351232) (hn2 : n2 ≤ 140737488351232) :
    Calls Try.prog 40 #[.slice a1 n1 c1, .slice a2 n2 c2] w (fun e w' => e = .returned (.bool (decide (l1.take n2 = l2))) ∧ Ext w w') := by
  go_enter Try.func40, Try.ntmps40
  by_cases hlt : n1 < n2
  · have hlt' : decide ((n1 : Int) < (n2 : Int)) = true := by simp; omega
    go_wp2
    go_ret
    refine ⟨?_, Ext.refl w⟩
    have : ¬ (l1.take n2 = l2) := fun e => by
      have := congrArg List.length e
      rw [List.length_take, h1.leng, h2.leng] at this
      omega
    simp [this]
  have hlt' : decide ((n1 : Int) < (n2 : Int)) = false := by simp; omega
  go_wp2
  go_loopw [13] (fun i wr => ∃ k : Nat, k ≤ n2 ∧ i = .int .i64 k ∧ (∃ m, wr = w.drewN m) ∧ Hid (l1.take k = l2.take k)) (fun i _ => n2 - (intOf i).toNat)
  case atStart => exact ⟨0, by omega, rfl, ⟨0, rfl⟩, Lib.hid (by simp)⟩
  case round =>
    obtain ⟨k, hk, rfl, ⟨m, rfl⟩, He⟩ := hrel
    by_cases hkn : k < n2
    · have hkb : decide ((k : Int) < (n2 : Int)) = true := by simp; omega
      obtain ⟨b1, o1, p1, u1, r1, rfl, hc1, hb1, hx1⟩ := h1.at k (by omega)
      obtain ⟨b2, o2, p2, u2, r2, rfl, hc2, hb2, hx2⟩ := h2.at k hkn
      have hv1 := fun nq => conv_bs (cap := r1) (hb1.drewN nq)
      have hv2 := fun nq => conv_bs (cap := r2) (hb2.drewN nq)
      have q1 : (k : Int) < (n1 : Int) := by omega
      have q2 : (k : Int) < (n2 : Int) := by omega
      have q3 : (0 : Int) ≤ (k : Int) := by omega
      clear hx1 hx2 hb1 hb2
      have hl1 := h1.leng
      have hl2 := h2.leng
      have hs1 : l1.take (k + 1) = l1.take k ++ [l1[k]?.getD []] := by rw [List.take_add_one, List.getElem?_eq_getElem (by omega)]; rfl
      have hs2 : l2.take (k + 1) = l2.take k ++ [l2[k]?.getD []] := by rw [List.take_add_one, List.getElem?_eq_getElem (by omega)]; rfl
      have Hs1 := Lib.hid hs1
      have Hs2 := Lib.hid hs2
      clear hs1 hs2
      generalize l1[k]?.getD [] = x1 at *
      generalize l2[k]?.getD [] = x2 at *
      by_cases hx : x1 = x2
      · subst hx
        go_wp2
        go_quiet (fail)
        go_wp2
        go_roundw
        case rel => exact ⟨k + 1, by omega, by go_num, ⟨_, rfl⟩, Lib.hid (by rw [Hs1.out, Hs2.out, He.out])⟩
        case measure => simp [intOf]; omega
      · have hxb : (!x1 == x2) = true := by simp [hx]
        go_wp2
        go_quiet (fail)
        go_wp2
        go_ret
        refine ⟨?_, ((Ext.refl w).drN _).drN _⟩
        have : ¬ (l1.take n2 = l2) := fun e => hx (by
          have h3 := Hs2.out
          rw [← e, List.take_take, Nat.min_eq_left (by omega), Hs1.out, List.take_take, Nat.min_eq_left (by omega)] at h3
          simpa using h3)
        simp [this]
    · have hkb : decide ((k : Int) < (n2 : Int)) = false := by simp; omega
      go_wp2
      go_ret
      refine ⟨?_, (Ext.refl w).drN _⟩
      have h := He.out
      rw [show k = n2 by omega, List.take_of_length_le (l := l2) (by rw [h2.leng]; omega)] at h
      simp [h]
/-- the slice at a with len elements reads as the parts D -/
structure Pv (w : World) (a : Option Addr) (len : Nat) (D : List PartS) : Prop where
  leng : D.length = len
  cell : ∀ (k : Nat) (p : PartS), D[k]? = some p → ∃ b off pa pn pc, a = some ⟨b, off, none⟩ ∧ w.cell? ⟨b, off + k * 4, none⟩ = some (.int .i64 (p.off : Int)) ∧ w.cell? ⟨b, off + k * 4 + 1, none⟩ = some (.int .i64 (p.len : Int)) ∧
    w.cell? ⟨b, off + k * 4 + 2, none⟩ = some (.slice pa pn pc) ∧ w.cell? ⟨b, off + k * 4 + 3, none⟩ = some (.bool p.good) ∧ Bs w pa pn p.body
theorem Pv.ext {w w' : World} {a : Option Addr} {len : Nat} {D : List PartS} (h : Pv w a len D) (e : Ext w w') : Pv w' a len D :=
  ⟨h.leng, fun k p hp => by
    obtain ⟨b, off, pa, pn, pc, e0, e1, e2, e3, e4, e5⟩ := h.cell k p hp
    exact ⟨b, off, pa, pn, pc, e0, e.cell e1, e.cell e2, e.cell e3, e.cell e4, e.bs e5⟩⟩
theorem Pv.take {w : World} {a : Option Addr} {len : Nat} {D : List PartS} (h : Pv w a len D) (n : Nat) (hn : n ≤ len) : Pv w a n (D.take n) :=
  ⟨by rw [List.length_take, h.leng]; omega, fun k p hp => by
    rw [List.getElem?_take] at hp
    by_cases hk : k < n
    · rw [if_pos hk] at hp; exact h.cell k p hp
    · rw [if_neg hk] at hp; cases hp⟩
theorem Prow.pv {e : Nat} {w : World} {B : Nat} {a : Option Addr} {c : Nat} {rows : List (Value × PartS)} (h : Prow e w B a c rows) : Pv w a rows.length (rows.map (·.2)) := by
  refine ⟨by simp, fun k p hp => ?_⟩
  rw [List.getElem?_map] at hp
  obtain ⟨r, hr, rfl⟩ := Option.map_eq_some_iff.1 hp
  have hk := (List.getElem?_eq_some_iff.1 hr).1
  obtain ⟨a1, n1, c1, e1, o1⟩ := h.2 r (List.mem_of_getElem? hr)
  rcases h.1.2 with ⟨_, h0⟩ | ⟨g, cap, cur, e2, hg, hh, hn, hm, hs, ht⟩
  · omega
  · simp only [Value.slice.injEq] at e2
    have hc : ∀ j u, j < 4 → (pcells r)[j]? = some u → w.cell? ⟨g, 0 + k * 4 + j, none⟩ = some u := fun j u hj hu => by
      rw [Nat.zero_add, cell_of_row w g (k * 4 + j) cur e (0, 0) hh]
      rw [← pcells_get rows k r hr j hj, ← ht, List.getElem?_take, if_pos (by omega)] at hu
      simpa using hu
    refine ⟨g, 0, a1, n1, c1, e2.1, hc 0 _ (by omega) rfl, hc 1 _ (by omega) rfl, ?_, hc 3 _ (by omega) rfl, o1.bs⟩
    rw [← e1]
    exact hc 2 _ (by omega) rfl
instance : DecidableEq PartS := fun a b => decidable_of_iff (a.off = b.off ∧ a.len = b.len ∧ a.body = b.body ∧ a.good = b.good) (by cases a; cases b; simp)
set_option maxRecDepth 100000 in
set_option maxHeartbeats 1600000 in
theorem same_any (a1 : Option Addr) (n1 c1 : Nat) (a2 : Option Addr) (n2 c2 : Nat) (D1 D2 : List PartS) (w : World) (h1 : Pv w a1 n1 D1) (h2 : Pv w a2 n2 D2) (hn1 : n1 ≤ 140737488351232) (hn2 : n2 ≤ 140737488351232) :
    Calls Try.prog 35 #[.slice a1 n1 c1, .slice a2 n2 c2] w (fun e w' => e = .returned (.bool (decide (D1 = D2))) ∧ Ext w w') := by
  go_enter Try.func35, Try.ntmps35
  have hl1 := h1.leng
  have hl2 := h2.leng
  by_cases hlt : n1 = n2
  case neg =>
    have hlt' : ((n1 : Int) != (n2 : Int)) = true := by simp; omega
    go_wp2
    go_ret
    refine ⟨?_, Ext.refl w⟩
    have : ¬ (D1 = D2) := fun e => by
      have := congrArg List.length e
      omega
    simp [this]
  subst hlt
  go_wp2
  go_loopw [14] (fun i wr => ∃ k : Nat, k ≤ n1 ∧ i = .int .i64 k ∧ Ext w wr ∧ Hid (D1.take k = D2.take k)) (fun i _ => n1 - (intOf i).toNat)
  case atStart => exact ⟨0, by omega, rfl, Ext.refl w, Lib.hid (by simp)⟩
  case round =>
    obtain ⟨k, hk, rfl, E1, He⟩ := hrel
    rename World => W
    by_cases hkn : k < n1
    · have hkb : decide ((k : Int) < (n1 : Int)) = true := by simp; omega
      obtain ⟨p1, hp1⟩ : ∃ p, D1[k]? = some p := ⟨_, List.getElem?_eq_getElem (by omega)⟩
      obtain ⟨p2, hp2⟩ : ∃ p, D2[k]? = some p := ⟨_, List.getElem?_eq_getElem (by omega)⟩
      have Hs1 : Hid (D1.take (k + 1) = D1.take k ++ [p1]) := Lib.hid (by rw [List.take_add_one, hp1]; rfl)
      have Hs2 : Hid (D2.take (k + 1) = D2.take k ++ [p2]) := Lib.hid (by rw [List.take_add_one, hp2]; rfl)
      have P2 := h2.ext E1
      obtain ⟨b2, o2, x2, y2, z2, rfl, e20, e21, e22, e23, b2s⟩ := P2.cell k p2 hp2
      obtain ⟨f1, m1, d1, g1⟩ := p1
      obtain ⟨f2, m2, d2, g2⟩ := p2
      dsimp only at e20 e21 e22 e23 b2s
      go_wp2
      have EA := E1.al (.cells #[Value.int IntKind.i64 ↑f2, Value.int IntKind.i64 ↑m2, Value.slice x2 y2 z2, Value.bool g2] 173)
      have b2s' := ((Ext.refl W).al (.cells #[Value.int IntKind.i64 ↑f2, Value.int IntKind.i64 ↑m2, Value.slice x2 y2 z2, Value.bool g2] 173)).bs b2s
      have P1 := h1.ext EA
      obtain ⟨b1, o1, x1, y1, z1, rfl, e10, e11, e12, e13, b1s⟩ := P1.cell k _ hp1
      dsimp only at e10 e11 e12 e13 b1s
      have hnw := heap_alloc_new W (.cells #[Value.int IntKind.i64 ↑f2, Value.int IntKind.i64 ↑m2, Value.slice x2 y2 z2, Value.bool g2] 173)
      clear e20 e21 e22 e23 b2s P1 P2 hp1 hp2 E1
      generalize W.alloc (.cells #[Value.int IntKind.i64 ↑f2, Value.int IntKind.i64 ↑m2, Value.slice x2 y2 z2, Value.bool g2] 173) = W1 at *
      generalize W.heap.size = gb at *
      have e20 : W1.cell? ⟨gb, 0, none⟩ = some (Value.int IntKind.i64 ↑f2) := by simp [World.cell?, hnw]
      have e21 : W1.cell? ⟨gb, 1, none⟩ = some (Value.int IntKind.i64 ↑m2) := by simp [World.cell?, hnw]
      have e22 : W1.cell? ⟨gb, 2, none⟩ = some (Value.slice x2 y2 z2) := by simp [World.cell?, hnw]
      have e23 : W1.cell? ⟨gb, 3, none⟩ = some (Value.bool g2) := by simp [World.cell?, hnw]
      have hv1 := fun nq => conv_bs (cap := z1) (b1s.drewN nq)
      have hv2 := fun nq => conv_bs (cap := z2) (b2s'.drewN nq)
      have q1 : (k : Int) < (n1 : Int) := by omega
      have q3 : (0 : Int) ≤ (k : Int) := by omega
      have hno : (⟨f1, m1, d1, g1⟩ : PartS) ≠ ⟨f2, m2, d2, g2⟩ → ¬ (D1 = D2) := fun hne e => hne (by
        have h3 := Hs2.out
        rw [← e, Hs1.out] at h3
        simpa using h3)
      have Hno := Lib.hid hno
      clear hno hnw b1s b2s'
      by_cases hf : f1 = f2
      case neg =>
        have t1 : ((f1 : Int) != (f2 : Int)) = true := by simp; omega
        go_quiet (fail)
        go_wp2
        go_ret
        refine ⟨?_, EA.drN _⟩
        simp [Hno.out (by simp [hf])]
      subst hf
      by_cases hm : m1 = m2
      case neg =>
        have t1 : ((m1 : Int) != (m2 : Int)) = true := by simp; omega
        go_quiet (fail)
        go_wp2
        go_ret
        refine ⟨?_, EA.drN _⟩
        simp [Hno.out (by simp [hm])]
      subst hm
      by_cases hg : g1 = g2
      case neg =>
        have t1 : (g1 != g2) = true := by simpa using hg
        go_quiet (fail)
        go_wp2
        go_ret
        refine ⟨?_, EA.drN _⟩
        simp [Hno.out (by simp [hg])]
      subst hg
      by_cases hd : d1 = d2
      case neg =>
        have t1 : (!d1 == d2) = true := by simp [hd]
        go_quiet (fail)
        go_wp2
        go_ret
        refine ⟨?_, EA.drN _⟩
        simp [Hno.out (by simp [hd])]
      subst hd
      go_quiet (fail)
      go_wp2
      go_roundw
      case rel => exact ⟨k + 1, by omega, by go_num, EA.drN _, Lib.hid (by rw [Hs1.out, Hs2.out, He.out])⟩
      case measure => simp [intOf]; omega
    · have hkb : decide ((k : Int) < (n1 : Int)) = false := by simp; omega
      go_wp2
      go_ret
      refine ⟨?_, E1⟩
      have h := He.out
      rw [show k = n1 by omega, List.take_of_length_le (l := D1) (by omega), List.take_of_length_le (l := D2) (by omega)] at h
      simp [h]
end Go.Proofs.Ytknllmcpogoeoaa
