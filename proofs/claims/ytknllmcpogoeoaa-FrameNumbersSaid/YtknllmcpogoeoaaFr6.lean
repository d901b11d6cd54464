/- frame.scan, the iterator, walked inside the wide fence: what it promises to any round that keeps its word. -/
import Derived.Test.YtknllmcpogoeoaaFr1
import Derived.Test.YtknllmcpogoeoaaSc
import Derived.Test.YtknllmcpogoeoaaExtIn
namespace Go.Proofs.Ytknllmcpogoeoaa
open Go.RowKit
set_option linter.unusedVariables false
set_option linter.unusedSimpArgs false
theorem drop_cons {α : Type} {D : List α} {i : Nat} {x : α} {xs : List α} (h : D.drop i = x :: xs) : D[i]? = some x ∧ D.drop (i + 1) = xs ∧ i + 1 ≤ D.length := by
  have hl : i < D.length := by
    rcases Nat.lt_or_ge i D.length with h1 | h1
    · exact h1
    · rw [List.drop_eq_nil_of_le h1] at h; cases h
  rw [List.drop_eq_getElem_cons hl] at h
  simp only [List.cons.injEq] at h
  exact ⟨by rw [List.getElem?_eq_getElem hl, h.1], h.2, hl⟩
/-- what a round is handed: the part, its body in the call's own memory -/
def PartAt (B : Nat) (W : World) (p : PartS) (v : Value) : Prop := ∃ a n c, v = .slice a n c ∧ Ow W B a n c p.body
def partV (p : PartS) (v : Value) : Value := .agg #[.int .i64 (p.off : Int), .int .i64 (p.len : Int), v, .bool p.good]
structure ScanWord (L : Nat) (B : Nat) (D : List PartS) (ap : Option Addr) (len : Nat) (l : List UInt8) (J : Nat → World → Prop) (Jx : World → Prop) : Prop where
  bytes : ∀ i W, J i W → Bs W ap len l
  size : ∀ i W, J i W → B ≤ W.heap.size
  stays : ∀ i W W', J i W → Ext W W' → J i W'
  round : ∀ i W p v, J i W → D[i]? = some p → PartAt B W p v → YieldAt Fence.wide 0 Try.prog L #[partV p v] W fun e W' =>
    (e = .returned (.bool true) ∧ J (i + 1) W') ∨ (e = .returned (.bool false) ∧ Jx W')
def ScanRel (D : List PartS) (J : Nat → World → Prop) (len : Nat) (l : List UInt8) (v : Value) (W : World) : Prop :=
  ∃ k i : Nat, v = .int .i64 (k : Int) ∧ k ≤ len ∧ i ≤ D.length ∧ D.drop i = scanP k (l.drop k) ∧ J i W
def ScanEnd (D : List PartS) (J : Nat → World → Prop) (Jx : World → Prop) (e : Ending) (W : World) : Prop := (∃ v, e = .returned v) ∧ (J D.length W ∨ Jx W)
set_option maxRecDepth 100000 in
set_option maxHeartbeats 1600000 in
theorem scan_iter (L B : Nat) (D : List PartS) (ap : Option Addr) (len cap : Nat) (l : List UInt8) (J : Nat → World → Prop) (Jx : World → Prop) (hW : ScanWord L B D ap len l J Jx) (hD : D = scanP 0 l)
    (hm : len ≤ 1099511627776) (hc : len ≤ cap) (W0 : World) (h0 : J 0 W0) :
    CallsIn Fence.wide 0 Try.prog 136 #[.slice ap len cap, .func (.yield L) #[] #[]] W0 (ScanEnd D J Jx) := by
  have Hl := Lib.hid (hW.bytes 0 W0 h0).leng
  refine callsIn_of_wp Try.func136 rfl trivial ?_ rfl
  simp only [Try.ntmps136, List.size_toArray, List.length_cons, List.length_nil, Nat.reduceAdd, Nat.reduceSub, Array.replicate_succ, Array.replicate_zero, List.push_toArray, List.append_toArray, List.nil_append, List.cons_append]
  gi_wp2
  gi_loopw [4] (fun v wr => ScanRel D J len l v wr) (fun v _ => len - (intOf v).toNat)
  case atStart => exact ⟨0, 0, rfl, Nat.zero_le _, Nat.zero_le _, by rw [hD]; rfl, h0⟩
  case round =>
    obtain ⟨k, i, rfl, hk, hi, hdrop, hJ⟩ := hrel
    rename World => W
    have Hdrop := Lib.hid hdrop
    have HD := Lib.hid hD
    clear hdrop hD
    by_cases hlt : k < len
    · have hb := hW.bytes i W hJ
      obtain ⟨b, o, rfl, hcell⟩ := hb.at (by omega)
      clear hcell
      have Hne : Hid (l.drop k ≠ []) := Lib.hid (fun e => by have := congrArg List.length e; rw [List.length_drop, Hl.out] at this; simp at this; omega)
      gi_wp2
      gi_loopw [5, 6, 7] (fun u v g wr => ∃ n : Nat, k + n ≤ len ∧ u = .int .i64 ((k : Int) + n) ∧ (∃ x : Int, v = .int .i64 x) ∧ g = .bool false ∧ Ext W wr ∧ Hid (∀ m, m < n → stb ((l.drop k).drop m) = false)) (fun u _ _ _ => len - (intOf u).toNat)
      case atStart => exact ⟨0, by omega, by simp, ⟨0, rfl⟩, rfl, Ext.refl W, Lib.hid (fun m hm => by omega)⟩
      case round =>
        obtain ⟨n, hn, rfl, ⟨x, rfl⟩, rfl, E1, Hn⟩ := hrel
        rename World => W1
        by_cases hj : k + n < len
        · have BS := (E1.bs hb).sub (k + n) (len - (k + n)) (by omega) (a' := some ⟨b, o + (k + n), none⟩) (by intro b' o' e h; simp only [Option.some.injEq, Addr.mk.injEq] at e; rw [e.1, e.2.1])
          rw [show (l.drop (k + n)).take (len - (k + n)) = l.drop (k + n) by rw [List.take_of_length_le]; rw [List.length_drop, Hl.out]; omega] at BS
          by_cases hs : stb (l.drop (k + n)) = true
          · have hst := st_yes hs
            have h8 : 8 ≤ st (l.drop (k + n)) := by omega
            have hle : Hid (st (l.drop (k + n)) ≤ len - (k + n)) := Lib.hid (by have := st_le (l.drop (k + n)); rw [List.length_drop, Hl.out] at this; exact this)
            have hle2 : k + n + st (l.drop (k + n)) ≤ len := by have := hle.out; omega
            have Hgood := Lib.hid (scanP_good (off := k + n) hs)
            have Hn2 : Hid (n2 (l.drop (k + n)) = st (l.drop (k + n)) - 8) := Lib.hid (by omega)
            have Hs := Lib.hid hs
            clear hs hst
            by_cases hn0 : n = 0
            · subst hn0
              have BB := fun a' => hb.sub (k + 8) (st (l.drop k) - 8) (by simp at hle2 h8; omega) (a' := a')
              simp only [Nat.add_zero] at Hgood Hn2 Hs hle2 h8 BS ⊢
              gi_wp2_with (refine ⟨trivial, rfl, ?_⟩; gi_at_call 142; refine (callsIn_wide.2 (stands_any _ _ _ _ _ BS (by omega) (by omega))).mono ?_; rintro e W2 ⟨rfl, q, rfl⟩; rw [Hs.out]; generalize st (List.drop k l) = s at *)
              have E2 := E1.drN q
              generalize W1.drewN q = W2 at *
              refine ⟨fun _ h => (by cases h), ?_⟩
              have J2 := hW.stays i _ _ hJ E2
              have Z := Ow.zero W2 W2.heap.size rfl W2.heap.size (Nat.le_refl _)
              have hDi := drop_cons (Hdrop.out.trans Hgood.out)
              rw [Hn2.out] at hDi
              simp only [List.drop_drop] at hDi
              have HDi := Lib.hid hDi
              clear hDi
              gi_wp2_with (gi_at_builtin; refine wpi_app (s := .tmp 46) (x := .tmp 51) W2.heap.size (r := (l.drop (k + 8)).take (s - 8)) (s - 8) ((l.drop (k + 8)).take (s - 8)) rfl rfl Z (by rw [show k + s - (k + 8) = s - 8 by omega]; exact ((E2.al _).bs (BB _ (fun b' o' e h => cut_addr e (by omega))))) (by split <;> simp) (by omega) rfl (by omega) (by simp) ?_; intro a2 c2 W3 O2 G2; have E23 := ((Ext.refl W2).al (.cells #[] 5)).app Z (Nat.le_refl _) G2; have J3 := hW.stays _ _ _ J2 E23; obtain ⟨fn, tmps, assign, body, hy, hR⟩ := hW.round i W3 ⟨k, s, (l.drop (k + 8)).take (s - 8), true⟩ (.slice a2 (s - 8) c2) J3 HDi.out.1 ⟨a2, s - 8, c2, rfl, row_mono O2 (hW.size _ _ J2)⟩; dsimp only [partV] at hy; have HR := Lib.hid hR; clear hR; generalize (if cap = k + 8 then some (⟨b, o, none⟩ : Addr) else some ⟨b, o + (k + 8), none⟩) = ax)
              refine ⟨rfl, HR.out.mono ?_⟩
              rintro e W4 (⟨rfl, hJ4⟩ | ⟨rfl, hx⟩)
              · gi_wp2
                go_roundw
                case rel => exact ⟨k + s, i + 1, by go_num, by omega, HDi.out.2.2, HDi.out.2.1, hJ4⟩
                case measure => simp [intOf]; omega
              · gi_wp2
                refine bodyPost_ret (results_none rfl _ _ _) rfl ?_
                exact ⟨⟨_, rfl⟩, .inr hx⟩
            · have BB := fun a' => hb.sub (k + n + 8) (st (l.drop (k + n)) - 8) (by omega) (a' := a')
              have T1 : decide ((k : Int) < (k : Int) + (n : Int)) = true := by simp; omega
              have hkn : (k : Int) + (n : Int) - (k : Int) = (n : Int) := by omega
              have hjunk : Hid (junk (l.drop k) = n) := Lib.hid (junk_eq _ n (by rw [List.length_drop, Hl.out]; omega) Hn.out (.inr (by rw [List.drop_drop]; exact Hs.out)))
              have hDi := drop_cons (Hdrop.out.trans (scanP_bad (Hne.out) (Hn.out 0 (by omega))))
              rw [hjunk.out] at hDi
              simp only [List.drop_drop] at hDi
              have hDi2 := drop_cons (hDi.2.1.trans Hgood.out)
              rw [Hn2.out] at hDi2
              simp only [List.drop_drop] at hDi2
              have HDi := Lib.hid hDi
              have HDi2 := Lib.hid hDi2
              clear hDi hDi2
              gi_wp2_with (refine ⟨trivial, rfl, ?_⟩; gi_at_call 142; refine (callsIn_wide.2 (stands_any _ _ _ _ _ BS (by omega) (by omega))).mono ?_; rintro e W2 ⟨rfl, q, rfl⟩; rw [Hs.out]; generalize st (List.drop (k + n) l) = s at *; have E2 := E1.drN q; generalize W1.drewN q = W2 at *; have J2 := hW.stays i _ _ hJ E2; obtain ⟨fn, tmps, assign, body, hy, hR⟩ := hW.round i W2 ⟨k, n, [], false⟩ (.slice none 0 0) J2 HDi.out.1 ⟨none, 0, 0, rfl, World.ownsRow_nil _ _ _ _⟩; dsimp only [partV] at hy; have HR := Lib.hid hR; clear hR)
              refine ⟨rfl, HR.out.mono ?_⟩
              rintro e W3 (⟨rfl, J3⟩ | ⟨rfl, hx⟩)
              · clear hy HR
                have Z := Ow.zero W3 W3.heap.size rfl W3.heap.size (Nat.le_refl _)
                have hb3 := hW.bytes _ _ J3
                have BB3 := fun a' => (hb3.alloc (.cells #[] 5)).sub (k + n + 8) (s - 8) (by omega) (a' := a')
                clear BB hb E1 E2 J2 hJ
                gi_wp2_with (gi_at_builtin; refine wpi_app (s := .tmp 46) (x := .tmp 51) W3.heap.size (r := (l.drop (k + n + 8)).take (s - 8)) (s - 8) ((l.drop (k + n + 8)).take (s - 8)) rfl rfl Z (by rw [show k + n + s - (k + n + 8) = s - 8 by omega]; exact (BB3 _ (fun b' o' e h => cut_addr e (by omega)))) (by split <;> simp) (by omega) rfl (by omega) (by simp) ?_; intro a2 c2 W4 O2 G2; have E34 := ((Ext.refl W3).al (.cells #[] 5)).app Z (Nat.le_refl _) G2; have J4 := hW.stays _ _ _ J3 E34; obtain ⟨fn, tmps, assign, body, hy, hR⟩ := hW.round (i + 1) W4 ⟨k + n, s, (l.drop (k + n + 8)).take (s - 8), true⟩ (.slice a2 (s - 8) c2) J4 HDi2.out.1 ⟨a2, s - 8, c2, rfl, row_mono O2 (hW.size _ _ J3)⟩; dsimp only [partV] at hy; simp only [Int.natCast_add] at hy; have HR := Lib.hid hR; clear hR; generalize (if cap = k + n + 8 then some (⟨b, o, none⟩ : Addr) else some ⟨b, o + (k + n + 8), none⟩) = ax)
                refine ⟨rfl, HR.out.mono ?_⟩
                rintro e W5 (⟨rfl, hJ5⟩ | ⟨rfl, hx⟩)
                · gi_wp2
                  go_roundw
                  case rel => exact ⟨k + n + s, i + 1 + 1, by go_num, by omega, HDi2.out.2.2, HDi2.out.2.1, hJ5⟩
                  case measure => simp [intOf]; omega
                · gi_wp2
                  refine bodyPost_ret (results_none rfl _ _ _) rfl ?_
                  exact ⟨⟨_, rfl⟩, .inr hx⟩
              · gi_wp2
                refine bodyPost_ret (results_none rfl _ _ _) rfl ?_
                exact ⟨⟨_, rfl⟩, .inr hx⟩
          · have hs0 : stb (l.drop (k + n)) = false := by simpa using hs
            have Hs := Lib.hid hs0
            clear hs hs0
            gi_wp2_with (refine ⟨trivial, rfl, ?_⟩; gi_at_call 142; refine (callsIn_wide.2 (stands_any _ _ _ _ _ BS (by omega) (by omega))).mono ?_; rintro e W2 ⟨rfl, q, rfl⟩; rw [Hs.out])
            go_roundw
            case rel => exact ⟨n + 1, by omega, by go_num, ⟨_, rfl⟩, rfl, E1.drN q, Lib.hid (fun m hm => by
              by_cases e : m = n
              · rw [e, List.drop_drop]; exact Hs.out
              · exact Hn.out m (by omega))⟩
            case measure => simp [intOf]; omega
        · have hkl : k + n = len := by omega
          have hn0 : 0 < n := by omega
          have T1 : decide ((k : Int) < (k : Int) + (n : Int)) = true := by simp; omega
          have hkn : (k : Int) + (n : Int) - (k : Int) = (n : Int) := by omega
          have hjunk : Hid (junk (l.drop k) = n) := Lib.hid (junk_eq _ n (by rw [List.length_drop, Hl.out]; omega) Hn.out (.inl (by rw [List.length_drop, Hl.out]; omega)))
          have hDi := drop_cons (Hdrop.out.trans (scanP_bad (Hne.out) (Hn.out 0 (by omega))))
          rw [hjunk.out] at hDi
          simp only [List.drop_drop] at hDi
          rw [hkl, show l.drop len = [] by rw [List.drop_eq_nil_of_le]; rw [Hl.out]; omega] at hDi
          have HDi := Lib.hid hDi
          have Hkl := Lib.hid hkl
          clear hDi hkl
          have J2 := hW.stays i _ _ hJ E1
          obtain ⟨fn, tmps, assign, body, hy, hR⟩ := hW.round i W1 ⟨k, n, [], false⟩ (.slice none 0 0) J2 HDi.out.1 ⟨none, 0, 0, rfl, World.ownsRow_nil _ _ _ _⟩
          dsimp only [partV] at hy
          have HR := Lib.hid hR
          clear hR
          gi_wp2
          refine ⟨rfl, HR.out.mono ?_⟩
          rintro e W3 (⟨rfl, J3⟩ | ⟨rfl, hx⟩)
          · gi_wp2
            refine bodyPost_ret (results_none rfl _ _ _) rfl ?_
            refine ⟨⟨_, rfl⟩, .inl ?_⟩
            have h1 : D.length ≤ i + 1 := List.drop_eq_nil_iff.1 HDi.out.2.1
            rw [show D.length = i + 1 by have := HDi.out.2.2; omega]
            exact J3
          · gi_wp2
            refine bodyPost_ret (results_none rfl _ _ _) rfl ?_
            exact ⟨⟨_, rfl⟩, .inr hx⟩
    · gi_wp2
      go_end0
      refine ⟨⟨_, rfl⟩, .inl ?_⟩
      have h0 := Hdrop.out
      rw [show l.drop k = [] by rw [List.drop_eq_nil_of_le]; rw [Hl.out]; omega] at h0
      have h1 : D.length ≤ i := List.drop_eq_nil_iff.1 h0
      rw [show D.length = i by omega]
      exact hJ
end Go.Proofs.Ytknllmcpogoeoaa
