/- law03's helpers: file; the reference's File and Bodies. -/
import Derived.Test.YtknllmcpogoeoaaDoorL3a
import Derived.Test.YtknllmcpogoeoaaDoorFp
import Derived.Test.YtknllmcpogoeoaaDoorFr2
namespace Go.Proofs.YtknllmcpogoeoaaDoor
open Go.RowKit
set_option linter.unusedVariables false
set_option linter.unusedSimpArgs false
theorem Prow.at {e : Nat} {w : World} {B : Nat} {a : Option Addr} {c : Nat} {rows : List (Value × PartS)} (h : Prow e w B a c rows) (k : Nat) (r : Value × PartS) (hr : rows[k]? = some r) :
    ∃ g a1 n1 c1, a = some ⟨g, 0, none⟩ ∧ r.1 = .slice a1 n1 c1 ∧ Ow w B a1 n1 c1 r.2.body ∧ w.cell? ⟨g, k * 4, none⟩ = some (.int .i64 (r.2.off : Int)) ∧ w.cell? ⟨g, k * 4 + 1, none⟩ = some (.int .i64 (r.2.len : Int)) ∧
      w.cell? ⟨g, k * 4 + 2, none⟩ = some (.slice a1 n1 c1) ∧ w.cell? ⟨g, k * 4 + 3, none⟩ = some (.bool r.2.good) := by
  have hk := (List.getElem?_eq_some_iff.1 hr).1
  obtain ⟨a1, n1, c1, e1, o1⟩ := h.2 r (List.mem_of_getElem? hr)
  rcases h.1.2 with ⟨_, h0⟩ | ⟨g, cap, cur, e2, hg, hh, hn, hm, hs, ht⟩
  · omega
  · simp only [Value.slice.injEq] at e2
    have hc : ∀ j u, j < 4 → (pcells r)[j]? = some u → w.cell? ⟨g, k * 4 + j, none⟩ = some u := fun j u hj hu => by
      rw [cell_of_row w g (k * 4 + j) cur e (0, 0) hh]
      rw [← pcells_get rows k r hr j hj, ← ht, List.getElem?_take, if_pos (by omega)] at hu
      simpa using hu
    refine ⟨g, a1, n1, c1, e2.1, e1, o1, hc 0 _ (by omega) rfl, hc 1 _ (by omega) rfl, ?_, hc 3 _ (by omega) rfl⟩
    rw [← e1]
    exact hc 2 _ (by omega) rfl
theorem Prow.past {e : Nat} {w w' : World} {B : Nat} {a : Option Addr} {c : Nat} {rows : List (Value × PartS)} (h : Prow e w B a c rows) {B' e' s n : Nat} {v : Value} {xs : List Value} (ho : w.ownsRow B' e' s v n xs) (hne : e ≠ e') (h5 : 5 ≠ e')
    (hg : w.grownBy w' v.ownBlock) : Prow e w' B a c rows :=
  ⟨row_past h.1 ho hne hg, fun r hr => by
    obtain ⟨a1, n1, c1, e1, o1⟩ := h.2 r hr
    exact ⟨a1, n1, c1, e1, row_past o1 ho h5 hg⟩⟩
def RBodRel (l : List UInt8) (w : World) (pa : Option Addr) (pc : Nat) (prow : List (Value × PartS)) (v4 v5 i : Value) (wr : World) : Prop :=
  ∃ (k : Nat) (rows : List (Value × List UInt8)) (a : Option Addr) (c : Nat), k ≤ prow.length ∧ i = .int .i64 (k : Int) ∧ v4 = .slice a rows.length c ∧ v5 = .int .i64 (lostL ((scanP 0 l).take k) : Int) ∧ Vrow wr w.heap.size a c rows ∧ rows.map (·.2) = bodL ((scanP 0 l).take k) ∧ Prow 173 wr w.heap.size pa pc prow ∧ Ext w wr
def FileRel (ls : List (List UInt8)) (w : World) (len : Nat) (v i : Value) (wr : World) : Prop :=
  ∃ (k : Nat) (a : Option Addr) (n c : Nat), k ≤ len ∧ i = .int .i64 (k : Int) ∧ v = .slice a n c ∧ Ow wr w.heap.size a n c (fileOf (ls.take k)) ∧ Ext w wr
theorem fileOf_snoc (ls : List (List UInt8)) (k : Nat) (x : List UInt8) (h : ls[k]? = some x) : fileOf (ls.take (k + 1)) = fileOf (ls.take k) ++ frameOf x := by
  rw [List.take_add_one, h]
  simp [fileOf]
theorem fileOf_len (ls : List (List UInt8)) (h : ∀ x ∈ ls, x.length ≤ 4000) : (fileOf ls).length ≤ 4008 * ls.length := by
  induction ls with
  | nil => simp [fileOf]
  | cons x r ih =>
    have h1 := ih (fun y hy => h y (by simp [hy]))
    have h2 := h x (by simp)
    have : fileOf (x :: r) = frameOf x ++ fileOf r := by simp [fileOf]
    rw [this, List.length_append, frameOf_len, List.length_cons]
    omega
theorem fileOf_take_len (ls : List (List UInt8)) (h : ∀ x ∈ ls, x.length ≤ 4000) (k : Nat) : (fileOf (ls.take k)).length ≤ 4008 * k := by
  have h1 := fileOf_len (ls.take k) (fun x hx => h x (List.mem_of_mem_take hx))
  rw [List.length_take] at h1
  omega
set_option maxRecDepth 100000 in
set_option maxHeartbeats 1600000 in
theorem file_any (ap : Option Addr) (len cap : Nat) (ls : List (List UInt8)) (w : World) (hb : Ls w ap len ls) (hn : len ≤ 1000000) (h4 : ∀ x ∈ ls, x.length ≤ 4000) :
    Calls Tryd.prog 36 #[.slice ap len cap] w (fun e w' => ∃ a n c, e = .returned (.tuple #[.slice a n c, .bool true]) ∧ Ow w' w.heap.size a n c (fileOf ls) ∧ Ext w w') := by
  have hbl := hb.leng
  go_enter Tryd.func36, Tryd.ntmps36
  go_wp2
  go_loopw [4, 11] (fun v i wr => FileRel ls w len v i wr) (fun _ i _ => len - (intOf i).toNat)
  case atStart => exact ⟨0, none, 0, 0, by omega, rfl, rfl, World.ownsRow_nil _ _ _ _, Ext.refl w⟩
  case round =>
    obtain ⟨k, a, n, c, hk, rfl, rfl, O, E⟩ := hrel
    rename World => W
    by_cases hkn : k < len
    · have hkb : decide ((k : Int) < (len : Int)) = true := by simp; omega
      obtain ⟨x, hx⟩ : ∃ x, ls[k]? = some x := ⟨_, List.getElem?_eq_getElem (by omega)⟩
      have hsn := fileOf_snoc ls k x hx
      have hft := fileOf_take_len ls h4 k
      have hx4 : x.length ≤ 4000 := h4 x (List.mem_of_getElem? hx)
      have hon := O.leng
      obtain ⟨b, o, p, u, r, rfl, hcl, hbs, hur, hpn, hum⟩ := (E.ls hb).at k hkn
      rw [hx] at hbs
      dsimp only [Option.getD_some] at hbs
      have hz := E.sz
      have Hsn := Lib.hid hsn
      clear hsn hx
      go_wp2_with (go_at_call 49; (refine (append_any a p n c u r (fileOf (ls.take k)) x W O.bs hbs (by omega) (by omega) O.cap.2 hpn).mono ?_; intro e w2 hp; unfold AppendPost at hp; rw [if_neg (by omega)] at hp; obtain ⟨a2, n2', c2, rfl, O2, hn2, E2⟩ := hp; have hn3 : n2' = n + (8 + x.length) := (by omega); clear hn2; subst hn3; rw [← Hsn.out] at O2; have E3 : Ext w w2 := E.tr E2; have O3 := row_mono O2 hz))
      go_roundw
      case rel => exact ⟨k + 1, a2, _, c2, by omega, by go_num, rfl, O3, E3⟩
      case measure => simp [intOf]; omega
    · have hkb : decide ((k : Int) < (len : Int)) = false := by simp; omega
      go_wp2
      go_ret2
      rw [List.take_of_length_le (by omega)] at O
      exact ⟨a, n, c, rfl, O, E⟩
end Go.Proofs.YtknllmcpogoeoaaDoor
