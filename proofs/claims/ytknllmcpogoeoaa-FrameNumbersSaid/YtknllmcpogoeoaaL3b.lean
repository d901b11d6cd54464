/- law03's helpers: file; the reference's File and Bodies. -/
import Derived.Test.YtknllmcpogoeoaaL3a
import Derived.Test.YtknllmcpogoeoaaFp
import Derived.Test.YtknllmcpogoeoaaFr2
import Derived.Test.YtknllmcpogoeoaaFr3
import Derived.Test.YtknllmcpogoeoaaFr5
namespace Go.Proofs.Ytknllmcpogoeoaa
open Go.RowKit
set_option linter.unusedVariables false
set_option linter.unusedSimpArgs false
theorem Prow.at {e : Nat} {w : World} {B : Nat} {a : Option Addr} {c : Nat} {rows : List (Value × PartS)} (h : Prow e w B a c rows) (k : Nat) (r : Value × PartS) (hr : rows[k]? = some r) :
    ∃ g a1 n1 c1, a = some ⟨g, 0, none⟩ ∧ r.1 = .slice a1 n1 c1 ∧ Ow w B a1 n1 c1 r.2.body ∧ w.cell? ⟨g, k * 4, none⟩ = some (.int .i64 (r.2.off : Int)) ∧ w.cell? ⟨g, k * 4 + 1, none⟩ = some (.int .i64 (r.2.len : Int)) ∧
      w.cell? ⟨g, k * 4 + 2, none⟩ = some (.slice a1 n1 c1) ∧ w.cell? ⟨g, k * 4 + 3, none⟩ = some (.bool r.2.good) := by
  have hk := (List.getElem?_eq_some_iff.1 hr).1
  obtain ⟨a1, n1, c1, e1, o1⟩ := h.2 r (List.mem_of_getElem? hr)
  rcases h.1.2 with ⟨_, h0⟩ | ⟨g, cap, cur, e2, hg, hh, hn, hm, hs, ht⟩
  · omega
  · simp only [Value.slice.injEq] at e2
    have hc : ∀ j u, j < 4 → (pcells r)[j]? = some u → w.cell? ⟨g, k * 4 + j, none⟩ = some u := fun j u hj hu => by
      rw [cell_of_row w g (k * 4 + j) cur e (0, 0) hh]
      rw [← pcells_get rows k r hr j hj, ← ht, List.getElem?_take, if_pos (by omega)] at hu
      simpa using hu
    refine ⟨g, a1, n1, c1, e2.1, e1, o1, hc 0 _ (by omega) rfl, hc 1 _ (by omega) rfl, ?_, hc 3 _ (by omega) rfl⟩
    rw [← e1]
    exact hc 2 _ (by omega) rfl
theorem Prow.past {e : Nat} {w w' : World} {B : Nat} {a : Option Addr} {c : Nat} {rows : List (Value × PartS)} (h : Prow e w B a c rows) {B' e' s n : Nat} {v : Value} {xs : List Value} (ho : w.ownsRow B' e' s v n xs) (hne : e ≠ e') (h5 : 5 ≠ e')
    (hg : w.grownBy w' v.ownBlock) : Prow e w' B a c rows :=
  ⟨row_past h.1 ho hne hg, fun r hr => by
    obtain ⟨a1, n1, c1, e1, o1⟩ := h.2 r hr
    exact ⟨a1, n1, c1, e1, row_past o1 ho h5 hg⟩⟩
def RBodRel (l : List UInt8) (w : World) (pa : Option Addr) (pc : Nat) (prow : List (Value × PartS)) (v4 v5 i : Value) (wr : World) : Prop :=
  ∃ (k : Nat) (rows : List (Value × List UInt8)) (a : Option Addr) (c : Nat), k ≤ prow.length ∧ i = .int .i64 (k : Int) ∧ v4 = .slice a rows.length c ∧ v5 = .int .i64 (lostL ((scanP 0 l).take k) : Int) ∧ Vrow wr w.heap.size a c rows ∧ rows.map (·.2) = bodL ((scanP 0 l).take k) ∧ Prow 173 wr w.heap.size pa pc prow ∧ Ext w wr
def FileRel (ls : List (List UInt8)) (w : World) (len : Nat) (v i : Value) (wr : World) : Prop :=
  ∃ (k : Nat) (a : Option Addr) (n c : Nat), k ≤ len ∧ i = .int .i64 (k : Int) ∧ v = .slice a n c ∧ Ow wr w.heap.size a n c (fileOf (ls.take k)) ∧ Ext w wr
set_option maxRecDepth 100000 in
set_option maxHeartbeats 1600000 in
theorem rbodies_any (ap : Option Addr) (len cap : Nat) (l : List UInt8) (w : World) (hb : Bs w ap len l) (hm : len ≤ 1099511627776) (hc : len ≤ cap) :
    Calls Try.prog 39 #[.slice ap len cap] w (BodPost l w) := by
  go_enter Try.func39, Try.ntmps39
  go_wp2_with (go_at_call 37; refine (rscan_any ap len cap l w hb hm hc).mono ?_; rintro e w1 ⟨pa, pc, prow, rfl, P1, hD, E1⟩)
  have hpl : prow.length = (scanP 0 l).length := by rw [← hD]; simp
  have Hpl := Lib.hid hpl
  clear hpl
  go_loopw [4, 5, 11] (fun v4 v5 i wr => RBodRel l w pa pc prow v4 v5 i wr) (fun _ _ i _ => prow.length - (intOf i).toNat)
  case atStart => exact ⟨0, [], none, 0, by omega, rfl, rfl, by simp [lostL], Vrow.nil _ _, by simp [bodL], P1, E1⟩
  case round =>
    obtain ⟨k, rows, a, c, hk, rfl, rfl, rfl, V, hrw, P, E⟩ := hrel
    rename World => W
    by_cases hkn : k < prow.length
    · have hkb : decide ((k : Int) < (prow.length : Int)) = true := by simp; omega
      obtain ⟨r, hr⟩ : ∃ r, prow[k]? = some r := ⟨_, List.getElem?_eq_getElem hkn⟩
      have hp : (scanP 0 l)[k]? = some r.2 := by rw [← hD, List.getElem?_map, hr]; rfl
      have htk : (scanP 0 l).take (k + 1) = (scanP 0 l).take k ++ [r.2] := by simp [List.take_add_one, hp]
      have hll := lost_le l 0
      have hl1 := lost_take (scanP 0 l) (k + 1)
      have hsl := scanP_len l 0
      have hbl := hb.leng
      have hkl : k < l.length := by have := Hpl.out; omega
      have hrl : rows.length ≤ k := by
        have h1 := congrArg List.length hrw
        have h2 := bodL_len (scanP 0 l) k
        rw [List.length_map] at h1
        omega
      rw [htk, lostL_append] at hl1
      have Htk := Lib.hid htk
      have Hrw := Lib.hid hrw
      clear htk hp hrw
      obtain ⟨g, a1, n1, c1, rfl, e1, o1, d0, d1, d2, d3⟩ := P.at k r hr
      clear hr
      obtain ⟨v, po, pl, pb, pg⟩ := r
      dsimp only at e1 o1 d0 d1 d2 d3 hl1 Htk
      subst e1
      have hz := E.sz
      cases pg with
      | true =>
        rw [show lostL [(⟨po, pl, pb, true⟩ : PartS)] = 0 from rfl] at hl1
        go_wp2_with (at_builtin; refine wp_appE el37 (s := .tmp 17) (x := .tmp 20) w.heap.size [.slice a1 n1 c1] (rows.length + 1) rfl rfl (row_al (row_al V.1 _) _) rfl (news_at (W.alloc (.cells (pcells (.slice a1 n1 c1, ⟨po, pl, pb, true⟩)).toArray 173)) _ (by simp) _ 22) (by simp [Value.oneCell']) rfl (by omega) (by omega) (by simp <;> omega) (by omega) ?_; intro g3 c3 w3 O3 G3)
        have EA := ((Ext.refl W).al (.cells (pcells (.slice a1 n1 c1, ⟨po, pl, pb, true⟩)).toArray 173)).al (.cells #[.slice a1 n1 c1] 22)
        have R0 := row_al (row_al V.1 (.cells (pcells (.slice a1 n1 c1, ⟨po, pl, pb, true⟩)).toArray 173)) (.cells #[.slice a1 n1 c1] 22)
        have V3 := (V.ext EA).snoc (r := (.slice a1 n1 c1, pb)) ⟨a1, n1, c1, rfl, EA.row o1⟩ G3 O3
        have P3 := (P.ext EA).past R0 (by decide) (by decide) G3
        have E3 := (E.tr EA).app R0 (Nat.le_refl _) G3
        go_roundw
        case rel =>
          refine ⟨k + 1, rows ++ [(.slice a1 n1 c1, pb)], _, c3, by omega, by go_num, by simp, ?_, V3, ?_, P3, E3⟩
          · rw [Htk.out, lostL_append]; rfl
          · rw [Htk.out, bodL_append, List.map_append, Hrw.out]; rfl
        case measure => simp [intOf]; omega
      | false =>
        have hlp : lostL [(⟨po, pl, pb, false⟩ : PartS)] = pl := by simp [lostL]
        rw [hlp] at hl1
        have hwr : IntKind.i64.wrap ((lostL ((scanP 0 l).take k) : Int) + (pl : Int)) = (lostL ((scanP 0 l).take k) : Int) + (pl : Int) := IntWalk.i64_in _ (by omega)
        go_wp2
        have EA := (Ext.refl W).al (.cells (pcells (.slice a1 n1 c1, ⟨po, pl, pb, false⟩)).toArray 173)
        go_roundw
        case rel =>
          refine ⟨k + 1, rows, _, c, by omega, by go_num, rfl, ?_, V.ext EA, ?_, P.ext EA, E.tr EA⟩
          · rw [Htk.out, lostL_append, hlp]; simp
          · rw [Htk.out, bodL_append, Hrw.out]; simp [bodL]
        case measure => simp [intOf]; omega
    · have hkb : decide ((k : Int) < (prow.length : Int)) = false := by simp; omega
      go_wp2
      go_ret2
      have hkk : (scanP 0 l).take k = scanP 0 l := List.take_of_length_le (by have := Hpl.out; omega)
      rw [hkk] at hrw ⊢
      exact ⟨a, c, rows, rfl, V, hrw, E⟩
theorem fileOf_snoc (ls : List (List UInt8)) (k : Nat) (x : List UInt8) (h : ls[k]? = some x) : fileOf (ls.take (k + 1)) = fileOf (ls.take k) ++ frameOf x := by
  rw [List.take_add_one, h]
  simp [fileOf]
theorem fileOf_len (ls : List (List UInt8)) (h : ∀ x ∈ ls, x.length ≤ 4000) : (fileOf ls).length ≤ 4008 * ls.length := by
  induction ls with
  | nil => simp [fileOf]
  | cons x r ih =>
    have h1 := ih (fun y hy => h y (by simp [hy]))
    have h2 := h x (by simp)
    have : fileOf (x :: r) = frameOf x ++ fileOf r := by simp [fileOf]
    rw [this, List.length_append, frameOf_len, List.length_cons]
    omega
theorem fileOf_take_len (ls : List (List UInt8)) (h : ∀ x ∈ ls, x.length ≤ 4000) (k : Nat) : (fileOf (ls.take k)).length ≤ 4008 * k := by
  have h1 := fileOf_len (ls.take k) (fun x hx => h x (List.mem_of_mem_take hx))
  rw [List.length_take] at h1
  omega
set_option maxRecDepth 100000 in
set_option maxHeartbeats 1600000 in
theorem rfile_any (ap : Option Addr) (len cap : Nat) (ls : List (List UInt8)) (w : World) (hb : Ls w ap len ls) (hn : len ≤ 1000000) (h4 : ∀ x ∈ ls, x.length ≤ 4000) :
    Calls Try.prog 43 #[.slice ap len cap] w (fun e w' => ∃ a n c, e = .returned (.slice a n c) ∧ Ow w' w.heap.size a n c (fileOf ls) ∧ Ext w w') := by
  have hbl := hb.leng
  go_enter Try.func43, Try.ntmps43
  go_wp2
  go_loopw [3, 8] (fun v i wr => FileRel ls w len v i wr) (fun _ i _ => len - (intOf i).toNat)
  case atStart => exact ⟨0, none, 0, 0, by omega, rfl, rfl, World.ownsRow_nil _ _ _ _, Ext.refl w⟩
  case round =>
    obtain ⟨k, a, n, c, hk, rfl, rfl, O, E⟩ := hrel
    rename World => W
    by_cases hkn : k < len
    · have hkb : decide ((k : Int) < (len : Int)) = true := by simp; omega
      obtain ⟨x, hx⟩ : ∃ x, ls[k]? = some x := ⟨_, List.getElem?_eq_getElem (by omega)⟩
      have hsn := fileOf_snoc ls k x hx
      have hft := fileOf_take_len ls h4 k
      have hx4 : x.length ≤ 4000 := h4 x (List.mem_of_getElem? hx)
      have hon := O.leng
      obtain ⟨b, o, p, u, r, rfl, hcl, hbs, hur, hpn, hum⟩ := (E.ls hb).at k hkn
      rw [hx] at hbs
      dsimp only [Option.getD_some] at hbs
      have hxl := hbs.leng
      subst hxl
      have hz := E.sz
      have Hsn := Lib.hid hsn
      clear hsn hx
      go_wp2_with (first
        | (go_at_call 34; refine (rframe_any p x.length r x W hbs (by omega) hpn).mono ?_; rintro e w1 ⟨a1, c1, rfl, O1, E1⟩; have O0 := E1.row O; have hz1 := E1.sz)
        | (at_builtin; refine wp_app (s := .tmp 12) (x := .tmp 14) w.heap.size (n + (8 + x.length)) (fileOf (ls.take (k + 1))) rfl rfl O0 O1.bs O1.cap.2 rfl Hsn.out (by omega) (by omega) ?_; intro a2 c2 w2 O2 G2; have E2 := (E.tr E1).app O0 (Nat.le_refl _) G2))
      go_roundw
      case rel => exact ⟨k + 1, a2, _, c2, by omega, by go_num, rfl, O2, E2⟩
      case measure => simp [intOf]; omega
    · have hkb : decide ((k : Int) < (len : Int)) = false := by simp; omega
      go_wp2
      go_ret
      rw [List.take_of_length_le (by omega)] at O
      exact ⟨a, n, c, rfl, O, E⟩
set_option maxRecDepth 100000 in
set_option maxHeartbeats 1600000 in
theorem file_any (ap : Option Addr) (len cap : Nat) (ls : List (List UInt8)) (w : World) (hb : Ls w ap len ls) (hn : len ≤ 1000000) (h4 : ∀ x ∈ ls, x.length ≤ 4000) :
    Calls Try.prog 42 #[.slice ap len cap] w (fun e w' => ∃ a n c, e = .returned (.tuple #[.slice a n c, .bool true]) ∧ Ow w' w.heap.size a n c (fileOf ls) ∧ Ext w w') := by
  have hbl := hb.leng
  go_enter Try.func42, Try.ntmps42
  go_wp2
  go_loopw [4, 11] (fun v i wr => FileRel ls w len v i wr) (fun _ i _ => len - (intOf i).toNat)
  case atStart => exact ⟨0, none, 0, 0, by omega, rfl, rfl, World.ownsRow_nil _ _ _ _, Ext.refl w⟩
  case round =>
    obtain ⟨k, a, n, c, hk, rfl, rfl, O, E⟩ := hrel
    rename World => W
    by_cases hkn : k < len
    · have hkb : decide ((k : Int) < (len : Int)) = true := by simp; omega
      obtain ⟨x, hx⟩ : ∃ x, ls[k]? = some x := ⟨_, List.getElem?_eq_getElem (by omega)⟩
      have hsn := fileOf_snoc ls k x hx
      have hft := fileOf_take_len ls h4 k
      have hx4 : x.length ≤ 4000 := h4 x (List.mem_of_getElem? hx)
      have hon := O.leng
      obtain ⟨b, o, p, u, r, rfl, hcl, hbs, hur, hpn, hum⟩ := (E.ls hb).at k hkn
      rw [hx] at hbs
      dsimp only [Option.getD_some] at hbs
      have hz := E.sz
      have Hsn := Lib.hid hsn
      clear hsn hx
      go_wp2_with (go_at_call 33; (refine (append_any a p n c u r (fileOf (ls.take k)) x W O.bs hbs (by omega) (by omega) O.cap.2 hpn).mono ?_; intro e w2 hp; unfold AppendPost at hp; rw [if_neg (by omega)] at hp; obtain ⟨a2, n2', c2, rfl, O2, hn2, E2⟩ := hp; have hn3 : n2' = n + (8 + x.length) := (by omega); clear hn2; subst hn3; rw [← Hsn.out] at O2; have E3 : Ext w w2 := E.tr E2; have O3 := row_mono O2 hz))
      go_roundw
      case rel => exact ⟨k + 1, a2, _, c2, by omega, by go_num, rfl, O3, E3⟩
      case measure => simp [intOf]; omega
    · have hkb : decide ((k : Int) < (len : Int)) = false := by simp; omega
      go_wp2
      go_ret2
      rw [List.take_of_length_le (by omega)] at O
      exact ⟨a, n, c, rfl, O, E⟩
end Go.Proofs.Ytknllmcpogoeoaa
