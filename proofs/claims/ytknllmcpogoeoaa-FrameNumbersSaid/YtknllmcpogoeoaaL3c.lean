/- law03's few, walked. -/
import Derived.Test.YtknllmcpogoeoaaL3b
namespace Go.Proofs.Ytknllmcpogoeoaa
open Go.RowKit
set_option linter.unusedVariables false
set_option linter.unusedSimpArgs false
def fewS (ls : List (List UInt8)) : List (List UInt8) := (ls.take 8).map (·.take 60)
def FewRel (ls : List (List UInt8)) (w : World) (len : Nat) (v i : Value) (wr : World) : Prop :=
  ∃ (k : Nat) (rows : List (Value × List UInt8)) (a : Option Addr) (c : Nat), k ≤ len ∧ k ≤ 8 ∧ i = .int .i64 (k : Int) ∧ v = .slice a k c ∧ wr.ownsRow w.heap.size 22 1 (.slice a k c) k (rows.map (·.1)) ∧ (∀ r ∈ rows, Sl w r.1 r.2) ∧
    rows.map (·.2) = (ls.take k).map (·.take 60) ∧ Ext w wr
theorem rows_ls {w0 w : World} {B n c : Nat} {a : Option Addr} {rows : List (Value × List UInt8)} (E : Ext w0 w) (O : w.ownsRow B 22 1 (.slice a n c) n (rows.map (·.1))) (hS : ∀ r ∈ rows, Sl w0 r.1 r.2) : Ls w a n (rows.map (·.2)) := by
  have hl : rows.length = n := by have := O.1; simpa using this
  subst hl
  refine ⟨by simp, fun k hk => ?_⟩
  rcases O.2 with ⟨e, h0⟩ | ⟨g, cap, cur, e, hg, hh, hr⟩
  · omega
  · simp only [Value.slice.injEq] at e
    refine ⟨g, 0, rows[k].1, e.1, ?_, ?_⟩
    · rw [Nat.zero_add, cell_of_row w g k cur 22 (0, 0) hh]
      have hk' : (rows.map (·.1))[k]? = some rows[k].1 := by rw [List.getElem?_map, List.getElem?_eq_getElem hk]; rfl
      rw [← hr.2.2.2, List.getElem?_take, if_pos (by omega)] at hk'
      simpa using hk'
    · rw [List.getElem?_map, List.getElem?_eq_getElem hk]
      exact (hS rows[k] (List.getElem_mem hk)).ext E
set_option maxRecDepth 100000 in
set_option maxHeartbeats 1600000 in
theorem few_any (ap : Option Addr) (len cap : Nat) (ls : List (List UInt8)) (w : World) (hb : Ls w ap len ls) (hn : len ≤ 140737488351232) :
    Calls Try.prog 41 #[.slice ap len cap] w (fun e w' => ∃ a n c, e = .returned (.slice a n c) ∧ n ≤ 8 ∧ n ≤ c ∧ Ls w' a n (fewS ls) ∧ Ext w w') := by
  have hbl := hb.leng
  go_enter Try.func41, Try.ntmps41
  go_wp2
  go_loopw [3, 4] (fun v i wr => FewRel ls w len v i wr) (fun _ i _ => 8 - (intOf i).toNat)
  case atStart => exact ⟨0, [], none, 0, by omega, by omega, rfl, rfl, World.ownsRow_nil _ _ _ _, (fun r h => by cases h), by simp, Ext.refl w⟩
  case round =>
    obtain ⟨k, rows, a, c, hk, hk8, rfl, rfl, O, hS, hrw, E⟩ := hrel
    rename World => W
    by_cases hkn : k < len ∧ k < 8
    · have q1 : decide ((k : Int) < (len : Int)) = true := by simp; omega
      have q2 : decide ((k : Int) < (8 : Int)) = true := by simp; omega
      obtain ⟨b, o, p, u, r, rfl, hcw, hbs, hur, hpn, hum⟩ := hb.at k hkn.1
      have hcl := E.cell hcw
      have hbw : b < w.heap.size := World.block_lt_of_cell? w _ hcw
      have hxl := hbs.leng
      have q3 : (k : Int) < (len : Int) := by omega
      have q4 : (0 : Int) ≤ (k : Int) := by omega
      obtain ⟨m, hm⟩ : ∃ m : Nat, m = min u 60 := ⟨_, rfl⟩
      have hSl : Sl w (.slice p m r) ((ls[k]?.getD []).take 60) := by
        refine ⟨p, m, r, rfl, ?_, by omega, hpn, by omega⟩
        have := hbs.sub 0 m (by omega) (a' := p) (fun b' o' e _ => by rw [e]; simp)
        rw [List.drop_zero] at this
        rw [show (ls[k]?.getD []).take 60 = (ls[k]?.getD []).take m by
          by_cases h : u ≤ 60
          · rw [List.take_of_length_le (by omega), List.take_of_length_le (by omega)]
          · rw [show m = 60 by omega]]
        exact this
      have htk : (ls.take (k + 1)).map (·.take 60) = (ls.take k).map (·.take 60) ++ [(ls[k]?.getD []).take 60] := by
        rw [List.take_add_one, List.getElem?_eq_getElem (by omega)]
        simp only [Option.toList_some, List.map_append, List.map_cons, List.map_nil, Option.getD_some]
      have Htk := Lib.hid htk
      have Hrw := Lib.hid hrw
      have HSl := Lib.hid hSl
      have hz := E.sz
      clear hrw htk hSl hcw hbs hxl
      go_wp2
      have q5 : (m : Int) ≤ (r : Int) := by omega
      have q6 : (0 : Int) ≤ (m : Int) := by omega
      rcases Nat.lt_or_ge 60 u with hlt | hge
      · have hA : ((60 : Int) < (u : Int)) = True := by simp; omega
        obtain rfl : m = 60 := by omega
        clear hm
        have q7 : (60 : Int) ≤ (r : Int) := by omega
        go_region_held3 (fun w' => w'.cell? ⟨b, o + k, none⟩ = some (.slice p u r)) (first | go_keep | exact cell_keptB (by assumption) (row_al (show W.drew.ownsRow _ _ _ _ _ _ from O) _) G3 hbw)
          (first
            | (refine step_appE el37 (by rfl) (.tmp 15) (.tmp 27) (by rfl) w.heap.size [.slice p 60 r] (k + 1) (by rfl) (by rfl) (row_al (show W.drew.ownsRow _ _ _ _ _ _ from O) _) rfl (news_at W.drew _ rfl _ 22) (by simp [Value.oneCell']) rfl (by omega) (by omega) (by simp <;> omega) (by omega) ?_; intro g3 c3 w3 O3 G3))
        have EA := (E.dr).al (.cells #[.slice p 60 r] 22)
        have R0 := row_al (show W.drew.ownsRow w.heap.size 22 1 (.slice a k c) k (rows.map (·.1)) from O) (.cells #[.slice p 60 r] 22)
        have E3 := EA.app R0 (Nat.le_refl _) G3
        go_wp2
        go_roundw
        case rel =>
          refine ⟨k + 1, rows ++ [(.slice p 60 r, (ls[k]?.getD []).take 60)], _, c3, by omega, by omega, by go_num, rfl, by simpa using O3, ?_, ?_, E3⟩
          · intro x hx
            rcases List.mem_append.1 hx with hx | hx
            · exact hS x hx
            · rw [List.mem_singleton.1 hx]; exact HSl.out
          · rw [Htk.out, List.map_append, Hrw.out]; rfl
        case measure => simp [intOf]; omega
      · have hA : ((60 : Int) < (u : Int)) = False := by simp; omega
        obtain rfl : m = u := by omega
        clear hm
        go_region_held3 (fun w' => w'.cell? ⟨b, o + k, none⟩ = some (.slice p m r)) (first | go_keep | exact cell_keptB (by assumption) (row_al (show W.drew.ownsRow _ _ _ _ _ _ from O) _) G3 hbw)
          (first
            | (refine step_appE el37 (by rfl) (.tmp 15) (.tmp 27) (by rfl) w.heap.size [.slice p m r] (k + 1) (by rfl) (by rfl) (row_al (show W.drew.ownsRow _ _ _ _ _ _ from O) _) rfl (news_at W.drew _ rfl _ 22) (by simp [Value.oneCell']) rfl (by omega) (by omega) (by simp <;> omega) (by omega) ?_; intro g3 c3 w3 O3 G3))
        have EA := (E.dr).al (.cells #[.slice p m r] 22)
        have R0 := row_al (show W.drew.ownsRow w.heap.size 22 1 (.slice a k c) k (rows.map (·.1)) from O) (.cells #[.slice p m r] 22)
        have E3 := EA.app R0 (Nat.le_refl _) G3
        go_wp2
        go_roundw
        case rel =>
          refine ⟨k + 1, rows ++ [(.slice p m r, (ls[k]?.getD []).take 60)], _, c3, by omega, by omega, by go_num, rfl, by simpa using O3, ?_, ?_, E3⟩
          · intro x hx
            rcases List.mem_append.1 hx with hx | hx
            · exact hS x hx
            · rw [List.mem_singleton.1 hx]; exact HSl.out
          · rw [Htk.out, List.map_append, Hrw.out]; rfl
        case measure => simp [intOf]; omega
    · have hend : k = min len 8 := by omega
      have hLs : Ls W a k (fewS ls) := by
        have := rows_ls E O hS
        rw [hrw] at this
        rw [show fewS ls = (ls.take k).map (·.take 60) by
          unfold fewS
          by_cases h : len ≤ 8
          · rw [List.take_of_length_le (by omega), List.take_of_length_le (by omega)]
          · rw [show k = 8 by omega]]
        exact this
      have hcap : k ≤ c := by
        rcases O.2 with ⟨_, h0⟩ | ⟨g, cap', cur, e2, hg, hh, hn', _⟩
        · omega
        · simp only [Value.slice.injEq] at e2
          omega
      rcases Nat.lt_or_ge k len with hlt | hge
      · have hk8' : ¬ k < 8 := by omega
        clear hend
        have q1 : decide ((k : Int) < (len : Int)) = true := by simp; omega
        have q2 : decide ((k : Int) < (8 : Int)) = false := by simp; omega
        go_wp2
        go_ret
        exact ⟨a, k, c, rfl, hk8, hcap, hLs, E⟩
      · clear hend
        have q1 : decide ((k : Int) < (len : Int)) = false := by simp; omega
        go_wp2
        go_ret
        exact ⟨a, k, c, rfl, hk8, hcap, hLs, E⟩
end Go.Proofs.Ytknllmcpogoeoaa
