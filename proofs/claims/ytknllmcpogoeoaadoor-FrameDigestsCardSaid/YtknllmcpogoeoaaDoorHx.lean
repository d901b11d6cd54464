/- The text of a digest and its inverse, as plain functions; the words that their walks want. -/
import Derived.Test.YtknllmcpogoeoaaDoorL3
import Derived.Laws.ResultCell
import Derived.Laws.Strings2
namespace Go.Proofs.YtknllmcpogoeoaaDoor
open Go.RowKit
set_option linter.unusedVariables false
set_option linter.unusedSimpArgs false
def dig (l : List UInt8) (k : Nat) : Int := digv (bt l k)
def pairAt (l : List UInt8) (i : Nat) : UInt8 := UInt8.ofNat ((dig l (2 * i)).toNat * 16 + (dig l (2 * i + 1)).toNat)
def unhexP (l : List UInt8) (k : Nat) : List UInt8 := (List.range k).map (pairAt l)
def unhex (l : List UInt8) : List UInt8 := unhexP l 32
theorem unhexP_len (l : List UInt8) (k : Nat) : (unhexP l k).length = k := by simp [unhexP]
theorem unhexP_succ (l : List UInt8) (k : Nat) : unhexP l (k + 1) = unhexP l k ++ [pairAt l k] := by simp [unhexP, List.range_succ]
def good (l : List UInt8) : Prop := l.length = 64 ∧ ∀ j, j < 64 → 0 ≤ dig l j
open Classical in
noncomputable def parsed (l : List UInt8) : Option (List UInt8) := if good l then some (unhex l) else none
theorem parsed_yes {l : List UInt8} (h : good l) : parsed l = some (unhex l) := if_pos h
theorem parsed_no {l : List UInt8} (h : ¬ good l) : parsed l = none := if_neg h
theorem digv_hexd_fin : ∀ m : Fin 16, digv (hexd m.val).toNat = (m.val : Int) := by decide +kernel
theorem digv_hexd (m : Nat) (h : m < 16) : digv (hexd m).toNat = (m : Int) := digv_hexd_fin ⟨m, h⟩
theorem hexd_digv_fin : ∀ c : Fin 256, 0 ≤ digv c.val → hexd (digv c.val).toNat = UInt8.ofNat c.val := by decide +kernel
theorem hexd_digv (c : UInt8) (h : 0 ≤ digv c.toNat) : hexd (digv c.toNat).toNat = c := by
  have := hexd_digv_fin ⟨c.toNat, c.toNat_lt⟩ h
  simpa using this
theorem hex_get : ∀ (d : List UInt8) (i : Nat), i < d.length → (hex d)[2 * i]? = some (hexd ((d[i]?.getD 0).toNat / 16)) ∧ (hex d)[2 * i + 1]? = some (hexd ((d[i]?.getD 0).toNat % 16))
  | [], i, h => by simp at h
  | x :: r, 0, h => by simp [hex]
  | x :: r, i + 1, h => by
    have ih := hex_get r i (by simpa using h)
    have e : hex (x :: r) = hex [x] ++ hex r := hex_app [x] r
    have h2 : (hex [x]).length = 2 := by simp [hex]
    have a1 := List.getElem?_append_right (l₁ := hex [x]) (l₂ := hex r) (i := 2 * (i + 1)) (by rw [h2]; omega)
    have a2 := List.getElem?_append_right (l₁ := hex [x]) (l₂ := hex r) (i := 2 * (i + 1) + 1) (by rw [h2]; omega)
    rw [h2, show 2 * (i + 1) - 2 = 2 * i by omega] at a1
    rw [h2, show 2 * (i + 1) + 1 - 2 = 2 * i + 1 by omega] at a2
    rw [e, a1, a2]
    simpa using ih
theorem good_hex (d : List UInt8) (hd : d.length = 32) : good (hex d) := by
  refine ⟨by rw [hex_len, hd], fun j hj => ?_⟩
  have hx := (d[j / 2]?.getD 0).toNat_lt
  obtain ⟨h1, h2⟩ := hex_get d (j / 2) (by omega)
  unfold dig bt
  rcases Nat.mod_two_eq_zero_or_one j with h | h
  · rw [show j = 2 * (j / 2) by omega, h1]
    simp only [Option.getD_some]
    rw [digv_hexd _ (by omega)]
    omega
  · rw [show j = 2 * (j / 2) + 1 by omega, h2]
    simp only [Option.getD_some]
    rw [digv_hexd _ (by omega)]
    omega
theorem unhex_hex (d : List UInt8) (hd : d.length = 32) : unhex (hex d) = d := by
  apply List.ext_getElem?
  intro i
  by_cases hi : i < 32
  · have hx := (d[i]?.getD 0).toNat_lt
    obtain ⟨h1, h2⟩ := hex_get d i (by omega)
    unfold unhex unhexP
    rw [List.getElem?_map, List.getElem?_range hi]
    simp only [Option.map_some]
    unfold pairAt dig bt
    rw [h1, h2]
    simp only [Option.getD_some]
    rw [digv_hexd _ (by omega), digv_hexd _ (by omega)]
    simp only [Int.toNat_natCast]
    rw [show (d[i]?.getD 0).toNat / 16 * 16 + (d[i]?.getD 0).toNat % 16 = (d[i]?.getD 0).toNat by omega]
    rw [List.getElem?_eq_getElem (by omega)]
    simp
  · rw [List.getElem?_eq_none (by simp [unhex, unhexP]; omega), List.getElem?_eq_none (by omega)]
theorem parsed_hex (d : List UInt8) (hd : d.length = 32) : parsed (hex d) = some d := by rw [parsed_yes (good_hex d hd), unhex_hex d hd]
theorem hex_unhex (l : List UInt8) (h : good l) : hex (unhex l) = l := by
  apply List.ext_getElem?
  intro j
  by_cases hj : j < 64
  · have hu : (unhex l).length = 32 := unhexP_len l 32
    obtain ⟨h1, h2⟩ := hex_get (unhex l) (j / 2) (by omega)
    have hp : (unhex l)[j / 2]?.getD 0 = pairAt l (j / 2) := by
      unfold unhex unhexP
      rw [List.getElem?_map, List.getElem?_range (by omega)]
      rfl
    rw [hp] at h1 h2
    have ha := h.2 (2 * (j / 2)) (by omega)
    have hb := h.2 (2 * (j / 2) + 1) (by omega)
    have la := digv_le (bt l (2 * (j / 2)))
    have lb := digv_le (bt l (2 * (j / 2) + 1))
    have hpn : (pairAt l (j / 2)).toNat = (dig l (2 * (j / 2))).toNat * 16 + (dig l (2 * (j / 2) + 1)).toNat := by
      unfold pairAt
      rw [ofNat_mod]
      unfold dig at *
      omega
    have hl := h.1
    rcases Nat.mod_two_eq_zero_or_one j with hm | hm
    · have hq : j = 2 * (j / 2) := by omega
      rw [hq, h1, hpn, show ((dig l (2 * (j / 2))).toNat * 16 + (dig l (2 * (j / 2) + 1)).toNat) / 16 = (dig l (2 * (j / 2))).toNat by unfold dig at *; omega]
      unfold dig at ha ⊢
      unfold bt at ha ⊢
      rw [hexd_digv _ ha, List.getElem?_eq_getElem (by omega)]
      simp
    · have hq : j = 2 * (j / 2) + 1 := by omega
      rw [hq, h2, hpn, show ((dig l (2 * (j / 2))).toNat * 16 + (dig l (2 * (j / 2) + 1)).toNat) % 16 = (dig l (2 * (j / 2) + 1)).toNat by unfold dig at *; omega]
      unfold dig at hb ⊢
      unfold bt at hb ⊢
      rw [hexd_digv _ hb, List.getElem?_eq_getElem (by omega)]
      simp
  · have hu : (hex (unhex l)).length = 64 := by rw [hex_len]; simp [unhex, unhexP]
    rw [List.getElem?_eq_none (by omega), List.getElem?_eq_none (by have := h.1; omega)]
/-- what a parse hands back -/
def PPost (l : List UInt8) (e : Ending) : Prop := e = .returned (.tuple #[.agg (u8s ((parsed l).getD (List.replicate 32 0))).toArray, .int .i64 (if (parsed l).isSome then 0 else 6)])
theorem PPost_no {l : List UInt8} (h : ¬ good l) : PPost l (.returned (.tuple #[.agg (u8s (List.replicate 32 0)).toArray, .int .i64 6])) := by
  unfold PPost; rw [parsed_no h]; rfl
theorem PPost_yes {l : List UInt8} (h : good l) : PPost l (.returned (.tuple #[.agg (u8s (unhex l)).toArray, .int .i64 0])) := by
  unfold PPost; rw [parsed_yes h]; rfl
/-- the reference's block behind i digits -/
def rp (l : List UInt8) (i : Nat) : List UInt8 := (List.range 32).map fun j => if 2 * j + 1 < i then pairAt l j else if 2 * j < i then UInt8.ofNat (dig l (2 * j)).toNat else 0
theorem rp_len (l : List UInt8) (i : Nat) : (rp l i).length = 32 := by simp [rp]
theorem rp_zero (l : List UInt8) : rp l 0 = List.replicate 32 0 := by
  unfold rp
  simp only [Nat.not_lt_zero, if_false]
  rfl
theorem rp_end (l : List UInt8) : rp l 64 = unhex l := by
  unfold rp unhex unhexP
  apply List.map_congr_left
  intro j hj
  rw [if_pos (by have := List.mem_range.1 hj; omega)]
/-- what stands there -/
def rold (l : List UInt8) (i : Nat) : Nat := if i % 2 = 0 then 0 else (dig l (i - 1)).toNat
theorem rp_at (l : List UInt8) (i : Nat) (hi : i < 64) (hd : ∀ j, j < 64 → dig l j ≤ 15) : bt (rp l i) (i / 2) = rold l i := by
  unfold bt rp rold
  rw [List.getElem?_map, List.getElem?_range (by omega)]
  simp only [Option.map_some, Option.getD_some]
  rcases Nat.mod_two_eq_zero_or_one i with h | h
  · rw [if_neg (by omega), if_neg (by omega), if_pos h]; rfl
  · rw [if_neg (by omega), if_pos (by omega), if_neg (by omega), ofNat_mod, show 2 * (i / 2) = i - 1 by omega]
    have := hd (i - 1) (by omega)
    omega
theorem rp_succ (l : List UInt8) (i : Nat) (hi : i < 64) : (rp l i).set (i / 2) (UInt8.ofNat (rold l i * 16 + (dig l i).toNat)) = rp l (i + 1) := by
  apply List.ext_getElem?
  intro j
  by_cases hj : j < 32
  · by_cases he : i / 2 = j
    · subst he
      rw [List.getElem?_set_self (by rw [rp_len]; exact hj)]
      unfold rp rold
      rw [List.getElem?_map, List.getElem?_range hj]
      simp only [Option.map_some]
      rcases Nat.mod_two_eq_zero_or_one i with h | h
      · rw [if_pos h, if_neg (by omega), if_pos (by omega), show 2 * (i / 2) = i by omega]
        simp
      · rw [if_neg (by omega), if_pos (by omega)]
        unfold pairAt
        rw [show 2 * (i / 2) = i - 1 by omega, show i - 1 + 1 = i by omega]
    · rw [List.getElem?_set_ne he]
      unfold rp
      rw [List.getElem?_map, List.getElem?_map, List.getElem?_range hj]
      simp only [Option.map_some, Option.some.injEq]
      by_cases h1 : 2 * j + 1 < i
      · rw [if_pos h1, if_pos (by omega)]
      · rw [if_neg h1, if_neg (show ¬ 2 * j + 1 < i + 1 by omega)]
        by_cases h2 : 2 * j < i
        · rw [if_pos h2, if_pos (by omega)]
        · rw [if_neg h2, if_neg (by omega)]
  · rw [List.getElem?_eq_none (by rw [List.length_set, rp_len]; omega), List.getElem?_eq_none (by rw [rp_len]; omega)]
theorem or_pair_fin : ∀ p : Fin 16 × Fin 16, bits .or .u8 ((p.1.val * 16 : Nat) : Int) (p.2.val : Int) = ((p.1.val * 16 + p.2.val : Nat) : Int) := by
  rintro ⟨a, b⟩
  revert a b
  decide +kernel
theorem or_pair (a b : Nat) (ha : a < 16) (hb : b < 16) : bits .or .u8 ((a * 16 : Nat) : Int) (b : Int) = ((a * 16 + b : Nat) : Int) := or_pair_fin (⟨a, ha⟩, ⟨b, hb⟩)
section
variable {P : Program} {a : Act} {N : Nat} {l : List (Nat × Value)} {w : World} {o : Oper} {v : Value}
theorem x_extract (H : Has a N l) {x : Operand} {ix : Nat} {vs : Array Value} (ho : o.op = .extract x ix) (ex : ev l x = some (.tuple vs)) (h : vs[ix]? = some v) : (execOp a.eval o).run P w = .ok (.value v) w := by
  unfold execOp; rw [ho]; simp only [H.ev ex, Instr.extract, h, Sem.run_bind, Sem.run_pure, Result.andThen_ok]
theorem retct {fn : Func} {p u : Nat} {ty t : TypeId} {R : Ending → World → Prop} {g : Nat} {cs : Array Value} {d : TypeDesc} (H : Has a N l) (hr : fn.results = #[.cell p ty, .tmp u]) (e : lk l p = some (.pointer (some ⟨g, 0, none⟩))) (e2 : lk l u = some v)
    (hg : w.heap[g]? = some (.cells cs t (0, 0))) (hu : P.underlying ty = some d) (hd : (match d with | .struct _ | .array _ _ => true | _ => false) = true) (hi : (P.info? ty).map (·.size) = some cs.size)
    (h : R (.returned (.tuple #[.agg cs, v])) w) : bodyPost P fn R .ret a w := by
  refine bodyPost_ret (v := .tuple #[.agg cs, v]) ?_ H.nod h
  rw [results_cell_tmp hr, show a.tmps.getD p undef = .pointer (some ⟨g, 0, none⟩) from H.ev (x := .tmp p) e, show a.tmps.getD u undef = v from H.ev (x := .tmp u) e2]
  simp [asAddr, run_loadVar_row w g t ty cs (0, 0) d hg hu hd hi, Result.andThen]
theorem len_str {t ty : TypeId} {cs : Array Bool} {s : ByteArray} (hu : P.underlying t = some .string) : (builtin .len #[t] ty cs #[.string s]).run P w = .ok (.value (.int .i64 (s.size : Int))) w := by
  simp only [builtin, Sem.run_bind]
  simp [Builtin.len_, run_underlying hu]
  rfl
theorem cat_str {t : TypeId} {s r : ByteArray} (h : s.size + r.size ≤ 1000000) : (binOp .add t (.string s) (.string r)).run P w = .ok (.string (s ++ r)) w := by
  have : ¬ (IntKind.i64.max < (s.size : Int) + (r.size : Int)) := by
    rw [show IntKind.i64.max = 9223372036854775807 by decide]; omega
  have this2 : (s.size : Int) + (r.size : Int) ≤ 9223372036854775807 := by omega
  simp [binOp, Op.stringOp, this2]
end
theorem size_list (s : ByteArray) : s.data.toList.length = s.size := by rw [Array.length_toList]; rfl
end Go.Proofs.YtknllmcpogoeoaaDoor
