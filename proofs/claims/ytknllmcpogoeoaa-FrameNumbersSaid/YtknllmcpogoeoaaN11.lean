/- NumRows, walked. -/
import Derived.Test.YtknllmcpogoeoaaN5
import Derived.Test.YtknllmcpogoeoaaK2
namespace Go.Proofs.Ytknllmcpogoeoaa
open Go.RowKit
set_option linter.unusedVariables false
set_option linter.unusedSimpArgs false
def encU (l : List Int) : List UInt8 := l.flatMap fun z => putU z.toNat
def encI (l : List Int) : List UInt8 := l.flatMap fun z => putU (zz z)
theorem encU_len (l : List Int) (h : ∀ z ∈ l, z.toNat < 18446744073709551616) : (encU l).length ≤ 10 * l.length := by
  induction l with
  | nil => simp [encU]
  | cons x r ih =>
    have h1 := ih (fun y hy => h y (by simp [hy]))
    have h2 := putU_len x.toNat (h x (by simp))
    have : encU (x :: r) = putU x.toNat ++ encU r := by simp [encU]
    rw [this, List.length_append, List.length_cons]
    omega
theorem encI_len (l : List Int) (h : ∀ z ∈ l, zz z < 18446744073709551616) : (encI l).length ≤ 10 * l.length := by
  induction l with
  | nil => simp [encI]
  | cons x r ih =>
    have h1 := ih (fun y hy => h y (by simp [hy]))
    have h2 := putU_len (zz x) (h x (by simp))
    have : encI (x :: r) = putU (zz x) ++ encI r := by simp [encI]
    rw [this, List.length_append, List.length_cons]
    omega
theorem encU_snoc (l : List Int) (k : Nat) (hk : k < l.length) : encU (l.take (k + 1)) = encU (l.take k) ++ putU (l[k]?.getD 0).toNat := by
  unfold encU
  rw [List.take_add_one, List.getElem?_eq_getElem hk]
  simp only [Option.toList_some, List.flatMap_append, List.flatMap_cons, List.flatMap_nil, List.append_nil, Option.getD_some]
theorem encI_snoc (l : List Int) (k : Nat) (hk : k < l.length) : encI (l.take (k + 1)) = encI (l.take k) ++ putU (zz (l[k]?.getD 0)) := by
  unfold encI
  rw [List.take_add_one, List.getElem?_eq_getElem hk]
  simp only [Option.toList_some, List.flatMap_append, List.flatMap_cons, List.flatMap_nil, List.append_nil, Option.getD_some]
theorem encU_drop (l : List Int) (k : Nat) (hk : k < l.length) : encU (l.drop k) = putU (l[k]?.getD 0).toNat ++ encU (l.drop (k + 1)) := by
  unfold encU
  rw [List.drop_eq_getElem_cons hk, List.getElem?_eq_getElem hk]
  simp only [List.flatMap_cons, Option.getD_some]
theorem encI_drop (l : List Int) (k : Nat) (hk : k < l.length) : encI (l.drop k) = putU (zz (l[k]?.getD 0)) ++ encI (l.drop (k + 1)) := by
  unfold encI
  rw [List.drop_eq_getElem_cons hk, List.getElem?_eq_getElem hk]
  simp only [List.flatMap_cons, Option.getD_some]
theorem rsUint_put (v : Nat) (r : List UInt8) (h : v < 18446744073709551616) : rsUint (putU v ++ r) 0 18446744073709551615 = ⟨v, r, 0⟩ := by
  unfold rsUint
  rw [if_neg (by simp), rdU_put v r h]
  dsimp only
  rw [if_neg (by omega)]
  simp
theorem rsInt_put (z : Int) (r : List UInt8) (h : zz z < 18446744073709551616) : rsInt (putU (zz z) ++ r) 0 = ⟨z, r, 0⟩ := by
  unfold rsInt
  rw [if_neg (by simp), rdU_put _ r h]
  dsimp only
  rw [uz_zz]
  simp
theorem rsBytes_put (b r : List UInt8) (h : b.length < 18446744073709551616) : rsBytes (putB b ++ r) 0 (b.length : Int) = ⟨b, r, 0⟩ := by
  unfold rsBytes
  rw [if_neg (by simp), rdB_put b r _ h (by omega), if_pos rfl]
  simp
def RowRel (L0 : List UInt8) (f : Nat → List UInt8) (n : Nat) (w : World) (p i : Value) (wr : World) : Prop :=
  ∃ (k : Nat) (a : Option Addr) (c : Nat), k ≤ n ∧ i = .int .i64 (k : Int) ∧ p = .slice a (L0 ++ f k).length c ∧ Ow wr w.heap.size a (L0 ++ f k).length c (L0 ++ f k) ∧ Ext w wr
set_option maxRecDepth 100000 in
set_option maxHeartbeats 3200000 in
theorem numRows_any (a1 a2 a3 : Option Addr) (n1 c1 n2 c2 n3 c3 : Nat) (us is : List Int) (b : List UInt8) (w : World) (h1 : Zs w .u64 a1 n1 us) (h2 : Zs w .i64 a2 n2 is) (h3 : Bs w a3 n3 b) (hn1 : n1 ≤ 1048576) (hn2 : n2 ≤ 1048576) (hn3 : n3 ≤ 1048576) (hz3 : a3 = none → c3 = 0)
    (hw1 : ∀ z ∈ us, (Lit.int .u64 z).wf = true) (hw2 : ∀ z ∈ is, (Lit.int .i64 z).wf = true) :
    Calls Try.prog 19 #[.slice a1 n1 c1, .slice a2 n2 c2, .slice a3 n3 c3] w (fun e w' => e = .returned (.bool true) ∧ Ext w w') := by
  have hl1 := h1.leng
  have hl2 := h2.leng
  have hl3 := h3.leng
  subst hl1 hl2 hl3
  have hu : ∀ z ∈ us, z = (z.toNat : Int) ∧ z.toNat < 18446744073709551616 := fun z hz => by have := bounds_u64 (hw1 z hz); omega
  have hi : ∀ z ∈ is, -9223372036854775808 ≤ z ∧ z ≤ 9223372036854775807 := fun z hz => bounds_i64 (hw2 z hz)
  have hi2 : ∀ z ∈ is, zz z < 18446744073709551616 := fun z hz => zz_lt z (hi z hz).1 (hi z hz).2
  have hL1 : ∀ k, (encU (us.take k)).length ≤ 10 * us.length := fun k => by
    have := encU_len (us.take k) (fun z hz => (hu z (List.mem_of_mem_take hz)).2)
    rw [List.length_take] at this
    omega
  have hL2 : ∀ k, (encI (is.take k)).length ≤ 10 * is.length := fun k => by
    have := encI_len (is.take k) (fun z hz => hi2 z (List.mem_of_mem_take hz))
    rw [List.length_take] at this
    omega
  have hpb : (putB b).length ≤ b.length + 10 := by
    have := putU_len b.length (by omega)
    unfold putB; rw [List.length_append]; omega
  have Hu := Lib.hid hu
  have Hi := Lib.hid hi
  have Hi2 := Lib.hid hi2
  have HL1 := Lib.hid hL1
  have HL2 := Lib.hid hL2
  clear hu hi hi2 hL1 hL2 hw1 hw2
  go_enter Try.func19, Try.ntmps19
  go_wp2_with (go_at_call 44; refine (awake1_any w).mono ?_; rintro e w1 ⟨rfl, E1⟩)
  go_loopw [7, 21] (fun p i wr => RowRel [] (fun k => encU (us.take k)) us.length w p i wr) (fun _ i _ => us.length - (intOf i).toNat)
  case atStart => exact ⟨0, none, 0, by omega, rfl, rfl, World.ownsRow_nil _ _ _ _, E1⟩
  case round =>
    obtain ⟨k, a, c, hk, rfl, rfl, O, E⟩ := hrel
    rename World => W
    dsimp only at O ⊢
    rw [List.nil_append] at O ⊢
    by_cases hkn : k < us.length
    · have hkb : decide ((k : Int) < (us.length : Int)) = true := by simp; omega
      obtain ⟨b1, o1, rfl, hc1⟩ := h1.cell k hkn
      have hc := E.cell hc1
      have q2 : (k : Int) < (us.length : Int) := by omega
      have q3 : (0 : Int) ≤ (k : Int) := by omega
      have hmem : us[k]?.getD 0 ∈ us := by rw [List.getElem?_eq_getElem hkn]; exact List.getElem_mem hkn
      obtain ⟨hv1, hv2⟩ := Hu.out _ hmem
      have hsn := encU_snoc us k hkn
      have hlen := HL1.out k
      rw [hv1] at hc
      generalize (us[k]?.getD 0).toNat = v at *
      have Hsn := Lib.hid hsn
      clear hc1 hv1 hsn hmem
      generalize encU (us.take k) = L at *
      go_wp2_with (go_at_call 46; refine (putUint_any a L.length c L v W O.bs O.cap.2 hv2 (by omega)).mono ?_; rintro e w4 ⟨a4, c4, rfl, O4, E4⟩)
      go_roundw
      case rel =>
        refine ⟨k + 1, a4, c4, by omega, by go_num, ?_, ?_, E.tr E4⟩ <;> dsimp only
        · rw [List.nil_append, Hsn.out, List.length_append]
        · rw [List.nil_append, Hsn.out]
          exact O4.mono E.sz
      case measure => simp [intOf]; omega
    have hkb : decide ((k : Int) < (us.length : Int)) = false := by simp; omega
    have hlen := HL1.out k
    rw [List.take_of_length_le (by omega)] at O ⊢ hlen
    obtain ⟨A, hA⟩ : ∃ A, A = encU us := ⟨_, rfl⟩
    rw [← hA] at O ⊢ hlen
    have HA := Lib.hid hA
    clear hA
    have h3' := E.bs h3
    go_wp2_with (go_at_call 76; refine (putBytes_any a a3 A.length c b.length c3 A b W O.bs h3' O.cap.2 hz3 (by omega) (by omega)).mono ?_; rintro e w5 ⟨a5, c5, rfl, O5, E5⟩)
    have O5 := O5.mono E.sz
    have E5 := E.tr E5
    obtain ⟨C, hC⟩ : ∃ C, C = A ++ putB b := ⟨_, rfl⟩
    have hCl : C.length ≤ 20000000 := by rw [hC, List.length_append]; omega
    rw [← hC] at O5
    have hCs : A.length + (putB b).length = C.length := by rw [hC, List.length_append]
    simp only [hCs]
    have HC := Lib.hid hC
    clear hC hCs O h3' hk hkn hkb hlen E
    clear hpb
    go_loopw [7, 34] (fun p i wr => RowRel C (fun k => encI (is.take k)) is.length w p i wr) (fun _ i _ => is.length - (intOf i).toNat)
    case atStart =>
      refine ⟨0, a5, c5, by omega, rfl, ?_, ?_, E5⟩
      · simp [encI]
      · simpa [encI] using O5
    case round =>
      obtain ⟨k, a, c, hk, rfl, rfl, O, E⟩ := hrel
      rename World => W2
      dsimp only at O ⊢
      by_cases hkn : k < is.length
      · have hkb : decide ((k : Int) < (is.length : Int)) = true := by simp; omega
        obtain ⟨b1, o1, rfl, hc1⟩ := h2.cell k hkn
        have hc := E.cell hc1
        have q2 : (k : Int) < (is.length : Int) := by omega
        have q3 : (0 : Int) ≤ (k : Int) := by omega
        have hmem : is[k]?.getD 0 ∈ is := by rw [List.getElem?_eq_getElem hkn]; exact List.getElem_mem hkn
        obtain ⟨hv1, hv2⟩ := Hi.out _ hmem
        have hsn := encI_snoc is k hkn
        have hlen := HL2.out k
        generalize is[k]?.getD 0 = v at *
        have Hsn := Lib.hid hsn
        have hln : (C ++ encI (is.take k)).length ≤ 140737488351232 := by rw [List.length_append]; omega
        generalize hLL : C ++ encI (is.take k) = L at *
        have HLL := Lib.hid hLL
        clear hc1 hsn hmem hLL hlen
        go_wp2_with (go_at_call 64; refine (putInt_any a L.length c L v W2 O.bs O.cap.2 hv1 hv2 hln).mono ?_; rintro e w4 ⟨a4, c4, rfl, O4, E4⟩)
        go_roundw
        case rel =>
          refine ⟨k + 1, a4, c4, by omega, by go_num, ?_, ?_, E.tr E4⟩ <;> dsimp only
          · rw [Hsn.out, ← List.append_assoc, HLL.out, List.length_append]
          · rw [Hsn.out, ← List.append_assoc, HLL.out]
            exact O4.mono E.sz
        case measure => simp [intOf]; omega
      have hkb : decide ((k : Int) < (is.length : Int)) = false := by simp; omega
      have hlen := HL2.out k
      rw [List.take_of_length_le (by omega)] at O ⊢ hlen
      obtain ⟨D, hD⟩ : ∃ D, D = C ++ encI is := ⟨_, rfl⟩
      have hDl : D.length ≤ 140737488351232 := by rw [hD, List.length_append]; omega
      rw [← hD] at O ⊢
      have HD := Lib.hid hD
      clear hD hlen
      go_wp2_with (go_at_call 77; refine (newReader_any a D.length c D W2 O.bs O.cap.2 hDl).mono ?_; rintro e w6 ⟨g, q, rfl, R6, hg, hq, E6⟩)
      have E06 := E.tr E6
      have hg0 : w.heap.size ≤ g := Nat.le_trans E.sz hg
      clear O hDl hk hkn hkb
      go_loopw [46] (fun i wr => ∃ k : Nat, k ≤ us.length ∧ i = .int .i64 (k : Int) ∧ Rd wr g q (encU (us.drop k) ++ (putB b ++ encI is)) 0 ∧ Ext w wr) (fun i _ => us.length - (intOf i).toNat)
      case atStart => exact ⟨0, by omega, rfl, by rw [List.drop_zero, ← List.append_assoc, ← HA.out, ← HC.out, ← HD.out]; exact R6, E06⟩
      case round =>
        obtain ⟨k, hk, rfl, R, E⟩ := hrel
        rename World => W3
        by_cases hkn : k < us.length
        · have hkb : decide ((k : Int) < (us.length : Int)) = true := by simp; omega
          obtain ⟨b1, o1, rfl, hc1⟩ := h1.cell k hkn
          have hc := E.cell hc1
          have q2 : (k : Int) < (us.length : Int) := by omega
          have q3 : (0 : Int) ≤ (k : Int) := by omega
          have hmem : us[k]?.getD 0 ∈ us := by rw [List.getElem?_eq_getElem hkn]; exact List.getElem_mem hkn
          obtain ⟨hv1, hv2⟩ := Hu.out _ hmem
          rw [encU_drop us k hkn, List.append_assoc] at R
          rw [hv1] at hc
          generalize (us[k]?.getD 0).toNat = v at *
          have hrp := rsUint_put v (encU (us.drop (k + 1)) ++ (putB b ++ encI is)) hv2
          have Hrp := Lib.hid hrp
          clear hc1 hv1 hmem hrp
          generalize hT : encU (us.drop (k + 1)) ++ (putB b ++ encI is) = T at *
          have HT := Lib.hid hT
          clear hT
          go_wp2_with (go_at_call 78; refine (rUint_any g q (putU v ++ T) 0 18446744073709551615 W3 R (by omega)).mono ?_; rw [Hrp.out]; rintro e w7 ⟨rfl, R7, F7⟩)
          go_roundw
          case rel => exact ⟨k + 1, by omega, by go_num, by rw [HT.out]; exact R7, F7.ext E (fun x hx => by simp only [List.mem_singleton] at hx; omega)⟩
          case measure => simp [intOf]; omega
        have hkb : decide ((k : Int) < (us.length : Int)) = false := by simp; omega
        rw [List.drop_eq_nil_of_le (by omega), show encU [] = [] from rfl, List.nil_append] at R
        have hrb := rsBytes_put b (encI is) (by omega)
        have Hrb := Lib.hid hrb
        clear hrb
        have h37 := E.bs h3
        go_wp2_with (first
          | (go_at_call 79; refine (rBytes_any g q (putB b ++ encI is) 0 (b.length : Int) W3 R (by omega) (by omega)).mono ?_; rw [Hrb.out]; rintro e w8 ⟨a8, c8, rfl, O8, R8, F8⟩; dsimp only at O8 R8; have E8 := F8.ext E (fun x hx => by simp only [List.mem_singleton] at hx; omega))
          | (go_at_call 45; refine (same1_any a8 b.length c8 a3 b.length c3 b b w8 O8.bs (E8.bs h3) (by omega)).mono ?_; rintro e w9 ⟨rfl, E9⟩; rw [decide_eq_true rfl]; have R9 := R8.ext E9; have E09 := E8.tr E9))
        clear R R8 O8 hk hkn hkb h37
        go_loopw [64] (fun i wr => ∃ k : Nat, k ≤ is.length ∧ i = .int .i64 (k : Int) ∧ Rd wr g q (encI (is.drop k)) 0 ∧ Ext w wr) (fun i _ => is.length - (intOf i).toNat)
        case atStart => exact ⟨0, by omega, rfl, R9, E09⟩
        case round =>
          obtain ⟨k, hk, rfl, R, E⟩ := hrel
          rename World => W4
          by_cases hkn : k < is.length
          · have hkb : decide ((k : Int) < (is.length : Int)) = true := by simp; omega
            obtain ⟨b1, o1, rfl, hc1⟩ := h2.cell k hkn
            have hc := E.cell hc1
            have q2 : (k : Int) < (is.length : Int) := by omega
            have q3 : (0 : Int) ≤ (k : Int) := by omega
            have hmem : is[k]?.getD 0 ∈ is := by rw [List.getElem?_eq_getElem hkn]; exact List.getElem_mem hkn
            obtain ⟨hv1, hv2⟩ := Hi.out _ hmem
            have hzl := Hi2.out _ hmem
            rw [encI_drop is k hkn] at R
            generalize is[k]?.getD 0 = v at *
            have hrp := rsInt_put v (encI (is.drop (k + 1))) hzl
            have hpl := putU_len (zz v) hzl
            have Hrp := Lib.hid hrp
            clear hc1 hmem hrp
            generalize hT : encI (is.drop (k + 1)) = T at *
            have HT := Lib.hid hT
            clear hT
            have hnz : (((putU (zz v) ++ T).length : Int) == 0) = false := by
              rw [beq_eq_false_iff_ne, List.length_append]; omega
            generalize hPT : putU (zz v) ++ T = PT at *
            have HPT := Lib.hid hPT
            clear hPT
            go_wp2_with (first
              | (go_at_call 80; refine (rLeft_any g q PT 0 W4 R).mono ?_; rintro e w7 ⟨rfl, rfl⟩)
              | (go_at_call 81; refine (rInt_any g q PT 0 _ R).mono ?_; rw [Hrp.out]; rintro e w7 ⟨rfl, R7, F7⟩))
            go_roundw
            case rel => exact ⟨k + 1, by omega, by go_num, by rw [HT.out]; exact R7, F7.ext E (fun x hx => by simp only [List.mem_singleton] at hx; omega)⟩
            case measure => simp [intOf]; omega
          have hkb : decide ((k : Int) < (is.length : Int)) = false := by simp; omega
          rw [List.drop_eq_nil_of_le (by omega), show encI [] = [] from rfl] at R
          go_wp2_with (first
            | (go_at_call 82; refine (rEnd_any g q [] 0 W4 R).mono ?_; rw [ex_end]; rintro e w7 ⟨rfl, rfl⟩)
            | (go_at_call 80; refine (rLeft_any g q [] 0 _ R).mono ?_; rintro e w7 ⟨rfl, rfl⟩))
          go_ret
          exact ⟨rfl, E⟩
end Go.Proofs.Ytknllmcpogoeoaa
