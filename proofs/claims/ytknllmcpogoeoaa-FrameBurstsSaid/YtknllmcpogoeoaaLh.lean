/- FrameBursts, walked. -/
import Derived.Test.YtknllmcpogoeoaaLe
namespace Go.Proofs.Ytknllmcpogoeoaa
open Go.RowKit
set_option linter.unusedVariables false
set_option linter.unusedSimpArgs false
def BurRel (w : World) (B : Nat) (ap : Option Addr) (n c : Nat) (l : List UInt8) (at' bits z : Nat) (ch i : Value) (wr : World) : Prop :=
  ∃ k : Nat, k ≤ 32 ∧ i = .int .i64 (k : Int) ∧ ch = .bool (changed at' bits z k) ∧ Ow wr B ap n c (flips l at' bits z k) ∧ Ext w wr
theorem Ow.froz {w : World} {B g n c : Nat} {l : List UInt8} (h : Ow w B (some ⟨g, 0, none⟩) n c l) (k : Nat) : w.frozen? ⟨g, k, none⟩ = false := by
  rcases h.form with ⟨e, _⟩ | ⟨g', cur, e, hg, hh, _⟩
  · cases e
  · simp only [Option.some.injEq, Addr.mk.injEq, and_true] at e
    subst e
    simp [World.frozen?, hh]
theorem bits_xor_u8 (x y : Nat) (hx : x < 256) (hy : y < 256) : bits .xor .u8 (x : Int) (y : Int) = ((x ^^^ y : Nat) : Int) := by
  have hz : x ^^^ y < 2 ^ 8 := Nat.xor_lt_two_pow (by omega) (by omega)
  show IntKind.u8.wrap ((BitVec.ofInt 8 (x : Int) ^^^ BitVec.ofInt 8 (y : Int)).toNat : Int) = _
  have e : (BitVec.ofInt 8 (x : Int) ^^^ BitVec.ofInt 8 (y : Int)).toNat = x ^^^ y := by
    rw [BitVec.toNat_xor, BitVec.toNat_ofInt, BitVec.toNat_ofInt]
    congr 1 <;> omega
  rw [e, IntKind.wrap_u8]
  omega
theorem xor_pow (l : List UInt8) (q r : Nat) : bits .xor .u8 (nb l q) ((2 : Int) ^ r % 256) = (((l[q]?.getD 0) ^^^ UInt8.ofNat (2 ^ r)).toNat : Int) := by
  have e : (2 : Int) ^ r % 256 = ((2 ^ r % 256 : Nat) : Int) := by simp
  rw [e, nb_nn, bits_xor_u8 _ _ (nn_lt l q) (by omega), UInt8.toNat_xor, UInt8.toNat_ofNat']
  rfl
/-- the first part of a frame in which a burst was changed -/
theorem burst_first (b : List UInt8) (h4 : b.length ≤ 4000) (sum : Bool) (a z : Nat) (q : List UInt8) (ch : Bool)
    (hq : q = if sum then flips (frameOf b) (32 + a) 64 z 32 else flips (frameOf b) (64 + a) (64 + 8 * b.length) z 32)
    (hc : ch = if sum then changed (32 + a) 64 z 32 else changed (64 + a) (64 + 8 * b.length) z 32) : ∃ p : PartS, (scanP 0 q).take 1 = [p] ∧ p.off = 0 ∧ p.good = !ch := by
  have hql : q.length = (frameOf b).length := by rw [hq]; split <;> rw [flips_len]
  have hne : q ≠ [] := fun e => by rw [e, frameOf_len] at hql; simp at hql; omega
  cases hch : ch with
  | true =>
    have hs := burst_frame b h4 sum a z q hq (by cases sum <;> simp_all)
    exact ⟨⟨0, junk q, [], false⟩, by rw [scanP_bad hne hs]; rfl, rfl, rfl⟩
  | false =>
    have hqf : q = frameOf b := by
      rw [hq]
      cases sum with
      | true => simp only [if_true]; exact flips_none _ _ _ _ _ (by simp_all)
      | false => simp only [Bool.false_eq_true, if_false]; exact flips_none _ _ _ _ _ (by simp_all)
    have hs := (frame_stands b [] h4).1
    rw [List.append_nil, ← hqf] at hs
    exact ⟨⟨0, st q, (q.drop 8).take (n2 q), true⟩, by rw [scanP_good hs]; rfl, rfl, rfl⟩
theorem shr_bit (z k : Nat) : ((z : Int) / (2 : Int) ^ k).tmod 2 = if z.testBit k then 1 else 0 := by
  have e : ((z : Int) / (2 : Int) ^ k) = ((z / 2 ^ k : Nat) : Int) := by simp
  rw [e, show ((z / 2 ^ k : Nat) : Int).tmod 2 = ((z / 2 ^ k : Nat) : Int) % 2 from Int.tmod_eq_emod_of_nonneg (Int.natCast_nonneg _)]
  have : z.testBit k = decide (z / 2 ^ k % 2 = 1) := by rw [Nat.testBit_eq_decide_div_mod_eq]
  rw [this]
  by_cases h : z / 2 ^ k % 2 = 1 <;> simp [h] <;> omega
set_option maxRecDepth 100000 in
set_option maxHeartbeats 1600000 in
theorem bursts_false (a : Option Addr) (n c : Nat) (l : List UInt8) (x z : Nat) (w : World) (hb : Bs w a n l) (hn : n ≤ 140737488351232) (hnc : n ≤ c) (hz : a = none → c = 0) (hx : x ≤ 65535) (hzz : z ≤ 4294967295) :
    Calls Try.prog 11 #[.slice a n c, .agg #[.bool false, .int .u16 (x : Int), .int .u32 (z : Int)]] w (fun e w' => e = .returned (.bool true) ∧ Ext w w') := by
  obtain ⟨m, hm⟩ : ∃ m : Nat, m = min n 200 := ⟨_, rfl⟩
  have hsub := hb.sub 0 m (by omega) (a' := a) (fun b' o' e _ => by rw [e]; simp)
  rw [List.drop_zero] at hsub
  have hml := hsub.leng
  generalize l.take m = lb at *
  obtain ⟨w0, hw0⟩ : ∃ w0, w0 = w.alloc (.cells #[.bool false, .int .u16 (x : Int), .int .u32 (z : Int)] 54) := ⟨_, rfl⟩
  have E0 : Ext w w0 := by rw [hw0]; exact (Ext.refl w).al _
  have k0 : Blk w0 w.heap.size 54 [.bool false, .int .u16 (x : Int), .int .u32 (z : Int)] := by rw [hw0]; exact Blk.new w 54 _
  have HW0 := Lib.hid hw0
  clear hw0
  generalize hgb : w.heap.size = gb at *
  have Hgb := Lib.hid hgb
  clear hgb
  have hmc : (m : Int) ≤ (c : Int) := by omega
  have hm2 : m ≤ 200 := by omega
  have Hm := Lib.hid hm
  clear hm
  rcases Nat.lt_or_ge 200 n with hlt | hge
  · have hA : ((200 : Int) < (n : Int)) = True := by simp; omega
    go_enter Try.func11, Try.ntmps11
    go_wp2_with (go_at_call 32; rw [Hgb.out, ← HW0.out]; refine (awake3_any w0).mono ?_; rintro e w1 ⟨rfl, E1⟩; have E01 := E0.tr E1; have hb1 := E01.bs hsub; have k1 := k0.ext E1)
    rw [show (200 : Nat) = m by have := Hm.out; omega]
    clear hlt hA
    refine (append_any none a 0 0 _ c [] lb w1 (Bs.nil _ _) hb1 (by omega) (by omega) (fun _ => rfl) hz).mono ?_
    intro e w2 hp
    unfold AppendPost at hp
    rw [if_neg (by omega)] at hp
    obtain ⟨a2, n2, c2, rfl, O2, hn2, E2⟩ := hp
    rw [List.nil_append] at O2
    simp only [List.length_nil, Nat.zero_add] at hn2
    rw [hml] at hn2
    subst hn2
    have E12 := E01.tr E2
    have k2 := k1.ext E2
    have m20 := k2.at_ (i := 0) rfl
    have m21 := k2.at_ (i := 1) rfl
    have m22 := k2.at_ (i := 2) rfl
    have hBg : w.heap.size ≤ w1.heap.size := E01.sz
    by_cases hm0 : m = 0
    · subst hm0
      go_wp2
      go_ret
      exact ⟨rfl, E12⟩
    obtain ⟨bt, hbt⟩ : ∃ bt, bt = 8 * m := ⟨_, rfl⟩
    have hbt8 : (8 : Int) * (m : Int) = (bt : Int) := by omega
    have hb0 : ((bt : Int) == 0) = false := by simp; omega
    obtain ⟨A, hA⟩ : ∃ A : Nat, (x : Int) % (bt : Int) = (A : Int) := ⟨x % bt, by omega⟩
    have hAb : A < bt := by
      have := Nat.mod_lt x (show 0 < bt by omega)
      omega
    have Hbt := Lib.hid hbt
    have hbt1 : bt ≤ 1600 := by omega
    clear hbt
    go_wp2_with fail
    go_loopw [9, 42] (fun ch i wr => BurRel w1 w1.heap.size a2 (8 + m) c2 (frameOf lb) (64 + A) (64 + bt) z ch i wr) (fun _ i _ => 32 - (intOf i).toNat)
    case atStart => exact ⟨0, by omega, rfl, rfl, O2, E2⟩
    case round =>
      obtain ⟨k, hk, rfl, rfl, O, E⟩ := hrel
      rename World => W
      have kW := k1.ext E
      by_cases hk32 : k < 32
      case neg =>
        obtain rfl : k = 32 := by omega
        have hkb : decide (((32 : Nat) : Int) < 32) = false := by simp
        obtain ⟨p, hp1, hp2, hp3⟩ := burst_first lb (by omega) false A z (flips (frameOf lb) (64 + A) (64 + bt) z 32) (changed (64 + A) (64 + bt) z 32) (by rw [hml, ← Hbt.out]; rfl) (by rw [hml, ← Hbt.out]; rfl)
        have hOl := O.leng
        generalize flips (frameOf lb) (64 + A) (64 + bt) z 32 = q at *
        generalize changed (64 + A) (64 + bt) z 32 = ch at *
        have Hp1 := Lib.hid hp1
        clear hp1
        go_wp2_with (go_at_call 36; refine (parts_any a2 (8 + m) c2 q 1 W O.bs (by omega) O.cap.2 (by omega)).mono ?_; rintro e w4 ⟨a4, c4, rows4, rfl, P4, hD4, E4⟩; rw [Hp1.out] at hD4; obtain ⟨r, rfl, hr⟩ := List.map_eq_singleton_iff.1 hD4; obtain ⟨g4, a5, n5, c5, rfl, e5, o5, d0, d1, d2, d3⟩ := P4.at 0 r rfl; simp only [Nat.zero_mul, Nat.zero_add, hr, hp2, hp3] at d0 d1 d2 d3; simp only [List.length_cons, List.length_nil, Nat.zero_add])
        all_goals
          go_wp2
          go_ret
          exact ⟨by cases ch <;> rfl, (E01.tr E).tr E4⟩
      have hkb : decide ((k : Int) < 32) = true := by simp; omega
      have m20 := kW.at_ (i := 0) rfl
      have m21 := kW.at_ (i := 1) rfl
      have m22 := kW.at_ (i := 2) rfl
      have q1 : (0 : Int) ≤ (k : Int) := by omega
      clear m20 m21 m22
      have m20 := kW.at_ (i := 0) rfl
      have m21 := kW.at_ (i := 1) rfl
      have m22 := kW.at_ (i := 2) rfl
      have hsb := shr_bit z k
      by_cases hno : (z.testBit k && decide (64 + A + k < 64 + bt)) = true
      case neg =>
        have hfl : flips (frameOf lb) (64 + A) (64 + bt) z (k + 1) = flips (frameOf lb) (64 + A) (64 + bt) z k := by
          conv => lhs; rw [flips]
          rw [if_neg hno]
        have hch : changed (64 + A) (64 + bt) z (k + 1) = changed (64 + A) (64 + bt) z k := by
          conv => lhs; rw [changed]
          have : (z.testBit k && decide (64 + A + k < 64 + bt)) = false := by simpa using hno
          rw [this, Bool.or_false]
        have Hfl := Lib.hid hfl
        have Hch := Lib.hid hch
        clear hfl hch
        cases htb : z.testBit k with
        | false =>
          rw [htb] at hsb
          have hsb2 : (((z : Int) / (2 : Int) ^ k).tmod 2 == 1) = false := by rw [hsb]; rfl
          clear htb hsb hno
          go_wp2
          go_roundw
          case rel => exact ⟨k + 1, by omega, by go_num, by rw [Hch.out], by rw [Hfl.out]; exact O, E⟩
          case measure => simp [intOf]; omega
        | true =>
          rw [htb] at hsb hno
          have hsb2 : (((z : Int) / (2 : Int) ^ k).tmod 2 == 1) = true := by rw [hsb]; rfl
          have hlt2 : decide ((A : Int) + (k : Int) < (bt : Int)) = false := by
            simp only [Bool.true_and, decide_eq_true_eq] at hno
            simp; omega
          clear htb hsb hno
          go_wp2
          go_roundw
          case rel => exact ⟨k + 1, by omega, by go_num, by rw [Hch.out], by rw [Hfl.out]; exact O, E⟩
          case measure => simp [intOf]; omega
      have hfl : flips (frameOf lb) (64 + A) (64 + bt) z (k + 1) = flipBit (flips (frameOf lb) (64 + A) (64 + bt) z k) (64 + A + k) := by
        conv => lhs; rw [flips]
        rw [if_pos hno]
      have hch : changed (64 + A) (64 + bt) z (k + 1) = true := by
        rw [changed, hno, Bool.or_true]
      have Hfl := Lib.hid hfl
      have Hch := Lib.hid hch
      clear hfl hch
      rw [Bool.and_eq_true, decide_eq_true_eq] at hno
      obtain ⟨htb, hlt⟩ := hno
      rw [htb] at hsb
      have hsb2 : (((z : Int) / (2 : Int) ^ k).tmod 2 == 1) = true := by rw [hsb]; rfl
      have hlt2 : decide ((A : Int) + (k : Int) < (bt : Int)) = true := by simp; omega
      clear htb hsb
      go_wp2_with fail
      obtain ⟨q8, hq8⟩ : ∃ q8, q8 = (64 + A + k) / 8 := ⟨_, rfl⟩
      obtain ⟨r8, hr8⟩ : ∃ r8, r8 = (64 + A + k) % 8 := ⟨_, rfl⟩
      have hql : q8 < 8 + m := by have := Hbt.out; omega
      have hW : IntKind.i64.wrap ((64 : Int) + ((A : Int) + (k : Int))) = (64 : Int) + ((A : Int) + (k : Int)) := IntWalk.i64_in _ (by omega)
      have hQ : ((64 : Int) + ((A : Int) + (k : Int))).tdiv 8 = (q8 : Int) := by rw [Int.tdiv_eq_ediv_of_nonneg (by omega)]; omega
      have hR : ((64 : Int) + ((A : Int) + (k : Int))).tmod 8 = (r8 : Int) := by rw [Int.tmod_eq_emod_of_nonneg (by omega)]; omega
      have hQw : IntKind.i64.wrap (q8 : Int) = (q8 : Int) := IntWalk.i64_in _ (by omega)
      have hRw : IntKind.i64.wrap (r8 : Int) = (r8 : Int) := IntWalk.i64_in _ (by omega)
      have hqi : (q8 : Int) < 8 + (m : Int) := by omega
      have hqi0 : (0 : Int) ≤ (q8 : Int) := by omega
      have hri0 : (0 : Int) ≤ (r8 : Int) := by omega
      have hr7 : r8 ≤ 7 := by omega
      have Hq8 := Lib.hid hq8
      have Hr8 := Lib.hid hr8
      clear hq8 hr8
      have hOd := O.drew
      obtain ⟨g2, o2, rfl, hcells⟩ := O.bs.at (by omega)
      have hcell := hcells q8 hql
      have hOl := O.leng
      have hg2 : o2 = 0 := by
        rcases O.form with ⟨e, _⟩ | ⟨g', cur, e, _⟩
        · cases e
        · simp only [Option.some.injEq, Addr.mk.injEq, and_true] at e
          exact e.2
      subst hg2
      rw [Nat.zero_add] at hcell
      have hfz := Ow.froz O q8
      refine rt_start (by kernel_rfl) ?_
      refine rt_take (i := 0) (d := (some 63)) (v := ?_) rfl rfl (by kernel_rfl) (by kernel_rfl) (by kernel_rfl) (fun _ _ _ h => h) (by rfl) ?_ ?_
      rotate_left
      · (intro w'; go_simp) <;> with_reducible rfl
      simp only [Act.put, List.setIfInBounds_toArray, List.set_cons_zero, List.set_cons_succ]
      refine rt_take (i := 1) (d := (some 64)) (v := ?_) rfl rfl (by kernel_rfl) (by kernel_rfl) (by kernel_rfl) (fun _ _ _ h => h) (by rfl) ?_ ?_
      rotate_left
      · (intro w'; go_simp) <;> with_reducible rfl
      simp only [Act.put, List.setIfInBounds_toArray, List.set_cons_zero, List.set_cons_succ]
      refine rt_take (i := 2) (d := (some 65)) (v := ?_) rfl rfl (by kernel_rfl) (by kernel_rfl) (by kernel_rfl) (fun _ _ _ h => h) (by rfl) ?_ ?_
      rotate_left
      · (intro w'; go_simp) <;> with_reducible rfl
      simp only [Act.put, List.setIfInBounds_toArray, List.set_cons_zero, List.set_cons_succ]
      refine rt_take (i := 3) (d := (some 66)) (v := ?_) rfl rfl (by kernel_rfl) (by kernel_rfl) (by kernel_rfl) (fun _ _ _ h => h) (by rfl) ?_ ?_
      rotate_left
      · (intro w'; go_simp) <;> with_reducible rfl
      simp only [Act.put, List.setIfInBounds_toArray, List.set_cons_zero, List.set_cons_succ]
      refine rt_take (i := 4) (d := (some 67)) (v := ?_) rfl rfl (by kernel_rfl) (by kernel_rfl) (by kernel_rfl) (fun _ _ _ h => h) (by rfl) ?_ ?_
      rotate_left
      · (intro w'; go_simp) <;> with_reducible rfl
      simp only [Act.put, List.setIfInBounds_toArray, List.set_cons_zero, List.set_cons_succ]
      refine rt_take (i := 5) (d := (some 68)) (v := ?_) rfl rfl (by kernel_rfl) (by kernel_rfl) (by kernel_rfl) (fun _ _ _ h => h) (by rfl) ?_ ?_
      rotate_left
      · (intro w'; go_simp) <;> with_reducible rfl
      simp only [Act.put, List.setIfInBounds_toArray, List.set_cons_zero, List.set_cons_succ]
      refine rt_take (i := 7) (d := (some 70)) (v := ?_) rfl rfl (by kernel_rfl) (by kernel_rfl) (by kernel_rfl) (fun _ _ _ h => h) (by rfl) ?_ ?_
      rotate_left
      · (intro w'; go_simp) <;> with_reducible rfl
      simp only [Act.put, List.setIfInBounds_toArray, List.set_cons_zero, List.set_cons_succ]
      refine rt_take (i := 8) (d := (some 71)) (v := ?_) rfl rfl (by kernel_rfl) (by kernel_rfl) (by kernel_rfl) (fun _ _ _ h => h) (by rfl) ?_ ?_
      rotate_left
      · (intro w'; go_simp) <;> with_reducible rfl
      simp only [Act.put, List.setIfInBounds_toArray, List.set_cons_zero, List.set_cons_succ]
      refine rt_take (i := 9) (d := (some 72)) (v := ?_) rfl rfl (by kernel_rfl) (by kernel_rfl) (by kernel_rfl) (fun _ _ _ h => h) (by rfl) ?_ ?_
      rotate_left
      · (intro w'; go_simp) <;> with_reducible rfl
      simp only [Act.put, List.setIfInBounds_toArray, List.set_cons_zero, List.set_cons_succ]
      refine rt_take (i := 10) (d := (some 73)) (v := ?_) rfl rfl (by kernel_rfl) (by kernel_rfl) (by kernel_rfl) (fun _ _ _ h => h) (by rfl) ?_ ?_
      rotate_left
      · (intro w'; go_simp) <;> with_reducible rfl
      simp only [Act.put, List.setIfInBounds_toArray, List.set_cons_zero, List.set_cons_succ]
      refine rt_take (i := 11) (d := (some 74)) (v := ?_) rfl rfl (by kernel_rfl) (by kernel_rfl) (by kernel_rfl) (fun _ _ _ h => h) (by rfl) ?_ ?_
      rotate_left
      · (intro w'; go_simp) <;> with_reducible rfl
      simp only [Act.put, List.setIfInBounds_toArray, List.set_cons_zero, List.set_cons_succ]
      refine rt_one (i := 6) rfl (by kernel_rfl) (by rfl) (fun K hK => ?_)
      go_simp
      refine hK.out _ _ ?_
      clear hK K
      try simp only [Act.put, List.setIfInBounds_toArray, List.set_cons_zero, List.set_cons_succ]
      refine rt_take (i := 12) (d := (some 75)) (v := ?_) rfl rfl (by kernel_rfl) (by kernel_rfl) (by kernel_rfl) (fun _ _ _ h => h) (by rfl) ?_ ?_
      rotate_left
      · (intro w'; go_simp) <;> with_reducible rfl
      simp only [Act.put, List.setIfInBounds_toArray, List.set_cons_zero, List.set_cons_succ]
      refine rt_take (i := 13) (d := (some 76)) (v := ?_) rfl rfl (by kernel_rfl) (by kernel_rfl) (by kernel_rfl) (fun _ _ _ h => h) (by rfl) ?_ ?_
      rotate_left
      · (intro w'; go_simp) <;> with_reducible rfl
      simp only [Act.put, List.setIfInBounds_toArray, List.set_cons_zero, List.set_cons_succ]
      refine rt_one (i := 14) rfl (by kernel_rfl) (by rfl) (fun K hK => ?_)
      go_simp
      refine hK.out _ _ ?_
      clear hK K
      try simp only [Act.put, List.setIfInBounds_toArray, List.set_cons_zero, List.set_cons_succ]
      refine rt_done (by kernel_rfl) ?_
      go_wp2_with fail
      have hX := xor_pow (flips (frameOf lb) (64 + A) (64 + bt) z k) q8 r8
      rw [hX]
      have hlt3 : w1.heap.size ≤ g2 := (O.lt rfl).1
      have O9 := O.setAt q8 hql (((flips (frameOf lb) (64 + A) (64 + bt) z k)[q8]?.getD 0) ^^^ UInt8.ofNat (2 ^ r8)) _ rfl
      refine ⟨⟨k + 1, by omega, by go_num, by rw [Hch.out], ?_, (E.st hlt3 _ _).dr⟩, by simp [intOf]; omega⟩
      rw [Hfl.out]
      unfold flipBit
      rw [← Hq8.out, ← Hr8.out]
      exact O9
  · have hA : ((200 : Int) < (n : Int)) = False := by simp; omega
    obtain rfl : m = n := by have := Hm.out; omega
    go_enter Try.func11, Try.ntmps11
    go_wp2_with (go_at_call 32; rw [Hgb.out, ← HW0.out]; refine (awake3_any w0).mono ?_; rintro e w1 ⟨rfl, E1⟩; have E01 := E0.tr E1; have hb1 := E01.bs hsub; have k1 := k0.ext E1)
    clear hge hA
    refine (append_any none a 0 0 _ c [] lb w1 (Bs.nil _ _) hb1 (by omega) (by omega) (fun _ => rfl) hz).mono ?_
    intro e w2 hp
    unfold AppendPost at hp
    rw [if_neg (by omega)] at hp
    obtain ⟨a2, n2, c2, rfl, O2, hn2, E2⟩ := hp
    rw [List.nil_append] at O2
    simp only [List.length_nil, Nat.zero_add] at hn2
    rw [hml] at hn2
    subst hn2
    have E12 := E01.tr E2
    have k2 := k1.ext E2
    have m20 := k2.at_ (i := 0) rfl
    have m21 := k2.at_ (i := 1) rfl
    have m22 := k2.at_ (i := 2) rfl
    have hBg : w.heap.size ≤ w1.heap.size := E01.sz
    by_cases hm0 : m = 0
    · subst hm0
      go_wp2
      go_ret
      exact ⟨rfl, E12⟩
    obtain ⟨bt, hbt⟩ : ∃ bt, bt = 8 * m := ⟨_, rfl⟩
    have hbt8 : (8 : Int) * (m : Int) = (bt : Int) := by omega
    have hb0 : ((bt : Int) == 0) = false := by simp; omega
    obtain ⟨A, hA⟩ : ∃ A : Nat, (x : Int) % (bt : Int) = (A : Int) := ⟨x % bt, by omega⟩
    have hAb : A < bt := by
      have := Nat.mod_lt x (show 0 < bt by omega)
      omega
    have Hbt := Lib.hid hbt
    have hbt1 : bt ≤ 1600 := by omega
    clear hbt
    go_wp2_with fail
    go_loopw [9, 42] (fun ch i wr => BurRel w1 w1.heap.size a2 (8 + m) c2 (frameOf lb) (64 + A) (64 + bt) z ch i wr) (fun _ i _ => 32 - (intOf i).toNat)
    case atStart => exact ⟨0, by omega, rfl, rfl, O2, E2⟩
    case round =>
      obtain ⟨k, hk, rfl, rfl, O, E⟩ := hrel
      rename World => W
      have kW := k1.ext E
      by_cases hk32 : k < 32
      case neg =>
        obtain rfl : k = 32 := by omega
        have hkb : decide (((32 : Nat) : Int) < 32) = false := by simp
        obtain ⟨p, hp1, hp2, hp3⟩ := burst_first lb (by omega) false A z (flips (frameOf lb) (64 + A) (64 + bt) z 32) (changed (64 + A) (64 + bt) z 32) (by rw [hml, ← Hbt.out]; rfl) (by rw [hml, ← Hbt.out]; rfl)
        have hOl := O.leng
        generalize flips (frameOf lb) (64 + A) (64 + bt) z 32 = q at *
        generalize changed (64 + A) (64 + bt) z 32 = ch at *
        have Hp1 := Lib.hid hp1
        clear hp1
        go_wp2_with (go_at_call 36; refine (parts_any a2 (8 + m) c2 q 1 W O.bs (by omega) O.cap.2 (by omega)).mono ?_; rintro e w4 ⟨a4, c4, rows4, rfl, P4, hD4, E4⟩; rw [Hp1.out] at hD4; obtain ⟨r, rfl, hr⟩ := List.map_eq_singleton_iff.1 hD4; obtain ⟨g4, a5, n5, c5, rfl, e5, o5, d0, d1, d2, d3⟩ := P4.at 0 r rfl; simp only [Nat.zero_mul, Nat.zero_add, hr, hp2, hp3] at d0 d1 d2 d3; simp only [List.length_cons, List.length_nil, Nat.zero_add])
        all_goals
          go_wp2
          go_ret
          exact ⟨by cases ch <;> rfl, (E01.tr E).tr E4⟩
      have hkb : decide ((k : Int) < 32) = true := by simp; omega
      have m20 := kW.at_ (i := 0) rfl
      have m21 := kW.at_ (i := 1) rfl
      have m22 := kW.at_ (i := 2) rfl
      have q1 : (0 : Int) ≤ (k : Int) := by omega
      clear m20 m21 m22
      have m20 := kW.at_ (i := 0) rfl
      have m21 := kW.at_ (i := 1) rfl
      have m22 := kW.at_ (i := 2) rfl
      have hsb := shr_bit z k
      by_cases hno : (z.testBit k && decide (64 + A + k < 64 + bt)) = true
      case neg =>
        have hfl : flips (frameOf lb) (64 + A) (64 + bt) z (k + 1) = flips (frameOf lb) (64 + A) (64 + bt) z k := by
          conv => lhs; rw [flips]
          rw [if_neg hno]
        have hch : changed (64 + A) (64 + bt) z (k + 1) = changed (64 + A) (64 + bt) z k := by
          conv => lhs; rw [changed]
          have : (z.testBit k && decide (64 + A + k < 64 + bt)) = false := by simpa using hno
          rw [this, Bool.or_false]
        have Hfl := Lib.hid hfl
        have Hch := Lib.hid hch
        clear hfl hch
        cases htb : z.testBit k with
        | false =>
          rw [htb] at hsb
          have hsb2 : (((z : Int) / (2 : Int) ^ k).tmod 2 == 1) = false := by rw [hsb]; rfl
          clear htb hsb hno
          go_wp2
          go_roundw
          case rel => exact ⟨k + 1, by omega, by go_num, by rw [Hch.out], by rw [Hfl.out]; exact O, E⟩
          case measure => simp [intOf]; omega
        | true =>
          rw [htb] at hsb hno
          have hsb2 : (((z : Int) / (2 : Int) ^ k).tmod 2 == 1) = true := by rw [hsb]; rfl
          have hlt2 : decide ((A : Int) + (k : Int) < (bt : Int)) = false := by
            simp only [Bool.true_and, decide_eq_true_eq] at hno
            simp; omega
          clear htb hsb hno
          go_wp2
          go_roundw
          case rel => exact ⟨k + 1, by omega, by go_num, by rw [Hch.out], by rw [Hfl.out]; exact O, E⟩
          case measure => simp [intOf]; omega
      have hfl : flips (frameOf lb) (64 + A) (64 + bt) z (k + 1) = flipBit (flips (frameOf lb) (64 + A) (64 + bt) z k) (64 + A + k) := by
        conv => lhs; rw [flips]
        rw [if_pos hno]
      have hch : changed (64 + A) (64 + bt) z (k + 1) = true := by
        rw [changed, hno, Bool.or_true]
      have Hfl := Lib.hid hfl
      have Hch := Lib.hid hch
      clear hfl hch
      rw [Bool.and_eq_true, decide_eq_true_eq] at hno
      obtain ⟨htb, hlt⟩ := hno
      rw [htb] at hsb
      have hsb2 : (((z : Int) / (2 : Int) ^ k).tmod 2 == 1) = true := by rw [hsb]; rfl
      have hlt2 : decide ((A : Int) + (k : Int) < (bt : Int)) = true := by simp; omega
      clear htb hsb
      go_wp2_with fail
      obtain ⟨q8, hq8⟩ : ∃ q8, q8 = (64 + A + k) / 8 := ⟨_, rfl⟩
      obtain ⟨r8, hr8⟩ : ∃ r8, r8 = (64 + A + k) % 8 := ⟨_, rfl⟩
      have hql : q8 < 8 + m := by have := Hbt.out; omega
      have hW : IntKind.i64.wrap ((64 : Int) + ((A : Int) + (k : Int))) = (64 : Int) + ((A : Int) + (k : Int)) := IntWalk.i64_in _ (by omega)
      have hQ : ((64 : Int) + ((A : Int) + (k : Int))).tdiv 8 = (q8 : Int) := by rw [Int.tdiv_eq_ediv_of_nonneg (by omega)]; omega
      have hR : ((64 : Int) + ((A : Int) + (k : Int))).tmod 8 = (r8 : Int) := by rw [Int.tmod_eq_emod_of_nonneg (by omega)]; omega
      have hQw : IntKind.i64.wrap (q8 : Int) = (q8 : Int) := IntWalk.i64_in _ (by omega)
      have hRw : IntKind.i64.wrap (r8 : Int) = (r8 : Int) := IntWalk.i64_in _ (by omega)
      have hqi : (q8 : Int) < 8 + (m : Int) := by omega
      have hqi0 : (0 : Int) ≤ (q8 : Int) := by omega
      have hri0 : (0 : Int) ≤ (r8 : Int) := by omega
      have hr7 : r8 ≤ 7 := by omega
      have Hq8 := Lib.hid hq8
      have Hr8 := Lib.hid hr8
      clear hq8 hr8
      have hOd := O.drew
      obtain ⟨g2, o2, rfl, hcells⟩ := O.bs.at (by omega)
      have hcell := hcells q8 hql
      have hOl := O.leng
      have hg2 : o2 = 0 := by
        rcases O.form with ⟨e, _⟩ | ⟨g', cur, e, _⟩
        · cases e
        · simp only [Option.some.injEq, Addr.mk.injEq, and_true] at e
          exact e.2
      subst hg2
      rw [Nat.zero_add] at hcell
      have hfz := Ow.froz O q8
      refine rt_start (by kernel_rfl) ?_
      refine rt_take (i := 0) (d := (some 63)) (v := ?_) rfl rfl (by kernel_rfl) (by kernel_rfl) (by kernel_rfl) (fun _ _ _ h => h) (by rfl) ?_ ?_
      rotate_left
      · (intro w'; go_simp) <;> with_reducible rfl
      simp only [Act.put, List.setIfInBounds_toArray, List.set_cons_zero, List.set_cons_succ]
      refine rt_take (i := 1) (d := (some 64)) (v := ?_) rfl rfl (by kernel_rfl) (by kernel_rfl) (by kernel_rfl) (fun _ _ _ h => h) (by rfl) ?_ ?_
      rotate_left
      · (intro w'; go_simp) <;> with_reducible rfl
      simp only [Act.put, List.setIfInBounds_toArray, List.set_cons_zero, List.set_cons_succ]
      refine rt_take (i := 2) (d := (some 65)) (v := ?_) rfl rfl (by kernel_rfl) (by kernel_rfl) (by kernel_rfl) (fun _ _ _ h => h) (by rfl) ?_ ?_
      rotate_left
      · (intro w'; go_simp) <;> with_reducible rfl
      simp only [Act.put, List.setIfInBounds_toArray, List.set_cons_zero, List.set_cons_succ]
      refine rt_take (i := 3) (d := (some 66)) (v := ?_) rfl rfl (by kernel_rfl) (by kernel_rfl) (by kernel_rfl) (fun _ _ _ h => h) (by rfl) ?_ ?_
      rotate_left
      · (intro w'; go_simp) <;> with_reducible rfl
      simp only [Act.put, List.setIfInBounds_toArray, List.set_cons_zero, List.set_cons_succ]
      refine rt_take (i := 4) (d := (some 67)) (v := ?_) rfl rfl (by kernel_rfl) (by kernel_rfl) (by kernel_rfl) (fun _ _ _ h => h) (by rfl) ?_ ?_
      rotate_left
      · (intro w'; go_simp) <;> with_reducible rfl
      simp only [Act.put, List.setIfInBounds_toArray, List.set_cons_zero, List.set_cons_succ]
      refine rt_take (i := 5) (d := (some 68)) (v := ?_) rfl rfl (by kernel_rfl) (by kernel_rfl) (by kernel_rfl) (fun _ _ _ h => h) (by rfl) ?_ ?_
      rotate_left
      · (intro w'; go_simp) <;> with_reducible rfl
      simp only [Act.put, List.setIfInBounds_toArray, List.set_cons_zero, List.set_cons_succ]
      refine rt_take (i := 7) (d := (some 70)) (v := ?_) rfl rfl (by kernel_rfl) (by kernel_rfl) (by kernel_rfl) (fun _ _ _ h => h) (by rfl) ?_ ?_
      rotate_left
      · (intro w'; go_simp) <;> with_reducible rfl
      simp only [Act.put, List.setIfInBounds_toArray, List.set_cons_zero, List.set_cons_succ]
      refine rt_take (i := 8) (d := (some 71)) (v := ?_) rfl rfl (by kernel_rfl) (by kernel_rfl) (by kernel_rfl) (fun _ _ _ h => h) (by rfl) ?_ ?_
      rotate_left
      · (intro w'; go_simp) <;> with_reducible rfl
      simp only [Act.put, List.setIfInBounds_toArray, List.set_cons_zero, List.set_cons_succ]
      refine rt_take (i := 9) (d := (some 72)) (v := ?_) rfl rfl (by kernel_rfl) (by kernel_rfl) (by kernel_rfl) (fun _ _ _ h => h) (by rfl) ?_ ?_
      rotate_left
      · (intro w'; go_simp) <;> with_reducible rfl
      simp only [Act.put, List.setIfInBounds_toArray, List.set_cons_zero, List.set_cons_succ]
      refine rt_take (i := 10) (d := (some 73)) (v := ?_) rfl rfl (by kernel_rfl) (by kernel_rfl) (by kernel_rfl) (fun _ _ _ h => h) (by rfl) ?_ ?_
      rotate_left
      · (intro w'; go_simp) <;> with_reducible rfl
      simp only [Act.put, List.setIfInBounds_toArray, List.set_cons_zero, List.set_cons_succ]
      refine rt_take (i := 11) (d := (some 74)) (v := ?_) rfl rfl (by kernel_rfl) (by kernel_rfl) (by kernel_rfl) (fun _ _ _ h => h) (by rfl) ?_ ?_
      rotate_left
      · (intro w'; go_simp) <;> with_reducible rfl
      simp only [Act.put, List.setIfInBounds_toArray, List.set_cons_zero, List.set_cons_succ]
      refine rt_one (i := 6) rfl (by kernel_rfl) (by rfl) (fun K hK => ?_)
      go_simp
      refine hK.out _ _ ?_
      clear hK K
      try simp only [Act.put, List.setIfInBounds_toArray, List.set_cons_zero, List.set_cons_succ]
      refine rt_take (i := 12) (d := (some 75)) (v := ?_) rfl rfl (by kernel_rfl) (by kernel_rfl) (by kernel_rfl) (fun _ _ _ h => h) (by rfl) ?_ ?_
      rotate_left
      · (intro w'; go_simp) <;> with_reducible rfl
      simp only [Act.put, List.setIfInBounds_toArray, List.set_cons_zero, List.set_cons_succ]
      refine rt_take (i := 13) (d := (some 76)) (v := ?_) rfl rfl (by kernel_rfl) (by kernel_rfl) (by kernel_rfl) (fun _ _ _ h => h) (by rfl) ?_ ?_
      rotate_left
      · (intro w'; go_simp) <;> with_reducible rfl
      simp only [Act.put, List.setIfInBounds_toArray, List.set_cons_zero, List.set_cons_succ]
      refine rt_one (i := 14) rfl (by kernel_rfl) (by rfl) (fun K hK => ?_)
      go_simp
      refine hK.out _ _ ?_
      clear hK K
      try simp only [Act.put, List.setIfInBounds_toArray, List.set_cons_zero, List.set_cons_succ]
      refine rt_done (by kernel_rfl) ?_
      go_wp2_with fail
      have hX := xor_pow (flips (frameOf lb) (64 + A) (64 + bt) z k) q8 r8
      rw [hX]
      have hlt3 : w1.heap.size ≤ g2 := (O.lt rfl).1
      have O9 := O.setAt q8 hql (((flips (frameOf lb) (64 + A) (64 + bt) z k)[q8]?.getD 0) ^^^ UInt8.ofNat (2 ^ r8)) _ rfl
      refine ⟨⟨k + 1, by omega, by go_num, by rw [Hch.out], ?_, (E.st hlt3 _ _).dr⟩, by simp [intOf]; omega⟩
      rw [Hfl.out]
      unfold flipBit
      rw [← Hq8.out, ← Hr8.out]
      exact O9
set_option maxRecDepth 100000 in
set_option maxHeartbeats 1600000 in
theorem bursts_true (a : Option Addr) (n c : Nat) (l : List UInt8) (x z : Nat) (w : World) (hb : Bs w a n l) (hn : n ≤ 140737488351232) (hnc : n ≤ c) (hz : a = none → c = 0) (hx : x ≤ 65535) (hzz : z ≤ 4294967295) :
    Calls Try.prog 11 #[.slice a n c, .agg #[.bool true, .int .u16 (x : Int), .int .u32 (z : Int)]] w (fun e w' => e = .returned (.bool true) ∧ Ext w w') := by
  obtain ⟨m, hm⟩ : ∃ m : Nat, m = min n 200 := ⟨_, rfl⟩
  have hsub := hb.sub 0 m (by omega) (a' := a) (fun b' o' e _ => by rw [e]; simp)
  rw [List.drop_zero] at hsub
  have hml := hsub.leng
  generalize l.take m = lb at *
  obtain ⟨w0, hw0⟩ : ∃ w0, w0 = w.alloc (.cells #[.bool true, .int .u16 (x : Int), .int .u32 (z : Int)] 54) := ⟨_, rfl⟩
  have E0 : Ext w w0 := by rw [hw0]; exact (Ext.refl w).al _
  have k0 : Blk w0 w.heap.size 54 [.bool true, .int .u16 (x : Int), .int .u32 (z : Int)] := by rw [hw0]; exact Blk.new w 54 _
  have HW0 := Lib.hid hw0
  clear hw0
  generalize hgb : w.heap.size = gb at *
  have Hgb := Lib.hid hgb
  clear hgb
  have hmc : (m : Int) ≤ (c : Int) := by omega
  have hm2 : m ≤ 200 := by omega
  have Hm := Lib.hid hm
  clear hm
  rcases Nat.lt_or_ge 200 n with hlt | hge
  · have hA : ((200 : Int) < (n : Int)) = True := by simp; omega
    go_enter Try.func11, Try.ntmps11
    go_wp2_with (go_at_call 32; rw [Hgb.out, ← HW0.out]; refine (awake3_any w0).mono ?_; rintro e w1 ⟨rfl, E1⟩; have E01 := E0.tr E1; have hb1 := E01.bs hsub; have k1 := k0.ext E1)
    rw [show (200 : Nat) = m by have := Hm.out; omega]
    clear hlt hA
    refine (append_any none a 0 0 _ c [] lb w1 (Bs.nil _ _) hb1 (by omega) (by omega) (fun _ => rfl) hz).mono ?_
    intro e w2 hp
    unfold AppendPost at hp
    rw [if_neg (by omega)] at hp
    obtain ⟨a2, n2, c2, rfl, O2, hn2, E2⟩ := hp
    rw [List.nil_append] at O2
    simp only [List.length_nil, Nat.zero_add] at hn2
    rw [hml] at hn2
    subst hn2
    have E12 := E01.tr E2
    have k2 := k1.ext E2
    have m20 := k2.at_ (i := 0) rfl
    have m21 := k2.at_ (i := 1) rfl
    have m22 := k2.at_ (i := 2) rfl
    have hBg : w.heap.size ≤ w1.heap.size := E01.sz
    obtain ⟨A, hA⟩ : ∃ A : Nat, (x : Int) % 32 = (A : Int) := ⟨x % 32, by omega⟩
    have hAb : A < 32 := by omega
    go_wp2_with fail
    go_loopw [9, 42] (fun ch i wr => BurRel w1 w1.heap.size a2 (8 + m) c2 (frameOf lb) (32 + A) (32 + 32) z ch i wr) (fun _ i _ => 32 - (intOf i).toNat)
    case atStart => exact ⟨0, by omega, rfl, rfl, O2, E2⟩
    case round =>
      obtain ⟨k, hk, rfl, rfl, O, E⟩ := hrel
      rename World => W
      have kW := k1.ext E
      by_cases hk32 : k < 32
      case neg =>
        obtain rfl : k = 32 := by omega
        have hkb : decide (((32 : Nat) : Int) < 32) = false := by simp
        obtain ⟨p, hp1, hp2, hp3⟩ := burst_first lb (by omega) true A z (flips (frameOf lb) (32 + A) (32 + 32) z 32) (changed (32 + A) (32 + 32) z 32) (by rfl) (by rfl)
        have hOl := O.leng
        generalize flips (frameOf lb) (32 + A) (32 + 32) z 32 = q at *
        generalize changed (32 + A) (32 + 32) z 32 = ch at *
        have Hp1 := Lib.hid hp1
        clear hp1
        go_wp2_with (go_at_call 36; refine (parts_any a2 (8 + m) c2 q 1 W O.bs (by omega) O.cap.2 (by omega)).mono ?_; rintro e w4 ⟨a4, c4, rows4, rfl, P4, hD4, E4⟩; rw [Hp1.out] at hD4; obtain ⟨r, rfl, hr⟩ := List.map_eq_singleton_iff.1 hD4; obtain ⟨g4, a5, n5, c5, rfl, e5, o5, d0, d1, d2, d3⟩ := P4.at 0 r rfl; simp only [Nat.zero_mul, Nat.zero_add, hr, hp2, hp3] at d0 d1 d2 d3; simp only [List.length_cons, List.length_nil, Nat.zero_add])
        all_goals
          go_wp2
          go_ret
          exact ⟨by cases ch <;> rfl, (E01.tr E).tr E4⟩
      have hkb : decide ((k : Int) < 32) = true := by simp; omega
      have m20 := kW.at_ (i := 0) rfl
      have m21 := kW.at_ (i := 1) rfl
      have m22 := kW.at_ (i := 2) rfl
      have q1 : (0 : Int) ≤ (k : Int) := by omega
      clear m20 m21 m22
      have m20 := kW.at_ (i := 0) rfl
      have m21 := kW.at_ (i := 1) rfl
      have m22 := kW.at_ (i := 2) rfl
      have hsb := shr_bit z k
      by_cases hno : (z.testBit k && decide (32 + A + k < 32 + 32)) = true
      case neg =>
        have hfl : flips (frameOf lb) (32 + A) (32 + 32) z (k + 1) = flips (frameOf lb) (32 + A) (32 + 32) z k := by
          conv => lhs; rw [flips]
          rw [if_neg hno]
        have hch : changed (32 + A) (32 + 32) z (k + 1) = changed (32 + A) (32 + 32) z k := by
          conv => lhs; rw [changed]
          have : (z.testBit k && decide (32 + A + k < 32 + 32)) = false := by simpa using hno
          rw [this, Bool.or_false]
        have Hfl := Lib.hid hfl
        have Hch := Lib.hid hch
        clear hfl hch
        cases htb : z.testBit k with
        | false =>
          rw [htb] at hsb
          have hsb2 : (((z : Int) / (2 : Int) ^ k).tmod 2 == 1) = false := by rw [hsb]; rfl
          clear htb hsb hno
          go_wp2
          go_roundw
          case rel => exact ⟨k + 1, by omega, by go_num, by rw [Hch.out], by rw [Hfl.out]; exact O, E⟩
          case measure => simp [intOf]; omega
        | true =>
          rw [htb] at hsb hno
          have hsb2 : (((z : Int) / (2 : Int) ^ k).tmod 2 == 1) = true := by rw [hsb]; rfl
          have hlt2 : decide ((A : Int) + (k : Int) < (32 : Int)) = false := by
            simp only [Bool.true_and, decide_eq_true_eq] at hno
            simp; omega
          clear htb hsb hno
          go_wp2
          go_roundw
          case rel => exact ⟨k + 1, by omega, by go_num, by rw [Hch.out], by rw [Hfl.out]; exact O, E⟩
          case measure => simp [intOf]; omega
      have hfl : flips (frameOf lb) (32 + A) (32 + 32) z (k + 1) = flipBit (flips (frameOf lb) (32 + A) (32 + 32) z k) (32 + A + k) := by
        conv => lhs; rw [flips]
        rw [if_pos hno]
      have hch : changed (32 + A) (32 + 32) z (k + 1) = true := by
        rw [changed, hno, Bool.or_true]
      have Hfl := Lib.hid hfl
      have Hch := Lib.hid hch
      clear hfl hch
      rw [Bool.and_eq_true, decide_eq_true_eq] at hno
      obtain ⟨htb, hlt⟩ := hno
      rw [htb] at hsb
      have hsb2 : (((z : Int) / (2 : Int) ^ k).tmod 2 == 1) = true := by rw [hsb]; rfl
      have hlt2 : decide ((A : Int) + (k : Int) < (32 : Int)) = true := by simp; omega
      clear htb hsb
      go_wp2_with fail
      obtain ⟨q8, hq8⟩ : ∃ q8, q8 = (32 + A + k) / 8 := ⟨_, rfl⟩
      obtain ⟨r8, hr8⟩ : ∃ r8, r8 = (32 + A + k) % 8 := ⟨_, rfl⟩
      have hql : q8 < 8 + m := by have := hlt; omega
      have hW : IntKind.i64.wrap ((32 : Int) + ((A : Int) + (k : Int))) = (32 : Int) + ((A : Int) + (k : Int)) := IntWalk.i64_in _ (by omega)
      have hQ : ((32 : Int) + ((A : Int) + (k : Int))).tdiv 8 = (q8 : Int) := by rw [Int.tdiv_eq_ediv_of_nonneg (by omega)]; omega
      have hR : ((32 : Int) + ((A : Int) + (k : Int))).tmod 8 = (r8 : Int) := by rw [Int.tmod_eq_emod_of_nonneg (by omega)]; omega
      have hQw : IntKind.i64.wrap (q8 : Int) = (q8 : Int) := IntWalk.i64_in _ (by omega)
      have hRw : IntKind.i64.wrap (r8 : Int) = (r8 : Int) := IntWalk.i64_in _ (by omega)
      have hqi : (q8 : Int) < 8 + (m : Int) := by omega
      have hqi0 : (0 : Int) ≤ (q8 : Int) := by omega
      have hri0 : (0 : Int) ≤ (r8 : Int) := by omega
      have hr7 : r8 ≤ 7 := by omega
      have Hq8 := Lib.hid hq8
      have Hr8 := Lib.hid hr8
      clear hq8 hr8
      have hOd := O.drew
      obtain ⟨g2, o2, rfl, hcells⟩ := O.bs.at (by omega)
      have hcell := hcells q8 hql
      have hOl := O.leng
      have hg2 : o2 = 0 := by
        rcases O.form with ⟨e, _⟩ | ⟨g', cur, e, _⟩
        · cases e
        · simp only [Option.some.injEq, Addr.mk.injEq, and_true] at e
          exact e.2
      subst hg2
      rw [Nat.zero_add] at hcell
      have hfz := Ow.froz O q8
      refine rt_start (by kernel_rfl) ?_
      refine rt_take (i := 0) (d := (some 63)) (v := ?_) rfl rfl (by kernel_rfl) (by kernel_rfl) (by kernel_rfl) (fun _ _ _ h => h) (by rfl) ?_ ?_
      rotate_left
      · (intro w'; go_simp) <;> with_reducible rfl
      simp only [Act.put, List.setIfInBounds_toArray, List.set_cons_zero, List.set_cons_succ]
      refine rt_take (i := 1) (d := (some 64)) (v := ?_) rfl rfl (by kernel_rfl) (by kernel_rfl) (by kernel_rfl) (fun _ _ _ h => h) (by rfl) ?_ ?_
      rotate_left
      · (intro w'; go_simp) <;> with_reducible rfl
      simp only [Act.put, List.setIfInBounds_toArray, List.set_cons_zero, List.set_cons_succ]
      refine rt_take (i := 2) (d := (some 65)) (v := ?_) rfl rfl (by kernel_rfl) (by kernel_rfl) (by kernel_rfl) (fun _ _ _ h => h) (by rfl) ?_ ?_
      rotate_left
      · (intro w'; go_simp) <;> with_reducible rfl
      simp only [Act.put, List.setIfInBounds_toArray, List.set_cons_zero, List.set_cons_succ]
      refine rt_take (i := 3) (d := (some 66)) (v := ?_) rfl rfl (by kernel_rfl) (by kernel_rfl) (by kernel_rfl) (fun _ _ _ h => h) (by rfl) ?_ ?_
      rotate_left
      · (intro w'; go_simp) <;> with_reducible rfl
      simp only [Act.put, List.setIfInBounds_toArray, List.set_cons_zero, List.set_cons_succ]
      refine rt_take (i := 4) (d := (some 67)) (v := ?_) rfl rfl (by kernel_rfl) (by kernel_rfl) (by kernel_rfl) (fun _ _ _ h => h) (by rfl) ?_ ?_
      rotate_left
      · (intro w'; go_simp) <;> with_reducible rfl
      simp only [Act.put, List.setIfInBounds_toArray, List.set_cons_zero, List.set_cons_succ]
      refine rt_take (i := 5) (d := (some 68)) (v := ?_) rfl rfl (by kernel_rfl) (by kernel_rfl) (by kernel_rfl) (fun _ _ _ h => h) (by rfl) ?_ ?_
      rotate_left
      · (intro w'; go_simp) <;> with_reducible rfl
      simp only [Act.put, List.setIfInBounds_toArray, List.set_cons_zero, List.set_cons_succ]
      refine rt_take (i := 7) (d := (some 70)) (v := ?_) rfl rfl (by kernel_rfl) (by kernel_rfl) (by kernel_rfl) (fun _ _ _ h => h) (by rfl) ?_ ?_
      rotate_left
      · (intro w'; go_simp) <;> with_reducible rfl
      simp only [Act.put, List.setIfInBounds_toArray, List.set_cons_zero, List.set_cons_succ]
      refine rt_take (i := 8) (d := (some 71)) (v := ?_) rfl rfl (by kernel_rfl) (by kernel_rfl) (by kernel_rfl) (fun _ _ _ h => h) (by rfl) ?_ ?_
      rotate_left
      · (intro w'; go_simp) <;> with_reducible rfl
      simp only [Act.put, List.setIfInBounds_toArray, List.set_cons_zero, List.set_cons_succ]
      refine rt_take (i := 9) (d := (some 72)) (v := ?_) rfl rfl (by kernel_rfl) (by kernel_rfl) (by kernel_rfl) (fun _ _ _ h => h) (by rfl) ?_ ?_
      rotate_left
      · (intro w'; go_simp) <;> with_reducible rfl
      simp only [Act.put, List.setIfInBounds_toArray, List.set_cons_zero, List.set_cons_succ]
      refine rt_take (i := 10) (d := (some 73)) (v := ?_) rfl rfl (by kernel_rfl) (by kernel_rfl) (by kernel_rfl) (fun _ _ _ h => h) (by rfl) ?_ ?_
      rotate_left
      · (intro w'; go_simp) <;> with_reducible rfl
      simp only [Act.put, List.setIfInBounds_toArray, List.set_cons_zero, List.set_cons_succ]
      refine rt_take (i := 11) (d := (some 74)) (v := ?_) rfl rfl (by kernel_rfl) (by kernel_rfl) (by kernel_rfl) (fun _ _ _ h => h) (by rfl) ?_ ?_
      rotate_left
      · (intro w'; go_simp) <;> with_reducible rfl
      simp only [Act.put, List.setIfInBounds_toArray, List.set_cons_zero, List.set_cons_succ]
      refine rt_one (i := 6) rfl (by kernel_rfl) (by rfl) (fun K hK => ?_)
      go_simp
      refine hK.out _ _ ?_
      clear hK K
      try simp only [Act.put, List.setIfInBounds_toArray, List.set_cons_zero, List.set_cons_succ]
      refine rt_take (i := 12) (d := (some 75)) (v := ?_) rfl rfl (by kernel_rfl) (by kernel_rfl) (by kernel_rfl) (fun _ _ _ h => h) (by rfl) ?_ ?_
      rotate_left
      · (intro w'; go_simp) <;> with_reducible rfl
      simp only [Act.put, List.setIfInBounds_toArray, List.set_cons_zero, List.set_cons_succ]
      refine rt_take (i := 13) (d := (some 76)) (v := ?_) rfl rfl (by kernel_rfl) (by kernel_rfl) (by kernel_rfl) (fun _ _ _ h => h) (by rfl) ?_ ?_
      rotate_left
      · (intro w'; go_simp) <;> with_reducible rfl
      simp only [Act.put, List.setIfInBounds_toArray, List.set_cons_zero, List.set_cons_succ]
      refine rt_one (i := 14) rfl (by kernel_rfl) (by rfl) (fun K hK => ?_)
      go_simp
      refine hK.out _ _ ?_
      clear hK K
      try simp only [Act.put, List.setIfInBounds_toArray, List.set_cons_zero, List.set_cons_succ]
      refine rt_done (by kernel_rfl) ?_
      go_wp2_with fail
      have hX := xor_pow (flips (frameOf lb) (32 + A) (32 + 32) z k) q8 r8
      rw [hX]
      have hlt3 : w1.heap.size ≤ g2 := (O.lt rfl).1
      have O9 := O.setAt q8 hql (((flips (frameOf lb) (32 + A) (32 + 32) z k)[q8]?.getD 0) ^^^ UInt8.ofNat (2 ^ r8)) _ rfl
      refine ⟨⟨k + 1, by omega, by go_num, by rw [Hch.out], ?_, (E.st hlt3 _ _).dr⟩, by simp [intOf]; omega⟩
      rw [Hfl.out]
      unfold flipBit
      rw [← Hq8.out, ← Hr8.out]
      exact O9
  · have hA : ((200 : Int) < (n : Int)) = False := by simp; omega
    obtain rfl : m = n := by have := Hm.out; omega
    go_enter Try.func11, Try.ntmps11
    go_wp2_with (go_at_call 32; rw [Hgb.out, ← HW0.out]; refine (awake3_any w0).mono ?_; rintro e w1 ⟨rfl, E1⟩; have E01 := E0.tr E1; have hb1 := E01.bs hsub; have k1 := k0.ext E1)
    clear hge hA
    refine (append_any none a 0 0 _ c [] lb w1 (Bs.nil _ _) hb1 (by omega) (by omega) (fun _ => rfl) hz).mono ?_
    intro e w2 hp
    unfold AppendPost at hp
    rw [if_neg (by omega)] at hp
    obtain ⟨a2, n2, c2, rfl, O2, hn2, E2⟩ := hp
    rw [List.nil_append] at O2
    simp only [List.length_nil, Nat.zero_add] at hn2
    rw [hml] at hn2
    subst hn2
    have E12 := E01.tr E2
    have k2 := k1.ext E2
    have m20 := k2.at_ (i := 0) rfl
    have m21 := k2.at_ (i := 1) rfl
    have m22 := k2.at_ (i := 2) rfl
    have hBg : w.heap.size ≤ w1.heap.size := E01.sz
    obtain ⟨A, hA⟩ : ∃ A : Nat, (x : Int) % 32 = (A : Int) := ⟨x % 32, by omega⟩
    have hAb : A < 32 := by omega
    go_wp2_with fail
    go_loopw [9, 42] (fun ch i wr => BurRel w1 w1.heap.size a2 (8 + m) c2 (frameOf lb) (32 + A) (32 + 32) z ch i wr) (fun _ i _ => 32 - (intOf i).toNat)
    case atStart => exact ⟨0, by omega, rfl, rfl, O2, E2⟩
    case round =>
      obtain ⟨k, hk, rfl, rfl, O, E⟩ := hrel
      rename World => W
      have kW := k1.ext E
      by_cases hk32 : k < 32
      case neg =>
        obtain rfl : k = 32 := by omega
        have hkb : decide (((32 : Nat) : Int) < 32) = false := by simp
        obtain ⟨p, hp1, hp2, hp3⟩ := burst_first lb (by omega) true A z (flips (frameOf lb) (32 + A) (32 + 32) z 32) (changed (32 + A) (32 + 32) z 32) (by rfl) (by rfl)
        have hOl := O.leng
        generalize flips (frameOf lb) (32 + A) (32 + 32) z 32 = q at *
        generalize changed (32 + A) (32 + 32) z 32 = ch at *
        have Hp1 := Lib.hid hp1
        clear hp1
        go_wp2_with (go_at_call 36; refine (parts_any a2 (8 + m) c2 q 1 W O.bs (by omega) O.cap.2 (by omega)).mono ?_; rintro e w4 ⟨a4, c4, rows4, rfl, P4, hD4, E4⟩; rw [Hp1.out] at hD4; obtain ⟨r, rfl, hr⟩ := List.map_eq_singleton_iff.1 hD4; obtain ⟨g4, a5, n5, c5, rfl, e5, o5, d0, d1, d2, d3⟩ := P4.at 0 r rfl; simp only [Nat.zero_mul, Nat.zero_add, hr, hp2, hp3] at d0 d1 d2 d3; simp only [List.length_cons, List.length_nil, Nat.zero_add])
        all_goals
          go_wp2
          go_ret
          exact ⟨by cases ch <;> rfl, (E01.tr E).tr E4⟩
      have hkb : decide ((k : Int) < 32) = true := by simp; omega
      have m20 := kW.at_ (i := 0) rfl
      have m21 := kW.at_ (i := 1) rfl
      have m22 := kW.at_ (i := 2) rfl
      have q1 : (0 : Int) ≤ (k : Int) := by omega
      clear m20 m21 m22
      have m20 := kW.at_ (i := 0) rfl
      have m21 := kW.at_ (i := 1) rfl
      have m22 := kW.at_ (i := 2) rfl
      have hsb := shr_bit z k
      by_cases hno : (z.testBit k && decide (32 + A + k < 32 + 32)) = true
      case neg =>
        have hfl : flips (frameOf lb) (32 + A) (32 + 32) z (k + 1) = flips (frameOf lb) (32 + A) (32 + 32) z k := by
          conv => lhs; rw [flips]
          rw [if_neg hno]
        have hch : changed (32 + A) (32 + 32) z (k + 1) = changed (32 + A) (32 + 32) z k := by
          conv => lhs; rw [changed]
          have : (z.testBit k && decide (32 + A + k < 32 + 32)) = false := by simpa using hno
          rw [this, Bool.or_false]
        have Hfl := Lib.hid hfl
        have Hch := Lib.hid hch
        clear hfl hch
        cases htb : z.testBit k with
        | false =>
          rw [htb] at hsb
          have hsb2 : (((z : Int) / (2 : Int) ^ k).tmod 2 == 1) = false := by rw [hsb]; rfl
          clear htb hsb hno
          go_wp2
          go_roundw
          case rel => exact ⟨k + 1, by omega, by go_num, by rw [Hch.out], by rw [Hfl.out]; exact O, E⟩
          case measure => simp [intOf]; omega
        | true =>
          rw [htb] at hsb hno
          have hsb2 : (((z : Int) / (2 : Int) ^ k).tmod 2 == 1) = true := by rw [hsb]; rfl
          have hlt2 : decide ((A : Int) + (k : Int) < (32 : Int)) = false := by
            simp only [Bool.true_and, decide_eq_true_eq] at hno
            simp; omega
          clear htb hsb hno
          go_wp2
          go_roundw
          case rel => exact ⟨k + 1, by omega, by go_num, by rw [Hch.out], by rw [Hfl.out]; exact O, E⟩
          case measure => simp [intOf]; omega
      have hfl : flips (frameOf lb) (32 + A) (32 + 32) z (k + 1) = flipBit (flips (frameOf lb) (32 + A) (32 + 32) z k) (32 + A + k) := by
        conv => lhs; rw [flips]
        rw [if_pos hno]
      have hch : changed (32 + A) (32 + 32) z (k + 1) = true := by
        rw [changed, hno, Bool.or_true]
      have Hfl := Lib.hid hfl
      have Hch := Lib.hid hch
      clear hfl hch
      rw [Bool.and_eq_true, decide_eq_true_eq] at hno
      obtain ⟨htb, hlt⟩ := hno
      rw [htb] at hsb
      have hsb2 : (((z : Int) / (2 : Int) ^ k).tmod 2 == 1) = true := by rw [hsb]; rfl
      have hlt2 : decide ((A : Int) + (k : Int) < (32 : Int)) = true := by simp; omega
      clear htb hsb
      go_wp2_with fail
      obtain ⟨q8, hq8⟩ : ∃ q8, q8 = (32 + A + k) / 8 := ⟨_, rfl⟩
      obtain ⟨r8, hr8⟩ : ∃ r8, r8 = (32 + A + k) % 8 := ⟨_, rfl⟩
      have hql : q8 < 8 + m := by have := hlt; omega
      have hW : IntKind.i64.wrap ((32 : Int) + ((A : Int) + (k : Int))) = (32 : Int) + ((A : Int) + (k : Int)) := IntWalk.i64_in _ (by omega)
      have hQ : ((32 : Int) + ((A : Int) + (k : Int))).tdiv 8 = (q8 : Int) := by rw [Int.tdiv_eq_ediv_of_nonneg (by omega)]; omega
      have hR : ((32 : Int) + ((A : Int) + (k : Int))).tmod 8 = (r8 : Int) := by rw [Int.tmod_eq_emod_of_nonneg (by omega)]; omega
      have hQw : IntKind.i64.wrap (q8 : Int) = (q8 : Int) := IntWalk.i64_in _ (by omega)
      have hRw : IntKind.i64.wrap (r8 : Int) = (r8 : Int) := IntWalk.i64_in _ (by omega)
      have hqi : (q8 : Int) < 8 + (m : Int) := by omega
      have hqi0 : (0 : Int) ≤ (q8 : Int) := by omega
      have hri0 : (0 : Int) ≤ (r8 : Int) := by omega
      have hr7 : r8 ≤ 7 := by omega
      have Hq8 := Lib.hid hq8
      have Hr8 := Lib.hid hr8
      clear hq8 hr8
      have hOd := O.drew
      obtain ⟨g2, o2, rfl, hcells⟩ := O.bs.at (by omega)
      have hcell := hcells q8 hql
      have hOl := O.leng
      have hg2 : o2 = 0 := by
        rcases O.form with ⟨e, _⟩ | ⟨g', cur, e, _⟩
        · cases e
        · simp only [Option.some.injEq, Addr.mk.injEq, and_true] at e
          exact e.2
      subst hg2
      rw [Nat.zero_add] at hcell
      have hfz := Ow.froz O q8
      refine rt_start (by kernel_rfl) ?_
      refine rt_take (i := 0) (d := (some 63)) (v := ?_) rfl rfl (by kernel_rfl) (by kernel_rfl) (by kernel_rfl) (fun _ _ _ h => h) (by rfl) ?_ ?_
      rotate_left
      · (intro w'; go_simp) <;> with_reducible rfl
      simp only [Act.put, List.setIfInBounds_toArray, List.set_cons_zero, List.set_cons_succ]
      refine rt_take (i := 1) (d := (some 64)) (v := ?_) rfl rfl (by kernel_rfl) (by kernel_rfl) (by kernel_rfl) (fun _ _ _ h => h) (by rfl) ?_ ?_
      rotate_left
      · (intro w'; go_simp) <;> with_reducible rfl
      simp only [Act.put, List.setIfInBounds_toArray, List.set_cons_zero, List.set_cons_succ]
      refine rt_take (i := 2) (d := (some 65)) (v := ?_) rfl rfl (by kernel_rfl) (by kernel_rfl) (by kernel_rfl) (fun _ _ _ h => h) (by rfl) ?_ ?_
      rotate_left
      · (intro w'; go_simp) <;> with_reducible rfl
      simp only [Act.put, List.setIfInBounds_toArray, List.set_cons_zero, List.set_cons_succ]
      refine rt_take (i := 3) (d := (some 66)) (v := ?_) rfl rfl (by kernel_rfl) (by kernel_rfl) (by kernel_rfl) (fun _ _ _ h => h) (by rfl) ?_ ?_
      rotate_left
      · (intro w'; go_simp) <;> with_reducible rfl
      simp only [Act.put, List.setIfInBounds_toArray, List.set_cons_zero, List.set_cons_succ]
      refine rt_take (i := 4) (d := (some 67)) (v := ?_) rfl rfl (by kernel_rfl) (by kernel_rfl) (by kernel_rfl) (fun _ _ _ h => h) (by rfl) ?_ ?_
      rotate_left
      · (intro w'; go_simp) <;> with_reducible rfl
      simp only [Act.put, List.setIfInBounds_toArray, List.set_cons_zero, List.set_cons_succ]
      refine rt_take (i := 5) (d := (some 68)) (v := ?_) rfl rfl (by kernel_rfl) (by kernel_rfl) (by kernel_rfl) (fun _ _ _ h => h) (by rfl) ?_ ?_
      rotate_left
      · (intro w'; go_simp) <;> with_reducible rfl
      simp only [Act.put, List.setIfInBounds_toArray, List.set_cons_zero, List.set_cons_succ]
      refine rt_take (i := 7) (d := (some 70)) (v := ?_) rfl rfl (by kernel_rfl) (by kernel_rfl) (by kernel_rfl) (fun _ _ _ h => h) (by rfl) ?_ ?_
      rotate_left
      · (intro w'; go_simp) <;> with_reducible rfl
      simp only [Act.put, List.setIfInBounds_toArray, List.set_cons_zero, List.set_cons_succ]
      refine rt_take (i := 8) (d := (some 71)) (v := ?_) rfl rfl (by kernel_rfl) (by kernel_rfl) (by kernel_rfl) (fun _ _ _ h => h) (by rfl) ?_ ?_
      rotate_left
      · (intro w'; go_simp) <;> with_reducible rfl
      simp only [Act.put, List.setIfInBounds_toArray, List.set_cons_zero, List.set_cons_succ]
      refine rt_take (i := 9) (d := (some 72)) (v := ?_) rfl rfl (by kernel_rfl) (by kernel_rfl) (by kernel_rfl) (fun _ _ _ h => h) (by rfl) ?_ ?_
      rotate_left
      · (intro w'; go_simp) <;> with_reducible rfl
      simp only [Act.put, List.setIfInBounds_toArray, List.set_cons_zero, List.set_cons_succ]
      refine rt_take (i := 10) (d := (some 73)) (v := ?_) rfl rfl (by kernel_rfl) (by kernel_rfl) (by kernel_rfl) (fun _ _ _ h => h) (by rfl) ?_ ?_
      rotate_left
      · (intro w'; go_simp) <;> with_reducible rfl
      simp only [Act.put, List.setIfInBounds_toArray, List.set_cons_zero, List.set_cons_succ]
      refine rt_take (i := 11) (d := (some 74)) (v := ?_) rfl rfl (by kernel_rfl) (by kernel_rfl) (by kernel_rfl) (fun _ _ _ h => h) (by rfl) ?_ ?_
      rotate_left
      · (intro w'; go_simp) <;> with_reducible rfl
      simp only [Act.put, List.setIfInBounds_toArray, List.set_cons_zero, List.set_cons_succ]
      refine rt_one (i := 6) rfl (by kernel_rfl) (by rfl) (fun K hK => ?_)
      go_simp
      refine hK.out _ _ ?_
      clear hK K
      try simp only [Act.put, List.setIfInBounds_toArray, List.set_cons_zero, List.set_cons_succ]
      refine rt_take (i := 12) (d := (some 75)) (v := ?_) rfl rfl (by kernel_rfl) (by kernel_rfl) (by kernel_rfl) (fun _ _ _ h => h) (by rfl) ?_ ?_
      rotate_left
      · (intro w'; go_simp) <;> with_reducible rfl
      simp only [Act.put, List.setIfInBounds_toArray, List.set_cons_zero, List.set_cons_succ]
      refine rt_take (i := 13) (d := (some 76)) (v := ?_) rfl rfl (by kernel_rfl) (by kernel_rfl) (by kernel_rfl) (fun _ _ _ h => h) (by rfl) ?_ ?_
      rotate_left
      · (intro w'; go_simp) <;> with_reducible rfl
      simp only [Act.put, List.setIfInBounds_toArray, List.set_cons_zero, List.set_cons_succ]
      refine rt_one (i := 14) rfl (by kernel_rfl) (by rfl) (fun K hK => ?_)
      go_simp
      refine hK.out _ _ ?_
      clear hK K
      try simp only [Act.put, List.setIfInBounds_toArray, List.set_cons_zero, List.set_cons_succ]
      refine rt_done (by kernel_rfl) ?_
      go_wp2_with fail
      have hX := xor_pow (flips (frameOf lb) (32 + A) (32 + 32) z k) q8 r8
      rw [hX]
      have hlt3 : w1.heap.size ≤ g2 := (O.lt rfl).1
      have O9 := O.setAt q8 hql (((flips (frameOf lb) (32 + A) (32 + 32) z k)[q8]?.getD 0) ^^^ UInt8.ofNat (2 ^ r8)) _ rfl
      refine ⟨⟨k + 1, by omega, by go_num, by rw [Hch.out], ?_, (E.st hlt3 _ _).dr⟩, by simp [intOf]; omega⟩
      rw [Hfl.out]
      unfold flipBit
      rw [← Hq8.out, ← Hr8.out]
      exact O9
theorem bursts_any (a : Option Addr) (n c : Nat) (l : List UInt8) (s : Bool) (x z : Nat) (w : World) (hb : Bs w a n l) (hn : n ≤ 140737488351232) (hnc : n ≤ c) (hz : a = none → c = 0) (hx : x ≤ 65535) (hzz : z ≤ 4294967295) :
    Calls Try.prog 11 #[.slice a n c, .agg #[.bool s, .int .u16 (x : Int), .int .u32 (z : Int)]] w (fun e w' => e = .returned (.bool true) ∧ Ext w w') := by
  cases s with
  | true => exact bursts_true a n c l x z w hb hn hnc hz hx hzz
  | false => exact bursts_false a n c l x z w hb hn hnc hz hx hzz
end Go.Proofs.Ytknllmcpogoeoaa
