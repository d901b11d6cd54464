/- Layer 1 walked: readers. -/
import Derived.Test.YtknllmcpogoeoaaN3
namespace Go.Proofs.Ytknllmcpogoeoaa
open Go.RowKit
set_option linter.unusedVariables false
set_option linter.unusedSimpArgs false
/-- the reader at block g, whose bytes lie in block h: what is left, and its error -/
def Rd (w : World) (g h : Nat) (l : List UInt8) (e : Nat) : Prop :=
  h ≠ g ∧ ∃ (a : Option Addr) (n c : Nat), Blk w g 203 [.slice a n c, .int .i64 (e : Int)] ∧ Bs w a n l ∧ n ≤ c ∧ (a = none → c = 0) ∧ (∀ b off, a = some ⟨b, off, none⟩ → b = h) ∧ n ≤ 140737488351232 ∧ (∀ b, a = some b → b.spot = none)
theorem Rd.frm {s : List Nat} {w w' : World} {g h : Nat} {l : List UInt8} {e : Nat} (r : Rd w g h l e) (k : Frm s w w') (hg : g ∉ s) (hh : h ∉ s) : Rd w' g h l e := by
  obtain ⟨hne, a, n, c, B, S, h1, h2, h3, h4, h5⟩ := r
  exact ⟨hne, a, n, c, B.frm k hg, S.frm k (fun b off e => by rw [h3 b off e]; exact hh), h1, h2, h3, h4, h5⟩
theorem Rd.ext {w w' : World} {g h : Nat} {l : List UInt8} {e : Nat} (r : Rd w g h l e) (k : Ext w w') : Rd w' g h l e := r.frm (k.frm (s := [])) (by simp) (by simp)
theorem Rd.len {w : World} {g h : Nat} {l : List UInt8} {e : Nat} (r : Rd w g h l e) : l.length ≤ 140737488351232 := by
  obtain ⟨hne, a, n, c, B, S, h1, h2, h3, h4, h5⟩ := r
  rw [S.leng]; exact h4
/-- NewReader -/
def NewRd (l : List UInt8) (w : World) (e : Ending) (w' : World) : Prop := ∃ g h, e = .returned (.pointer (some ⟨g, 0, none⟩)) ∧ Rd w' g h l 0 ∧ w.heap.size ≤ g ∧ w.heap.size ≤ h ∧ Ext w w'
set_option maxRecDepth 100000 in
set_option maxHeartbeats 800000 in
theorem newReader_any (a : Option Addr) (n c : Nat) (l : List UInt8) (w : World) (hb : Bs w a n l) (hz : a = none → c = 0) (hn : n ≤ 140737488351232) :
    Calls Try.prog 77 #[.slice a n c] w (NewRd l w) := by
  have Z := Ow.zero w w.heap.size rfl w.heap.size (Nat.le_refl _)
  have E0 := (Ext.refl w).al (.cells #[] 5)
  go_enter Try.func77, Try.ntmps77
  go_wp2_with (at_builtin; refine wp_app (s := .tmp 3) (x := .tmp 4) w.heap.size n l rfl rfl Z (E0.bs hb) hz (by omega) rfl (by omega) (by simp) ?_; intro a1 c1 w1 O1 G1; have E1 := E0.app Z (Nat.le_refl _) G1)
  go_ret
  have hs1 : w.heap.size + 1 ≤ w1.heap.size := by have := G1.size; simpa using this
  have hE2 := E1.al (.cells #[.slice a1 n c1, .int .i64 0] 203)
  have hB := Blk.new w1 203 [.slice a1 n c1, .int .i64 0]
  have O2 := (Ext.refl w1).al (.cells #[.slice a1 n c1, .int .i64 0] 203) |>.bs O1.bs
  rcases O1.form with ⟨rfl, rfl, rfl, rfl⟩ | ⟨g', cur, rfl, hg, hh, hnc, hm, hs, ht⟩
  · exact ⟨w1.heap.size, w.heap.size, rfl, ⟨by omega, none, 0, 0, hB, O2, Nat.le_refl _, fun _ => rfl, (fun b off e => by cases e), by omega, (fun b e => by cases e)⟩, by omega, Nat.le_refl _, hE2⟩
  · have hlt := (O1.lt rfl).2
    exact ⟨w1.heap.size, g', rfl, ⟨by omega, some ⟨g', 0, none⟩, n, c1, hB, O2, hnc, (fun e => by cases e), (fun b off e => by simp only [Option.some.injEq, Addr.mk.injEq] at e; exact e.1.symm), by omega, (fun b e => by cases e; rfl)⟩, by omega, by omega, hE2⟩
set_option maxHeartbeats 800000 in
theorem ropen_any (g h : Nat) (l : List UInt8) (er : Nat) (w : World) (R : Rd w g h l er) :
    Calls Try.prog 123 #[.pointer (some ⟨g, 0, none⟩)] w (fun e w' => e = .returned (.bool (er == 0)) ∧ w = w') := by
  obtain ⟨hne, a, n, c, B, S, h1, h2, h3, h4, h5⟩ := R
  have m1 := B.at_ (i := 1) rfl
  go_enter Try.func123, Try.ntmps123
  go_wp2
  go_ret
  exact ⟨by cases er <;> simp <;> omega, rfl⟩
def TakePost (l : List UInt8) (g h k er : Nat) (w : World) (e : Ending) (w' : World) : Prop :=
  e = .returned (.bool (er == 0)) ∧ Rd w' g h (if er = 0 then l.drop k else l) er ∧ Frm [g] w w'
set_option maxRecDepth 100000 in
set_option maxHeartbeats 800000 in
theorem rtake_any (g qb : Nat) (l : List UInt8) (k er : Nat) (w : World) (R : Rd w g qb l 0) (hk : er = 0 → k ≤ l.length) :
    Calls Try.prog 124 #[.pointer (some ⟨g, 0, none⟩), .int .i64 (k : Int), .int .i64 (er : Int)] w (TakePost l g qb k er w) := by
  obtain ⟨hne, a, n, c, B, S, h1, h2, h3, h4, h5⟩ := R
  have m0 := B.at_ (i := 0) rfl
  have m1 := B.at_ (i := 1) rfl
  have f0 := B.frozen 0
  have f1 := B.frozen 1
  have hl := S.leng
  by_cases he : er = 0
  · subst he
    have hk := hk rfl
    have q1 : (k : Int) ≤ (n : Int) := by omega
    have q2 : (0 : Int) ≤ (k : Int) := by omega
    have q3 : (n : Int) ≤ (c : Int) := by omega
    have hsub := S.cutAt k n c (by omega) (Nat.le_refl _) h1
    rw [List.take_of_length_le (by rw [List.length_drop]; omega)] at hsub
    have Hh := Lib.hid h3
    have H5 := Lib.hid h5
    clear h3 h5 hl
    go_enter Try.func124, Try.ntmps124
    go_wp2
    all_goals
      go_ret
      refine ⟨rfl, ?_, (Frm.refl [g] w).st g 0 _ (.inl (by simp))⟩
      rw [if_pos rfl]
      have hx : ∀ b off, Option.map (fun x : Addr => x.add k) a = some ⟨b, off, none⟩ → b = qb := by
        intro b off e
        cases a with
        | none => cases e
        | some ad =>
          obtain ⟨b0, o0, sp⟩ := ad
          have := H5.out _ rfl
          subst this
          simp only [Option.map_some, Option.some.injEq, Addr.add_lit, Addr.mk.injEq] at e
          rw [← e.1]
          exact Hh.out b0 o0 rfl
      have hy : ∀ b, Option.map (fun x : Addr => x.add k) a = some b → b.spot = none := by
        intro b e
        cases a with
        | none => cases e
        | some ad =>
          obtain ⟨b0, o0, sp⟩ := ad
          have := H5.out _ rfl
          subst this
          simp only [Option.map_some, Option.some.injEq, Addr.add_lit] at e
          rw [← e]
      by_cases hck : c = k
      · first
          | contradiction
          | (rw [if_pos hck] at hsub
             exact ⟨hne, a, n - k, 0, B.set_ 0 _, hsub.st g 0 _ (fun b off e => by rw [Hh.out b off e]; exact hne), by omega, (fun _ => rfl), Hh.out, by omega, H5.out⟩)
          | (subst hck
             rw [if_pos rfl] at hsub
             exact ⟨hne, a, n - c, 0, B.set_ 0 _, hsub.st g 0 _ (fun b off e => by rw [Hh.out b off e]; exact hne), by omega, (fun _ => rfl), Hh.out, by omega, H5.out⟩)
      · first
          | contradiction
          | (rw [if_neg hck] at hsub
             exact ⟨hne, Option.map (fun x => x.add k) a, n - k, c - k, B.set_ 0 _, hsub.st g 0 _ (fun b off e => by rw [hx b off e]; exact hne), by omega, (fun e => by rw [h2 (by simpa using e)]; omega), hx, by omega, hy⟩)
  · have q1 : ((er : Int) != 0) = true := by simp; omega
    go_enter Try.func124, Try.ntmps124
    go_wp2
    go_ret
    refine ⟨by have : (er == 0) = false := by simpa using he
               rw [this]; rfl, ?_, (Frm.refl [g] w).st g 1 _ (.inl (by simp))⟩
    rw [if_neg he]
    exact ⟨hne, a, n, c, B.set_ 1 _, S.st g 1 _ (fun b off e => by rw [h3 b off e]; exact hne), h1, h2, h3, h4, h5⟩
/-! What the methods of a reader come to. -/
structure RS where
  val : Int
  left : List UInt8
  err : Nat
def rsUint (l : List UInt8) (er most : Nat) : RS := if er ≠ 0 then ⟨0, l, er⟩ else match rdU l with
  | none => ⟨0, l, 6⟩
  | some (v, n) => if most < v then ⟨0, l, 2⟩ else ⟨v, l.drop n, 0⟩
def rsInt (l : List UInt8) (er : Nat) : RS := if er ≠ 0 then ⟨0, l, er⟩ else match rdU l with
  | none => ⟨0, l, 6⟩
  | some (v, n) => ⟨uz v, l.drop n, 0⟩
def rsSmall (l : List UInt8) (er : Nat) (low high : Int) : RS := if er ≠ 0 then ⟨0, l, er⟩ else match rdU l with
  | none => ⟨0, l, 6⟩
  | some (v, n) => if uz v < low ∨ high < uz v then ⟨0, l, 2⟩ else ⟨uz v, l.drop n, 0⟩
def rsByte (l : List UInt8) (er : Nat) : RS := if er ≠ 0 then ⟨0, l, er⟩ else match l with
  | [] => ⟨0, l, 6⟩
  | b :: r => ⟨b.toNat, r, 0⟩
def RsPost (r : RS) (k : IntKind) (g q : Nat) (w : World) (e : Ending) (w' : World) : Prop := e = .returned (.int k r.val) ∧ Rd w' g q r.left r.err ∧ Frm [g] w w'
theorem uvals {l : List UInt8} {v n : Nat} (hu : rdU l = some (v, n)) : uVal l = v ∧ uLen l = n ∧ uErr l = 0 := by
  unfold uVal uLen uErr; rw [hu]; exact ⟨rfl, rfl, rfl⟩
theorem uvals0 {l : List UInt8} (hu : rdU l = none) : uVal l = 0 ∧ uLen l = 0 ∧ uErr l = 6 := by
  unfold uVal uLen uErr; rw [hu]; exact ⟨rfl, rfl, rfl⟩
set_option maxRecDepth 100000 in
set_option maxHeartbeats 1600000 in
theorem rUint_any (g q : Nat) (l : List UInt8) (er most : Nat) (w : World) (R : Rd w g q l er) (hm : most < 18446744073709551616) :
    Calls Try.prog 78 #[.pointer (some ⟨g, 0, none⟩), .int .u64 (most : Int)] w (RsPost (rsUint l er most) .u64 g q w) := by
  by_cases he : er = 0
  case neg =>
    have hr : rsUint l er most = ⟨0, l, er⟩ := by unfold rsUint; rw [if_pos he]
    have q1 : (er == 0) = false := by simpa using he
    have Hr := Lib.hid hr
    clear hr
    go_enter Try.func78, Try.ntmps78
    go_wp2_with (go_at_call 123; refine (ropen_any g q l er w R).mono ?_; rintro e w1 ⟨rfl, rfl⟩; rw [q1])
    go_ret
    rw [Hr.out]
    exact ⟨rfl, R, Frm.refl _ _⟩
  subst he
  have R' := R
  obtain ⟨hne, a, n, c, B, S, h1, h2, h3, h4, h5⟩ := R'
  have m0 := B.at_ (i := 0) rfl
  have hl := S.leng
  clear h3 h5
  cases hu : rdU l with
  | none =>
    obtain ⟨ev, en, ee⟩ := uvals0 hu
    have hr : rsUint l 0 most = ⟨0, l, 6⟩ := by unfold rsUint; rw [if_neg (by simp), hu]
    have Hr := Lib.hid hr
    clear hr hu
    go_enter Try.func78, Try.ntmps78
    go_wp2_with (first
      | (go_at_call 123; refine (ropen_any g q l 0 w R).mono ?_; rintro e w1 ⟨rfl, rfl⟩)
      | (go_at_call 48; refine (uint_any a n c l _ S h4).mono ?_; rintro e w1 ⟨rfl, rfl⟩; rw [ev, en, ee])
      | (go_at_call 124; refine (rtake_any g q l 0 6 _ R (by omega)).mono ?_; rintro e w1 ⟨rfl, R1, F1⟩))
    go_ret
    rw [Hr.out]
    exact ⟨rfl, R1, F1⟩
  | some p =>
    obtain ⟨v, u⟩ := p
    obtain ⟨ev, en, ee⟩ := uvals hu
    have hform := rdU_form hu
    have hvlt : v < 18446744073709551616 := hform.2.2.2.1
    have hul : u ≤ l.length := by omega
    have hr : rsUint l 0 most = if most < v then ⟨0, l, 2⟩ else ⟨v, l.drop u, 0⟩ := by unfold rsUint; rw [if_neg (by simp), hu]
    clear hu hform
    by_cases hbig : most < v
    · rw [if_pos hbig] at hr
      have Hr := Lib.hid hr
      have q2 : decide ((most : Int) < (v : Int)) = true := by simp; omega
      clear hr
      go_enter Try.func78, Try.ntmps78
      go_wp2_with (first
        | (go_at_call 123; refine (ropen_any g q l 0 w R).mono ?_; rintro e w1 ⟨rfl, rfl⟩)
        | (go_at_call 48; refine (uint_any a n c l _ S h4).mono ?_; rintro e w1 ⟨rfl, rfl⟩; rw [ev, en, ee])
        | (go_at_call 124; refine (rtake_any g q l u 2 _ R (by omega)).mono ?_; rintro e w1 ⟨rfl, R1, F1⟩))
      go_ret
      rw [Hr.out]
      exact ⟨rfl, R1, F1⟩
    · rw [if_neg hbig] at hr
      have Hr := Lib.hid hr
      have q2 : decide ((most : Int) < (v : Int)) = false := by simp; omega
      clear hr
      go_enter Try.func78, Try.ntmps78
      go_wp2_with (first
        | (go_at_call 123; refine (ropen_any g q l 0 w R).mono ?_; rintro e w1 ⟨rfl, rfl⟩)
        | (go_at_call 48; refine (uint_any a n c l _ S h4).mono ?_; rintro e w1 ⟨rfl, rfl⟩; rw [ev, en, ee])
        | (go_at_call 124; refine (rtake_any g q l u 0 _ R (fun _ => hul)).mono ?_; rintro e w1 ⟨rfl, R1, F1⟩))
      go_ret
      rw [Hr.out]
      exact ⟨rfl, R1, F1⟩
set_option maxRecDepth 100000 in
set_option maxHeartbeats 1600000 in
theorem rInt_any (g q : Nat) (l : List UInt8) (er : Nat) (w : World) (R : Rd w g q l er) :
    Calls Try.prog 81 #[.pointer (some ⟨g, 0, none⟩)] w (RsPost (rsInt l er) .i64 g q w) := by
  by_cases he : er = 0
  case neg =>
    have hr : rsInt l er = ⟨0, l, er⟩ := by unfold rsInt; rw [if_pos he]
    have q1 : (er == 0) = false := by simpa using he
    have Hr := Lib.hid hr
    clear hr
    go_enter Try.func81, Try.ntmps81
    go_wp2_with (go_at_call 123; refine (ropen_any g q l er w R).mono ?_; rintro e w1 ⟨rfl, rfl⟩; rw [q1])
    go_ret
    rw [Hr.out]
    exact ⟨rfl, R, Frm.refl _ _⟩
  subst he
  have R' := R
  obtain ⟨hne, a, n, c, B, S, h1, h2, h3, h4, h5⟩ := R'
  have m0 := B.at_ (i := 0) rfl
  have hl := S.leng
  clear h3 h5
  cases hu : rdU l with
  | none =>
    obtain ⟨ev, en, ee⟩ := uvals0 hu
    have hr : rsInt l 0 = ⟨0, l, 6⟩ := by unfold rsInt; rw [if_neg (by simp), hu]
    have Hr := Lib.hid hr
    clear hr hu
    go_enter Try.func81, Try.ntmps81
    go_wp2_with (first
      | (go_at_call 123; refine (ropen_any g q l 0 w R).mono ?_; rintro e w1 ⟨rfl, rfl⟩)
      | (go_at_call 63; refine (int_any a n c l _ S h4).mono ?_; rintro e w1 ⟨rfl, rfl⟩; rw [ev, en, ee])
      | (go_at_call 124; refine (rtake_any g q l 0 6 _ R (by omega)).mono ?_; rintro e w1 ⟨rfl, R1, F1⟩))
    go_ret
    rw [Hr.out]
    exact ⟨rfl, R1, F1⟩
  | some p =>
    obtain ⟨v, u⟩ := p
    obtain ⟨ev, en, ee⟩ := uvals hu
    have hform := rdU_form hu
    have hvlt : v < 18446744073709551616 := hform.2.2.2.1
    have hul : u ≤ l.length := by omega
    have hr : rsInt l 0 = ⟨uz v, l.drop u, 0⟩ := by unfold rsInt; rw [if_neg (by simp), hu]
    clear hu hform
    have Hr := Lib.hid hr
    clear hr
    go_enter Try.func81, Try.ntmps81
    go_wp2_with (first
      | (go_at_call 123; refine (ropen_any g q l 0 w R).mono ?_; rintro e w1 ⟨rfl, rfl⟩)
      | (go_at_call 63; refine (int_any a n c l _ S h4).mono ?_; rintro e w1 ⟨rfl, rfl⟩; rw [ev, en, ee])
      | (go_at_call 124; refine (rtake_any g q l u 0 _ R (fun _ => hul)).mono ?_; rintro e w1 ⟨rfl, R1, F1⟩))
    go_ret
    rw [Hr.out]
    exact ⟨rfl, R1, F1⟩
set_option maxRecDepth 100000 in
set_option maxHeartbeats 1600000 in
theorem rSmall_any (g q : Nat) (l : List UInt8) (er : Nat) (low high : Int) (w : World) (R : Rd w g q l er) :
    Calls Try.prog 83 #[.pointer (some ⟨g, 0, none⟩), .int .i64 low, .int .i64 high] w (RsPost (rsSmall l er low high) .i64 g q w) := by
  by_cases he : er = 0
  case neg =>
    have hr : rsSmall l er low high = ⟨0, l, er⟩ := by unfold rsSmall; rw [if_pos he]
    have q1 : (er == 0) = false := by simpa using he
    have Hr := Lib.hid hr
    clear hr
    go_enter Try.func83, Try.ntmps83
    go_wp2_with (go_at_call 123; refine (ropen_any g q l er w R).mono ?_; rintro e w1 ⟨rfl, rfl⟩; rw [q1])
    go_ret
    rw [Hr.out]
    exact ⟨rfl, R, Frm.refl _ _⟩
  subst he
  have R' := R
  obtain ⟨hne, a, n, c, B, S, h1, h2, h3, h4, h5⟩ := R'
  have m0 := B.at_ (i := 0) rfl
  have hl := S.leng
  clear h3 h5
  cases hu : rdU l with
  | none =>
    obtain ⟨ev, en, ee⟩ := uvals0 hu
    have hr : rsSmall l 0 low high = ⟨0, l, 6⟩ := by unfold rsSmall; rw [if_neg (by simp), hu]
    have Hr := Lib.hid hr
    clear hr hu
    go_enter Try.func83, Try.ntmps83
    go_wp2_with (first
      | (go_at_call 123; refine (ropen_any g q l 0 w R).mono ?_; rintro e w1 ⟨rfl, rfl⟩)
      | (go_at_call 63; refine (int_any a n c l _ S h4).mono ?_; rintro e w1 ⟨rfl, rfl⟩; rw [ev, en, ee])
      | (go_at_call 124; refine (rtake_any g q l 0 6 _ R (by omega)).mono ?_; rintro e w1 ⟨rfl, R1, F1⟩))
    go_ret
    rw [Hr.out]
    exact ⟨rfl, R1, F1⟩
  | some p =>
    obtain ⟨v, u⟩ := p
    obtain ⟨ev, en, ee⟩ := uvals hu
    have hform := rdU_form hu
    have hvlt : v < 18446744073709551616 := hform.2.2.2.1
    have hul : u ≤ l.length := by omega
    have hr : rsSmall l 0 low high = if uz v < low ∨ high < uz v then ⟨0, l, 2⟩ else ⟨uz v, l.drop u, 0⟩ := by unfold rsSmall; rw [if_neg (by simp), hu]
    clear hu hform
    by_cases hbig : uz v < low ∨ high < uz v
    · rw [if_pos hbig] at hr
      have Hr := Lib.hid hr
      clear hr
      have q2 : decide (uz v < low) = true ∨ (decide (uz v < low) = false ∧ decide (high < uz v) = true) := by
        by_cases h : uz v < low
        · left; simpa using h
        · right; simp; omega
      clear hbig
      rcases q2 with q2 | ⟨q2, q3⟩
      all_goals
        go_enter Try.func83, Try.ntmps83
        go_wp2_with (first
          | (go_at_call 123; refine (ropen_any g q l 0 w R).mono ?_; rintro e w1 ⟨rfl, rfl⟩)
          | (go_at_call 63; refine (int_any a n c l _ S h4).mono ?_; rintro e w1 ⟨rfl, rfl⟩; rw [ev, en, ee])
          | (go_at_call 124; refine (rtake_any g q l u 2 _ R (by omega)).mono ?_; rintro e w1 ⟨rfl, R1, F1⟩))
        go_ret
        rw [Hr.out]
        exact ⟨rfl, R1, F1⟩
    · rw [if_neg hbig] at hr
      have Hr := Lib.hid hr
      have q2 : decide (uz v < low) = false := by simp; omega
      have q3 : decide (high < uz v) = false := by simp; omega
      clear hr
      go_enter Try.func83, Try.ntmps83
      go_wp2_with (first
        | (go_at_call 123; refine (ropen_any g q l 0 w R).mono ?_; rintro e w1 ⟨rfl, rfl⟩)
        | (go_at_call 63; refine (int_any a n c l _ S h4).mono ?_; rintro e w1 ⟨rfl, rfl⟩; rw [ev, en, ee])
        | (go_at_call 124; refine (rtake_any g q l u 0 _ R (fun _ => hul)).mono ?_; rintro e w1 ⟨rfl, R1, F1⟩))
      go_ret
      rw [Hr.out]
      exact ⟨rfl, R1, F1⟩
/-- the reader's next byte string -/
structure RSB where
  body : List UInt8
  left : List UInt8
  err : Nat
def rsBytes (l : List UInt8) (er : Nat) (most : Int) : RSB := if er ≠ 0 then ⟨[], l, er⟩ else
  if (rdB l most).err = 0 then ⟨(rdB l most).body, l.drop (rdB l most).used, 0⟩ else ⟨[], l, (rdB l most).err⟩
def RbPost (r : RSB) (g q : Nat) (w : World) (e : Ending) (w' : World) : Prop :=
  ∃ a c, e = .returned (.slice a r.body.length c) ∧ Ow w' w.heap.size a r.body.length c r.body ∧ Rd w' g q r.left r.err ∧ Frm [g] w w'
theorem rdB_bad (l : List UInt8) (most : Int) (h : (rdB l most).err ≠ 0) : (rdB l most).body = [] ∧ (rdB l most).used = 0 := by
  unfold rdB at *
  split
  · exact ⟨rfl, rfl⟩
  · rename_i hm
    rw [if_neg hm] at h
    cases hu : rdU l with
    | none => exact ⟨rfl, rfl⟩
    | some p =>
      obtain ⟨v, n⟩ := p
      rw [hu] at h
      dsimp only at h ⊢
      split
      · exact ⟨rfl, rfl⟩
      · rename_i h1
        rw [if_neg h1] at h
        split
        · exact ⟨rfl, rfl⟩
        · rename_i h2
          rw [if_neg h2] at h
          exact absurd rfl h
theorem rdB_used (l : List UInt8) (most : Int) : (rdB l most).used ≤ l.length := by
  unfold rdB
  split
  · simp
  · cases hu : rdU l with
    | none => simp
    | some p =>
      obtain ⟨v, n⟩ := p
      have := rdU_form hu
      dsimp only
      split
      · simp
      · split
        · simp
        · dsimp only; omega
set_option maxRecDepth 100000 in
set_option maxHeartbeats 1600000 in
theorem rBytes_any (g q : Nat) (l : List UInt8) (er : Nat) (most : Int) (w : World) (R : Rd w g q l er) (hm1 : -9223372036854775808 ≤ most) (hm2 : most ≤ 9223372036854775807) :
    Calls Try.prog 79 #[.pointer (some ⟨g, 0, none⟩), .int .i64 most] w (RbPost (rsBytes l er most) g q w) := by
  by_cases he : er = 0
  case neg =>
    have hr : rsBytes l er most = ⟨[], l, er⟩ := by unfold rsBytes; rw [if_pos he]
    have q1 : (er == 0) = false := by simpa using he
    have Hr := Lib.hid hr
    clear hr
    go_enter Try.func79, Try.ntmps79
    go_wp2_with (go_at_call 123; refine (ropen_any g q l er w R).mono ?_; rintro e w1 ⟨rfl, rfl⟩; rw [q1])
    go_ret
    rw [Hr.out]
    exact ⟨none, 0, rfl, World.ownsRow_nil _ _ _ _, R, Frm.refl _ _⟩
  subst he
  have R' := R
  obtain ⟨hne, a, n, c, B, S, h1, h2, h3, h4, h5⟩ := R'
  have m0 := B.at_ (i := 0) rfl
  clear h3 h5
  have hus := rdB_used l most
  by_cases hb : (rdB l most).err = 0
  · have hr : rsBytes l 0 most = ⟨(rdB l most).body, l.drop (rdB l most).used, 0⟩ := by unfold rsBytes; rw [if_neg (by simp), if_pos hb]
    have Hr := Lib.hid hr
    have Hb := Lib.hid hb
    clear hr hb
    generalize hrr : rdB l most = rr at *
    have Hrr := Lib.hid hrr
    clear hrr
    go_enter Try.func79, Try.ntmps79
    go_wp2_with (first
      | (go_at_call 123; refine (ropen_any g q l 0 w R).mono ?_; rintro e w1 ⟨rfl, rfl⟩)
      | (go_at_call 74; refine (bytes_any a n c l most _ S h4 h1 h2 hm1 hm2).mono ?_; rw [Hrr.out]; rintro e w2 ⟨a2, c2, rfl, O2, E2⟩; rw [Hb.out]; have R2 := R.ext E2)
      | (go_at_call 124; refine (rtake_any g q l rr.used 0 _ R2 (fun _ => hus)).mono ?_; rintro e w3 ⟨rfl, R3, F3⟩))
    go_ret
    rw [Hr.out]
    have hg := B.lt
    refine ⟨a2, c2, rfl, O2.frm F3 (fun b off e => ?_), R3, (E2.frm).tr F3⟩
    have := (O2.lt e).1
    simp only [List.mem_singleton]
    omega
  · have hr : rsBytes l 0 most = ⟨[], l, (rdB l most).err⟩ := by unfold rsBytes; rw [if_neg (by simp), if_neg hb]
    have Hr := Lib.hid hr
    have hbad := rdB_bad l most hb
    have q1 : ((rdB l most).err == 0) = false := by simpa using hb
    have Hb := Lib.hid hb
    have Hbad := Lib.hid hbad
    clear hr hb hbad
    generalize hrr : rdB l most = rr at *
    have Hrr := Lib.hid hrr
    clear hrr
    go_enter Try.func79, Try.ntmps79
    go_wp2_with (first
      | (go_at_call 123; refine (ropen_any g q l 0 w R).mono ?_; rintro e w1 ⟨rfl, rfl⟩)
      | (go_at_call 74; refine (bytes_any a n c l most _ S h4 h1 h2 hm1 hm2).mono ?_; rw [Hrr.out]; rintro e w2 ⟨a2, c2, rfl, O2, E2⟩; have R2 := R.ext E2)
      | (go_at_call 124; refine (rtake_any g q l rr.used rr.err _ R2 (fun _ => hus)).mono ?_; rintro e w3 ⟨rfl, R3, F3⟩; rw [q1]))
    go_ret
    rw [Hr.out]
    rw [if_neg Hb.out] at R3
    exact ⟨none, 0, rfl, World.ownsRow_nil _ _ _ _, R3, (E2.frm).tr F3⟩
set_option maxRecDepth 100000 in
set_option maxHeartbeats 1600000 in
theorem rByte_any (g q : Nat) (l : List UInt8) (er : Nat) (w : World) (R : Rd w g q l er) :
    Calls Try.prog 84 #[.pointer (some ⟨g, 0, none⟩)] w (RsPost (rsByte l er) .u8 g q w) := by
  by_cases he : er = 0
  case neg =>
    have hr : rsByte l er = ⟨0, l, er⟩ := by unfold rsByte; rw [if_pos he]
    have q1 : (er == 0) = false := by simpa using he
    have Hr := Lib.hid hr
    clear hr
    go_enter Try.func84, Try.ntmps84
    go_wp2_with (go_at_call 123; refine (ropen_any g q l er w R).mono ?_; rintro e w1 ⟨rfl, rfl⟩; rw [q1])
    go_ret
    rw [Hr.out]
    exact ⟨rfl, R, Frm.refl _ _⟩
  subst he
  have R' := R
  obtain ⟨hne, a, n, c, B, S, h1, h2, h3, h4, h5⟩ := R'
  have m0 := B.at_ (i := 0) rfl
  have m1 := B.at_ (i := 1) rfl
  have f0 := B.frozen 0
  have f1 := B.frozen 1
  have hl := S.leng
  cases l with
  | nil =>
    have hn : n = 0 := by simpa using hl.symm
    subst hn
    have H3 := Lib.hid h3
    have H5 := Lib.hid h5
    clear h3 h5 hl
    go_enter Try.func84, Try.ntmps84
    go_wp2_with (go_at_call 123; refine (ropen_any g q [] 0 w R).mono ?_; rintro e w1 ⟨rfl, rfl⟩)
    go_ret
    exact ⟨rfl, ⟨hne, a, 0, c, B.set_ 1 _, S.st g 1 _ (fun b off e => by rw [H3.out b off e]; exact hne), h1, h2, H3.out, h4, H5.out⟩, (Frm.refl [g] w).st g 1 _ (.inl (by simp))⟩
  | cons x r =>
    simp only [List.length_cons] at hl
    have hn0 : ((n : Int) == 0) = false := by simp; omega
    obtain ⟨b0, o0, rfl, hc0⟩ := S.cell 0 (by omega)
    rw [Nat.add_zero] at hc0
    have hx0 : nb (x :: r) 0 = (x.toNat : Int) := rfl
    rw [hx0] at hc0
    have q2 : (1 : Int) ≤ (n : Int) := by omega
    have q3 : (n : Int) ≤ (c : Int) := by omega
    have q4 : (0 : Int) < (n : Int) := by omega
    have hxl := x.toNat_lt
    have hq := h3 b0 o0 rfl
    subst hq
    have hsub := S.cutAt 1 n c (by omega) (Nat.le_refl _) h1
    rw [List.drop_succ_cons, List.drop_zero, List.take_of_length_le (by omega)] at hsub
    have hneq : (⟨g, 0, none⟩ : Addr) ≠ ⟨b0, o0, none⟩ := fun e => hne (by simp only [Addr.mk.injEq] at e; exact e.1.symm)
    have Hl := Lib.hid hl
    clear h3 h5 hl
    go_enter Try.func84, Try.ntmps84
    go_wp2_with (go_at_call 123; refine (ropen_any g b0 (x :: r) 0 w R).mono ?_; rintro e w1 ⟨rfl, rfl⟩)
    all_goals
      go_ret
      refine ⟨rfl, ?_, (Frm.refl [g] _).st g 0 _ (.inl (by simp))⟩
      by_cases hck : c = 1
      · first
          | contradiction
          | (rw [if_pos hck] at hsub
             exact ⟨hne, some ⟨b0, o0, none⟩, n - 1, 0, B.set_ 0 _, hsub.st g 0 _ (fun b off e => by simp only [Option.some.injEq, Addr.mk.injEq] at e; rw [← e.1]; exact hne), by omega, (fun e => by cases e), (fun b off e => by simp only [Option.some.injEq, Addr.mk.injEq] at e; exact e.1.symm), by omega, (fun b e => by cases e; rfl)⟩)
          | (subst hck
             rw [if_pos rfl] at hsub
             exact ⟨hne, some ⟨b0, o0, none⟩, n - 1, 0, B.set_ 0 _, hsub.st g 0 _ (fun b off e => by simp only [Option.some.injEq, Addr.mk.injEq] at e; rw [← e.1]; exact hne), by omega, (fun e => by cases e), (fun b off e => by simp only [Option.some.injEq, Addr.mk.injEq] at e; exact e.1.symm), by omega, (fun b e => by cases e; rfl)⟩)
      · first
          | contradiction
          | (rw [if_neg hck] at hsub
             simp only [Option.map_some, Addr.add_lit] at hsub
             exact ⟨hne, some ⟨b0, o0 + 1, none⟩, n - 1, c - 1, B.set_ 0 _, hsub.st g 0 _ (fun b off e => by simp only [Option.some.injEq, Addr.mk.injEq] at e; rw [← e.1]; exact hne), by omega, (fun e => by cases e), (fun b off e => by simp only [Option.some.injEq, Addr.mk.injEq] at e; exact e.1.symm), by omega, (fun b e => by cases e; rfl)⟩)
theorem rLeft_any (g q : Nat) (l : List UInt8) (er : Nat) (w : World) (R : Rd w g q l er) : Calls Try.prog 80 #[.pointer (some ⟨g, 0, none⟩)] w (fun e w' => e = .returned (.int .i64 (l.length : Int)) ∧ w = w') := by
  obtain ⟨hne, a, n, c, B, S, h1, h2, h3, h4, h5⟩ := R
  have m0 := B.at_ (i := 0) rfl
  have hl := S.leng
  subst hl
  go_enter Try.func80, Try.ntmps80
  go_wp2
  go_ret
  exact ⟨rfl, rfl⟩
theorem rErr_any (g q : Nat) (l : List UInt8) (er : Nat) (w : World) (R : Rd w g q l er) : Calls Try.prog 86 #[.pointer (some ⟨g, 0, none⟩)] w (fun e w' => e = .returned (.int .i64 (er : Int)) ∧ w = w') := by
  obtain ⟨hne, a, n, c, B, S, h1, h2, h3, h4, h5⟩ := R
  have m1 := B.at_ (i := 1) rfl
  go_enter Try.func86, Try.ntmps86
  go_wp2
  go_ret
  exact ⟨rfl, rfl⟩
def rsEnd (l : List UInt8) (er : Nat) : Nat := if er ≠ 0 then er else if l = [] then 0 else 6
theorem rEnd_any (g q : Nat) (l : List UInt8) (er : Nat) (w : World) (R : Rd w g q l er) : Calls Try.prog 82 #[.pointer (some ⟨g, 0, none⟩)] w (fun e w' => e = .returned (.int .i64 (rsEnd l er : Int)) ∧ w = w') := by
  have R' := R
  obtain ⟨hne, a, n, c, B, S, h1, h2, h3, h4, h5⟩ := R'
  have m0 := B.at_ (i := 0) rfl
  have hl := S.leng
  clear h3 h5
  by_cases he : er = 0
  · subst he
    cases l with
    | nil =>
      have hn : n = 0 := by simpa using hl.symm
      subst hn
      clear hl
      go_enter Try.func82, Try.ntmps82
      go_wp2_with (go_at_call 86; refine (rErr_any g q [] 0 w R).mono ?_; rintro e w1 ⟨rfl, rfl⟩)
      go_ret
      exact ⟨rfl, rfl⟩
    | cons x r =>
      simp only [List.length_cons] at hl
      have q1 : ((n : Int) == 0) = false := by simp; omega
      clear hl
      go_enter Try.func82, Try.ntmps82
      go_wp2_with (go_at_call 86; refine (rErr_any g q (x :: r) 0 w R).mono ?_; rintro e w1 ⟨rfl, rfl⟩)
      go_ret
      exact ⟨rfl, rfl⟩
  · have q1 : ((er : Int) != 0) = true := by simp; omega
    have hr : rsEnd l er = er := by unfold rsEnd; rw [if_pos he]
    have Hr := Lib.hid hr
    clear hr
    go_enter Try.func82, Try.ntmps82
    go_wp2_with (go_at_call 86; refine (rErr_any g q l er w R).mono ?_; rintro e w1 ⟨rfl, rfl⟩)
    go_ret
    rw [Hr.out]
    exact ⟨rfl, rfl⟩
end Go.Proofs.Ytknllmcpogoeoaa
