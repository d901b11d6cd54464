/- The reference's reader, walked. -/
import Derived.Test.YtknllmcpogoeoaaN5
namespace Go.Proofs.Ytknllmcpogoeoaa
open Go.RowKit
set_option linter.unusedVariables false
set_option linter.unusedSimpArgs false
/-- the reference's reader at block g, whose bytes lie in block h -/
def Rr (w : World) (g h : Nat) (l : List UInt8) (e : Nat) : Prop :=
  h ≠ g ∧ ∃ (a : Option Addr) (n c : Nat), Blk w g 121 [.slice a n c, .int .i64 (e : Int)] ∧ Bs w a n l ∧ n ≤ c ∧ (a = none → c = 0) ∧ (∀ b off, a = some ⟨b, off, none⟩ → 0 < n → b = h) ∧ n ≤ 140737488351232
theorem Bs.frm0 {s : List Nat} {w w' : World} {a : Option Addr} {n : Nat} {l : List UInt8} (h : Bs w a n l) (hb : Frm s w w') (hs : ∀ b off, a = some ⟨b, off, none⟩ → 0 < n → b ∉ s) : Bs w' a n l := by
  by_cases hn : n = 0
  · exact ⟨h.leng, fun k hk => by omega⟩
  · exact h.frm hb (fun b off e => hs b off e (by omega))
theorem Bs.st0 {w : World} {a : Option Addr} {n : Nat} {l : List UInt8} (h : Bs w a n l) (g o : Nat) (v : Value) (hs : ∀ b off, a = some ⟨b, off, none⟩ → 0 < n → b ≠ g) : Bs (w.setCell ⟨g, o, none⟩ v) a n l := by
  by_cases hn : n = 0
  · exact ⟨h.leng, fun k hk => by omega⟩
  · exact h.st g o v (fun b off e => hs b off e (by omega))
theorem Rr.frm {s : List Nat} {w w' : World} {g h : Nat} {l : List UInt8} {e : Nat} (r : Rr w g h l e) (k : Frm s w w') (hg : g ∉ s) (hh : h ∉ s) : Rr w' g h l e := by
  obtain ⟨hne, a, n, c, B, S, h1, h2, h3, h4⟩ := r
  exact ⟨hne, a, n, c, B.frm k hg, S.frm0 k (fun b off e hn => by rw [h3 b off e hn]; exact hh), h1, h2, h3, h4⟩
theorem Rr.ext {w w' : World} {g h : Nat} {l : List UInt8} {e : Nat} (r : Rr w g h l e) (k : Ext w w') : Rr w' g h l e := r.frm (k.frm (s := [])) (by simp) (by simp)
theorem Rr.stop {w : World} {g h : Nat} {a : Option Addr} {n c : Nat} {l : List UInt8} {er er' : Nat} (hne : h ≠ g) (B : Blk w g 121 [.slice a n c, .int .i64 (er : Int)]) (S : Bs w a n l) (h1 : n ≤ c) (h2 : a = none → c = 0)
    (h3 : ∀ b off, a = some ⟨b, off, none⟩ → 0 < n → b = h) (h4 : n ≤ 140737488351232) (i : Int) (hi : i = (er' : Int)) : Rr (w.setCell ⟨g, 1, none⟩ (.int .i64 i)) g h l er' := by
  subst hi
  exact ⟨hne, a, n, c, B.set_ 1 _, S.st0 g 1 _ (fun b off e hn => by rw [h3 b off e hn]; exact hne), h1, h2, h3, h4⟩
theorem Rr.cut {w : World} {g h : Nat} {a : Option Addr} {n c : Nat} {l : List UInt8} (k : Nat) (hne : h ≠ g) (B : Blk w g 121 [.slice a n c, .int .i64 0]) (S : Bs w a n l) (h1 : n ≤ c) (h2 : a = none → c = 0)
    (h3 : ∀ b off, a = some ⟨b, off, none⟩ → 0 < n → b = h) (h4 : n ≤ 140737488351232) (hk : k ≤ n) (hc : c ≠ k) :
    Rr (w.setCell ⟨g, 0, none⟩ (.slice (Option.map (fun x => x.add k) a) (n - k) (c - k))) g h (l.drop k) 0 := by
  have hl := S.leng
  have hsub := S.cutAt k n c hk (Nat.le_refl _) h1
  rw [List.take_of_length_le (by rw [List.length_drop]; omega), if_neg hc] at hsub
  have hx : ∀ b off, Option.map (fun x : Addr => x.add k) a = some ⟨b, off, none⟩ → 0 < n - k → b = h := by
    intro b off e hn
    obtain ⟨b0, o0, rfl, _⟩ := S.cell 0 (by omega)
    simp only [Option.map_some, Option.some.injEq, Addr.add_lit, Addr.mk.injEq] at e
    rw [← e.1]
    exact h3 b0 o0 rfl (by omega)
  exact ⟨hne, Option.map (fun x => x.add k) a, n - k, c - k, B.set_ 0 _, hsub.st0 g 0 _ (fun b off e hn => by rw [hx b off e hn]; exact hne), by omega, (fun e => by rw [h2 (by simpa using e)]; omega), hx, by omega⟩
theorem Rr.cutEq {w : World} {g h : Nat} {a : Option Addr} {n c : Nat} {l : List UInt8} (k m : Nat) (hne : h ≠ g) (B : Blk w g 121 [.slice a n c, .int .i64 0]) (S : Bs w a n l) (h1 : n ≤ c) (h2 : a = none → c = 0)
    (h3 : ∀ b off, a = some ⟨b, off, none⟩ → 0 < n → b = h) (h4 : n ≤ 140737488351232) (hk : k ≤ n) (hc : c = k) (hm : m = n - k) :
    Rr (w.setCell ⟨g, 0, none⟩ (.slice a m 0)) g h (l.drop k) 0 := by
  have hl := S.leng
  have hsub := S.cutAt k n c hk (Nat.le_refl _) h1
  rw [List.take_of_length_le (by rw [List.length_drop]; omega), if_pos hc] at hsub
  subst hm
  exact ⟨hne, a, n - k, 0, B.set_ 0 _, hsub.st0 g 0 _ (fun b off e hn => by rw [h3 b off e (by omega)]; exact hne), by omega, (fun _ => rfl), (fun b off e hn => h3 b off e (by omega)), by omega⟩
def RrPost (val : Int) (body left : List UInt8) (err : Nat) (g q : Nat) (w : World) (e : Ending) (w' : World) : Prop :=
  ∃ a c, e = .returned (.tuple #[.int .u64 val, .slice a body.length c]) ∧ Bs w' a body.length body ∧ Rr w' g q left err ∧ Frm [g] w w'
theorem Bs.apart {w : World} {g : Nat} {e : Int} {a a' : Option Addr} {n n' c' : Nat} {l : List UInt8} (B : Blk w g 121 [.slice a' n' c', .int .i64 e]) (S : Bs w a n l) (o : Nat) (u : Value) : Bs (w.setCell ⟨g, o, none⟩ u) a n l := by
  by_cases hn : n = 0
  · exact ⟨S.leng, fun k hk => by omega⟩
  · refine S.st g o u (fun b off ea hb => ?_)
    subst hb
    obtain ⟨b1, o1, e1, hc⟩ := S.cell 0 (by omega)
    rw [e1] at ea
    simp only [Option.some.injEq, Addr.mk.injEq] at ea
    obtain ⟨rfl, rfl, _⟩ := ea
    rw [Nat.add_zero, B.cell] at hc
    match o1, hc with
    | 0, hc => simp at hc
    | 1, hc => simp at hc
    | k + 2, hc => simp at hc
set_option maxRecDepth 100000 in
set_option maxHeartbeats 1600000 in
theorem rread_bad (g q : Nat) (l : List UInt8) (er most : Nat) (x lo hi : Int) (w : World) (R : Rr w g q l er) (he : er ≠ 0) :
    Calls Try.prog 85 #[.pointer (some ⟨g, 0, none⟩), .int .i64 x, .int .u64 (most : Int), .int .i64 lo, .int .i64 hi] w (RrPost 0 [] l er g q w) := by
  have R' := R
  obtain ⟨hne, a, n, c, B, S, h1, h2, h3, h4⟩ := R'
  have m1 := B.at_ (i := 1) rfl
  have q1 : ((er : Int) != 0) = true := by simp; omega
  clear h3
  go_enter Try.func85, Try.ntmps85
  go_wp2
  go_ret2
  exact ⟨none, 0, rfl, Bs.nil _ _, R, Frm.refl _ _⟩
set_option maxRecDepth 100000 in
set_option maxHeartbeats 1600000 in
theorem rread0 (g q : Nat) (l : List UInt8) (er most : Nat) (lo hi : Int) (w : World) (R : Rr w g q l er) (hm : most < 18446744073709551616) :
    Calls Try.prog 85 #[.pointer (some ⟨g, 0, none⟩), .int .i64 0, .int .u64 (most : Int), .int .i64 lo, .int .i64 hi] w (RrPost ((rsUint l er most).val) [] (rsUint l er most).left (rsUint l er most).err g q w) := by
  by_cases he : er = 0
  case neg =>
    have hr : rsUint l er most = ⟨0, l, er⟩ := by unfold rsUint; rw [if_pos he]
    rw [hr]
    exact rread_bad g q l er most 0 lo hi w R he
  subst he
  obtain ⟨hne, a, n, c, B, S, h1, h2, h3, h4⟩ := R
  have m0 := B.at_ (i := 0) rfl
  have m1 := B.at_ (i := 1) rfl
  have f0 := B.frozen 0
  have f1 := B.frozen 1
  have hl := S.leng
  have H3 := Lib.hid h3
  clear h3
  cases hu : rdU l with
  | none =>
    obtain ⟨ev, en, ee⟩ := uvals0 hu
    have hr : rsUint l 0 most = ⟨0, l, 6⟩ := by unfold rsUint; rw [if_neg (by simp), hu]
    have Hr := Lib.hid hr
    clear hr hu
    go_enter Try.func85, Try.ntmps85
    go_wp2_with (go_at_call 49; refine (ruint_any a n c l w S h4).mono ?_; rintro e w1 ⟨rfl, rfl⟩; rw [ev, en, ee])
    go_ret2
    rw [Hr.out]
    exact ⟨none, 0, rfl, Bs.nil _ _, Rr.stop hne B S h1 h2 H3.out h4 _ rfl, (Frm.refl [g] _).st g 1 _ (.inl (by simp))⟩
  | some p =>
    obtain ⟨v, u⟩ := p
    obtain ⟨ev, en, ee⟩ := uvals hu
    have hform := rdU_form hu
    have hvlt : v < 18446744073709551616 := hform.2.2.2.1
    have hul : u ≤ l.length := by omega
    have q1 : (u : Int) ≤ (n : Int) := by omega
    have q0 : (0 : Int) ≤ (u : Int) := by omega
    have q3 : (n : Int) ≤ (c : Int) := by omega
    have q4 : (u : Int) ≤ (c : Int) := by omega
    have hr : rsUint l 0 most = if most < v then ⟨0, l, 2⟩ else ⟨(v : Int), l.drop u, 0⟩ := by unfold rsUint; rw [if_neg (by simp), hu]
    clear hu hform
    by_cases hbig : most < v
    · rw [if_pos hbig] at hr
      have Hr := Lib.hid hr
      clear hr
      have q2 : decide ((most : Int) < (v : Int)) = true := by simp; omega
      go_enter Try.func85, Try.ntmps85
      go_wp2_with (first
      | (go_at_call 49; refine (ruint_any a n c l w S h4).mono ?_; rintro e w1 ⟨rfl, rfl⟩; rw [ev, en, ee])
      | (go_at_call 62; refine (runzigzag_any v _ hvlt).mono ?_; rintro e w2 ⟨rfl, rfl⟩))
      go_ret2
      rw [Hr.out]
      exact ⟨none, 0, rfl, Bs.nil _ _, Rr.stop hne B S h1 h2 H3.out h4 _ rfl, (Frm.refl [g] _).st g 1 _ (.inl (by simp))⟩
    · rw [if_neg hbig] at hr
      have Hr := Lib.hid hr
      clear hr
      have q2 : decide ((most : Int) < (v : Int)) = false := by simp; omega
      go_enter Try.func85, Try.ntmps85
      go_wp2_with (first
      | (go_at_call 49; refine (ruint_any a n c l w S h4).mono ?_; rintro e w1 ⟨rfl, rfl⟩; rw [ev, en, ee])
      | (go_at_call 62; refine (runzigzag_any v _ hvlt).mono ?_; rintro e w2 ⟨rfl, rfl⟩))
      all_goals
        go_ret2
        rw [Hr.out]
        refine ⟨none, 0, rfl, Bs.nil _ _, ?_, (Frm.refl [g] _).st g 0 _ (.inl (by simp))⟩
        by_cases hck : c = u
        · first
            | contradiction
            | exact Rr.cutEq u _ hne B S h1 h2 H3.out h4 (by omega) hck (by omega)
        · first
            | contradiction
            | exact Rr.cut u hne B S h1 h2 H3.out h4 (by omega) hck
set_option maxRecDepth 100000 in
set_option maxHeartbeats 1600000 in
theorem rread1 (g q : Nat) (l : List UInt8) (er most : Nat) (lo hi : Int) (w : World) (R : Rr w g q l er) (hm : most < 18446744073709551616) :
    Calls Try.prog 85 #[.pointer (some ⟨g, 0, none⟩), .int .i64 1, .int .u64 (most : Int), .int .i64 lo, .int .i64 hi] w (RrPost (IntKind.u64.wrap (rsInt l er).val) [] (rsInt l er).left (rsInt l er).err g q w) := by
  by_cases he : er = 0
  case neg =>
    have hr : rsInt l er = ⟨0, l, er⟩ := by unfold rsInt; rw [if_pos he]
    rw [hr]
    exact rread_bad g q l er most 1 lo hi w R he
  subst he
  obtain ⟨hne, a, n, c, B, S, h1, h2, h3, h4⟩ := R
  have m0 := B.at_ (i := 0) rfl
  have m1 := B.at_ (i := 1) rfl
  have f0 := B.frozen 0
  have f1 := B.frozen 1
  have hl := S.leng
  have H3 := Lib.hid h3
  clear h3
  cases hu : rdU l with
  | none =>
    obtain ⟨ev, en, ee⟩ := uvals0 hu
    have hr : rsInt l 0 = ⟨0, l, 6⟩ := by unfold rsInt; rw [if_neg (by simp), hu]
    have Hr := Lib.hid hr
    clear hr hu
    go_enter Try.func85, Try.ntmps85
    go_wp2_with (go_at_call 49; refine (ruint_any a n c l w S h4).mono ?_; rintro e w1 ⟨rfl, rfl⟩; rw [ev, en, ee])
    go_ret2
    rw [Hr.out]
    exact ⟨none, 0, rfl, Bs.nil _ _, Rr.stop hne B S h1 h2 H3.out h4 _ rfl, (Frm.refl [g] _).st g 1 _ (.inl (by simp))⟩
  | some p =>
    obtain ⟨v, u⟩ := p
    obtain ⟨ev, en, ee⟩ := uvals hu
    have hform := rdU_form hu
    have hvlt : v < 18446744073709551616 := hform.2.2.2.1
    have hul : u ≤ l.length := by omega
    have q1 : (u : Int) ≤ (n : Int) := by omega
    have q0 : (0 : Int) ≤ (u : Int) := by omega
    have q3 : (n : Int) ≤ (c : Int) := by omega
    have q4 : (u : Int) ≤ (c : Int) := by omega
    have hr : rsInt l 0 = ⟨uz v, l.drop u, 0⟩ := by unfold rsInt; rw [if_neg (by simp), hu]
    have Hr := Lib.hid hr
    clear hr hu hform
    go_enter Try.func85, Try.ntmps85
    go_wp2_with (first
      | (go_at_call 49; refine (ruint_any a n c l w S h4).mono ?_; rintro e w1 ⟨rfl, rfl⟩; rw [ev, en, ee])
      | (go_at_call 62; refine (runzigzag_any v _ hvlt).mono ?_; rintro e w2 ⟨rfl, rfl⟩))
    all_goals
      go_ret2
      rw [Hr.out]
      refine ⟨none, 0, rfl, Bs.nil _ _, ?_, (Frm.refl [g] _).st g 0 _ (.inl (by simp))⟩
      by_cases hck : c = u
      · first
          | contradiction
          | exact Rr.cutEq u _ hne B S h1 h2 H3.out h4 (by omega) hck (by omega)
      · first
          | contradiction
          | exact Rr.cut u hne B S h1 h2 H3.out h4 (by omega) hck
set_option maxRecDepth 100000 in
set_option maxHeartbeats 1600000 in
theorem rread2 (g q : Nat) (l : List UInt8) (er most : Nat) (lo hi : Int) (w : World) (R : Rr w g q l er) (hm : most < 18446744073709551616) :
    Calls Try.prog 85 #[.pointer (some ⟨g, 0, none⟩), .int .i64 2, .int .u64 (most : Int), .int .i64 lo, .int .i64 hi] w (RrPost (IntKind.u64.wrap (rsSmall l er lo hi).val) [] (rsSmall l er lo hi).left (rsSmall l er lo hi).err g q w) := by
  by_cases he : er = 0
  case neg =>
    have hr : rsSmall l er lo hi = ⟨0, l, er⟩ := by unfold rsSmall; rw [if_pos he]
    rw [hr]
    exact rread_bad g q l er most 2 lo hi w R he
  subst he
  obtain ⟨hne, a, n, c, B, S, h1, h2, h3, h4⟩ := R
  have m0 := B.at_ (i := 0) rfl
  have m1 := B.at_ (i := 1) rfl
  have f0 := B.frozen 0
  have f1 := B.frozen 1
  have hl := S.leng
  have H3 := Lib.hid h3
  clear h3
  cases hu : rdU l with
  | none =>
    obtain ⟨ev, en, ee⟩ := uvals0 hu
    have hr : rsSmall l 0 lo hi = ⟨0, l, 6⟩ := by unfold rsSmall; rw [if_neg (by simp), hu]
    have Hr := Lib.hid hr
    clear hr hu
    go_enter Try.func85, Try.ntmps85
    go_wp2_with (go_at_call 49; refine (ruint_any a n c l w S h4).mono ?_; rintro e w1 ⟨rfl, rfl⟩; rw [ev, en, ee])
    go_ret2
    rw [Hr.out]
    exact ⟨none, 0, rfl, Bs.nil _ _, Rr.stop hne B S h1 h2 H3.out h4 _ rfl, (Frm.refl [g] _).st g 1 _ (.inl (by simp))⟩
  | some p =>
    obtain ⟨v, u⟩ := p
    obtain ⟨ev, en, ee⟩ := uvals hu
    have hform := rdU_form hu
    have hvlt : v < 18446744073709551616 := hform.2.2.2.1
    have hul : u ≤ l.length := by omega
    have q1 : (u : Int) ≤ (n : Int) := by omega
    have q0 : (0 : Int) ≤ (u : Int) := by omega
    have q3 : (n : Int) ≤ (c : Int) := by omega
    have q4 : (u : Int) ≤ (c : Int) := by omega
    have hr : rsSmall l 0 lo hi = if uz v < lo ∨ hi < uz v then ⟨0, l, 2⟩ else ⟨uz v, l.drop u, 0⟩ := by unfold rsSmall; rw [if_neg (by simp), hu]
    clear hu hform
    by_cases hbig : uz v < lo ∨ hi < uz v
    · rw [if_pos hbig] at hr
      have Hr := Lib.hid hr
      clear hr
      by_cases hlo : uz v < lo
      · have q2 : decide (uz v < lo) = true := by simp; omega
        go_enter Try.func85, Try.ntmps85
        go_wp2_with (first
      | (go_at_call 49; refine (ruint_any a n c l w S h4).mono ?_; rintro e w1 ⟨rfl, rfl⟩; rw [ev, en, ee])
      | (go_at_call 62; refine (runzigzag_any v _ hvlt).mono ?_; rintro e w2 ⟨rfl, rfl⟩))
        go_ret2
        rw [Hr.out]
        exact ⟨none, 0, rfl, Bs.nil _ _, Rr.stop hne B S h1 h2 H3.out h4 _ rfl, (Frm.refl [g] _).st g 1 _ (.inl (by simp))⟩
      · have q2 : decide (uz v < lo) = false := by simp; omega
        have q5 : decide (hi < uz v) = true := by simp; omega
        go_enter Try.func85, Try.ntmps85
        go_wp2_with (first
      | (go_at_call 49; refine (ruint_any a n c l w S h4).mono ?_; rintro e w1 ⟨rfl, rfl⟩; rw [ev, en, ee])
      | (go_at_call 62; refine (runzigzag_any v _ hvlt).mono ?_; rintro e w2 ⟨rfl, rfl⟩))
        go_ret2
        rw [Hr.out]
        exact ⟨none, 0, rfl, Bs.nil _ _, Rr.stop hne B S h1 h2 H3.out h4 _ rfl, (Frm.refl [g] _).st g 1 _ (.inl (by simp))⟩
    · rw [if_neg hbig] at hr
      have Hr := Lib.hid hr
      clear hr
      have q2 : decide (uz v < lo) = false := by simp; omega
      have q5 : decide (hi < uz v) = false := by simp; omega
      go_enter Try.func85, Try.ntmps85
      go_wp2_with (first
      | (go_at_call 49; refine (ruint_any a n c l w S h4).mono ?_; rintro e w1 ⟨rfl, rfl⟩; rw [ev, en, ee])
      | (go_at_call 62; refine (runzigzag_any v _ hvlt).mono ?_; rintro e w2 ⟨rfl, rfl⟩))
      all_goals
        go_ret2
        rw [Hr.out]
        refine ⟨none, 0, rfl, Bs.nil _ _, ?_, (Frm.refl [g] _).st g 0 _ (.inl (by simp))⟩
        by_cases hck : c = u
        · first
            | contradiction
            | exact Rr.cutEq u _ hne B S h1 h2 H3.out h4 (by omega) hck (by omega)
        · first
            | contradiction
            | exact Rr.cut u hne B S h1 h2 H3.out h4 (by omega) hck
set_option maxRecDepth 100000 in
set_option maxHeartbeats 1600000 in
theorem rread3 (g q : Nat) (l : List UInt8) (er most : Nat) (lo hi : Int) (w : World) (R : Rr w g q l er) (hm : most < 300) :
    Calls Try.prog 85 #[.pointer (some ⟨g, 0, none⟩), .int .i64 3, .int .u64 (most : Int), .int .i64 lo, .int .i64 hi] w (RrPost 0 (rsBytes l er (most : Int)).body (rsBytes l er (most : Int)).left (rsBytes l er (most : Int)).err g q w) := by
  by_cases he : er = 0
  case neg =>
    have hr : rsBytes l er (most : Int) = ⟨[], l, er⟩ := by unfold rsBytes; rw [if_pos he]
    rw [hr]
    exact rread_bad g q l er most 3 lo hi w R he
  subst he
  obtain ⟨hne, a, n, c, B, S, h1, h2, h3, h4⟩ := R
  have m0 := B.at_ (i := 0) rfl
  have m1 := B.at_ (i := 1) rfl
  have f0 := B.frozen 0
  have f1 := B.frozen 1
  have hl := S.leng
  have H3 := Lib.hid h3
  clear h3
  have hus := rdB_used l (most : Int)
  have hwr : IntKind.i64.wrap (most : Int) = (most : Int) := IntWalk.i64_in _ (by omega)
  by_cases hb : (rdB l (most : Int)).err = 0
  · have hr : rsBytes l 0 (most : Int) = ⟨(rdB l (most : Int)).body, l.drop (rdB l (most : Int)).used, 0⟩ := by unfold rsBytes; rw [if_neg (by simp), if_pos hb]
    have Hr := Lib.hid hr
    have Hb := Lib.hid hb
    clear hr hb
    generalize hrr : rdB l (most : Int) = rr at *
    have Hrr := Lib.hid hrr
    clear hrr
    obtain ⟨u, hu⟩ : ∃ u, rr.used = u := ⟨_, rfl⟩
    rw [hu] at Hr hus
    have Hu := Lib.hid hu
    clear hu
    have q1 : (u : Int) ≤ (n : Int) := by omega
    have q0 : (0 : Int) ≤ (u : Int) := by omega
    have q3 : (n : Int) ≤ (c : Int) := by omega
    have q4 : (u : Int) ≤ (c : Int) := by omega
    go_enter Try.func85, Try.ntmps85
    go_wp2_with (go_at_call 75; refine (rbytes_any1 a n c l (most : Int) w S h4 h1 (by omega) (by omega)).mono ?_; rw [Hrr.out]; rintro e w2 ⟨a2, c2, rfl, S2, rfl⟩; rw [Hb.out, Hu.out])
    all_goals
      go_ret2
      rw [Hr.out]
      refine ⟨a2, c2, rfl, ?_, ?_, (Frm.refl [g] _).st g 0 _ (.inl (by simp))⟩
      · exact Bs.apart B S2 _ _
      by_cases hck : c = u
      · first
          | contradiction
          | exact Rr.cutEq u _ hne B S h1 h2 H3.out h4 (by omega) hck (by omega)
      · first
          | contradiction
          | exact Rr.cut u hne B S h1 h2 H3.out h4 (by omega) hck
  · have hr : rsBytes l 0 (most : Int) = ⟨[], l, (rdB l (most : Int)).err⟩ := by unfold rsBytes; rw [if_neg (by simp), if_neg hb]
    obtain ⟨hbb, hbu⟩ := rdB_bad l (most : Int) hb
    generalize hrr : rdB l (most : Int) = rr at *
    have Hrr := Lib.hid hrr
    have Hr := Lib.hid hr
    obtain ⟨x, hx⟩ : ∃ x, rr.err = x := ⟨_, rfl⟩
    rw [hx] at hb Hr
    have Hx := Lib.hid hx
    have Hbb := Lib.hid hbb
    have q1 : ((x : Int) != 0) = true := by simp; omega
    clear hrr hr hx hbb hbu hus
    go_enter Try.func85, Try.ntmps85
    go_wp2_with (go_at_call 75; refine (rbytes_any1 a n c l (most : Int) w S h4 h1 (by omega) (by omega)).mono ?_; rw [Hrr.out]; rintro e w2 ⟨a2, c2, rfl, S2, rfl⟩; rw [Hx.out])
    go_ret2
    rw [Hr.out]
    exact ⟨none, 0, rfl, Bs.nil _ _, Rr.stop hne B S h1 h2 H3.out h4 _ rfl, (Frm.refl [g] _).st g 1 _ (.inl (by simp))⟩
set_option maxRecDepth 100000 in
set_option maxHeartbeats 1600000 in
theorem rread4 (g q : Nat) (l : List UInt8) (er most : Nat) (lo hi : Int) (w : World) (R : Rr w g q l er) :
    Calls Try.prog 85 #[.pointer (some ⟨g, 0, none⟩), .int .i64 4, .int .u64 (most : Int), .int .i64 lo, .int .i64 hi] w (RrPost (rsByte l er).val [] (rsByte l er).left (rsByte l er).err g q w) := by
  by_cases he : er = 0
  case neg =>
    have hr : rsByte l er = ⟨0, l, er⟩ := by unfold rsByte; rw [if_pos he]
    rw [hr]
    exact rread_bad g q l er most 4 lo hi w R he
  subst he
  obtain ⟨hne, a, n, c, B, S, h1, h2, h3, h4⟩ := R
  have m0 := B.at_ (i := 0) rfl
  have m1 := B.at_ (i := 1) rfl
  have f0 := B.frozen 0
  have f1 := B.frozen 1
  have hl := S.leng
  have H3 := Lib.hid h3
  clear h3
  cases l with
  | nil =>
    have hr : rsByte [] 0 = ⟨0, [], 6⟩ := rfl
    have Hr := Lib.hid hr
    obtain rfl : n = 0 := by simpa using hl.symm
    clear hr hl
    go_enter Try.func85, Try.ntmps85
    go_wp2
    go_ret2
    rw [Hr.out]
    exact ⟨none, 0, rfl, Bs.nil _ _, Rr.stop hne B S h1 h2 H3.out h4 _ rfl, (Frm.refl [g] _).st g 1 _ (.inl (by simp))⟩
  | cons b r =>
    have hr : rsByte (b :: r) 0 = ⟨b.toNat, (b :: r).drop 1, 0⟩ := rfl
    have Hr := Lib.hid hr
    have hn0 : 0 < n := by rw [List.length_cons] at hl; omega
    have q1 : ((n : Int) == 0) = false := by simp; omega
    have q2 : (0 : Int) < (n : Int) := by omega
    have q5 : (1 : Int) ≤ (n : Int) := by omega
    have q6 : (1 : Int) ≤ (c : Int) := by omega
    have q3 : (n : Int) ≤ (c : Int) := by omega
    obtain ⟨b1, o1, e1, hc1⟩ := S.cell 0 hn0
    rw [Nat.add_zero] at hc1
    have hb : nb (b :: r) 0 = (b.toNat : Int) := rfl
    rw [hb] at hc1
    have hlt : b.toNat < 256 := by have := b.toNat_lt; omega
    generalize b.toNat = x at *
    subst e1
    clear hr hl hb
    go_enter Try.func85, Try.ntmps85
    go_wp2
    all_goals
      go_ret2
      rw [Hr.out]
      refine ⟨none, 0, rfl, Bs.nil _ _, ?_, (Frm.refl [g] _).st g 0 _ (.inl (by simp))⟩
      by_cases hck : c = 1
      · first
          | contradiction
          | exact Rr.cutEq 1 _ hne B S h1 h2 H3.out h4 (by omega) hck (by omega)
      · first
          | contradiction
          | exact Rr.cut 1 hne B S h1 h2 H3.out h4 (by omega) hck
end Go.Proofs.Ytknllmcpogoeoaa
