/- The records of a play, plainly, and what rings keep of them. -/
import Derived.Test.YtknllmcpogoeoaaRp
namespace Go.Proofs.Ytknllmcpogoeoaa
open Go.RowKit
set_option linter.unusedVariables false
set_option linter.unusedSimpArgs false
set_option maxRecDepth 100000
/-- a step of rootcauselaw26 -/
structure RStep where
  args : Nat
  lost : Bool
  count : Nat
  skip : Bool
  other : Bool
  long : Int
deriving Inhabited
def RStep.ok (s : RStep) : Prop := s.args ≤ 255 ∧ s.count ≤ 65535 ∧ (-9223372036854775808 ≤ s.long ∧ s.long ≤ 9223372036854775807)
def argsOf (long : Int) (n : Nat) : List Int := (List.range n).map fun (i : Nat) => IntKind.i64.wrap (long + (i : Int))
/-- the record of a step -/
def baseOf (comp k next : Nat) (s : RStep) : Rcd :=
  if s.lost then ⟨(comp : Int), next, zeros16, 2, evt0, 1 + s.count % 50⟩
  else ⟨(comp : Int), next, zeros16, 1, ⟨(k : Int), (comp : Int), 4, 0, 0, 0, 0, s.long, argsOf s.long (s.args % 5)⟩, 0⟩
def skipOf (s : RStep) (x : Rcd) : Rcd := if s.skip then { x with idx := (x.idx + 2) % 18446744073709551616 } else x
def otherOf (s : RStep) (x : Rcd) : Rcd :=
  if s.other then { x with era := (x.era + 1) % 8, ev := { x.ev with comp := if x.what = 1 then (x.era + 1) % 8 else 0 } } else x
def recOf (comp k next : Nat) (s : RStep) : Rcd := otherOf s (skipOf s (baseOf comp k next s))
/-- the number behind a step -/
def behind (next : Nat) (s : RStep) : Nat := next + (if s.skip then 2 else 0) + (if s.lost then 1 + s.count % 50 else 1)
def recsFrom (comp : Nat) : Nat → Nat → List RStep → List Rcd
  | _, _, [] => []
  | k, next, s :: r => recOf comp k next s :: recsFrom comp (k + 1) (behind next s) r
def recordsOf (comp first : Nat) (l : List RStep) : List Rcd := recsFrom (comp % 8) 0 first (l.take 40)
def plain (s : RStep) : RStep := { s with skip := false, other := false }
def goodOf (comp first : Nat) (l : List RStep) : List Rcd := recordsOf comp first (l.map plain)
theorem recsFrom_app (comp : Nat) : ∀ (l : List RStep) (k next : Nat) (s : RStep), recsFrom comp k next (l ++ [s]) = recsFrom comp k next l ++ [recOf comp (k + l.length) (l.foldl behind next) s]
  | [], k, next, s => by simp [recsFrom]
  | x :: r, k, next, s => by
    rw [List.cons_append, recsFrom, recsFrom_app comp r (k + 1) (behind next x) s, recsFrom]
    simp only [List.cons_append, List.length_cons, List.foldl_cons]
    congr 4
    omega
theorem recsFrom_len (comp : Nat) : ∀ (l : List RStep) (k next : Nat), (recsFrom comp k next l).length = l.length
  | [], _, _ => rfl
  | x :: r, k, next => by simp [recsFrom, recsFrom_len comp r]
theorem behind_le (l : List RStep) : ∀ (next : Nat), l.foldl behind next ≤ next + l.length * 52 ∧ next ≤ l.foldl behind next := by
  induction l with
  | nil => intro next; simp
  | cons s r ih =>
    intro next
    simp only [List.foldl_cons, List.length_cons]
    have h := ih (behind next s)
    have hb : behind next s ≤ next + 52 ∧ next ≤ behind next s := by
      unfold behind
      have : s.count % 50 < 50 := Nat.mod_lt _ (by omega)
      split <;> split <;> omega
    omega
/-- the numbers one record takes -/
def Rcd.step (x : Rcd) : Nat := max x.lost 1
/-- the records of a row that follow one another from a number on -/
def chain : Nat → List Rcd → Nat → Prop
  | n, [], m => n = m
  | n, x :: r, m => x.idx = n ∧ chain (n + x.step) r m
theorem chain_app : ∀ (l : List Rcd) (n m : Nat) (x : Rcd), chain n l m → x.idx = m → chain n (l ++ [x]) (m + x.step)
  | [], n, m, x, h, hx => by simp only [chain] at h; subst h; simp [chain, hx]
  | y :: r, n, m, x, h, hx => ⟨h.1, chain_app r _ m x h.2 hx⟩
theorem chain_drop : ∀ (l : List Rcd) (n m k : Nat), chain n l m → ∃ n', n ≤ n' ∧ n' ≤ m ∧ chain n' (l.drop k) m
  | [], n, m, k, h => by
    simp only [chain] at h
    subst h
    exact ⟨n, Nat.le_refl _, Nat.le_refl _, by simp [chain]⟩
  | x :: r, n, m, 0, h => by
    obtain ⟨n', h1, h2, h3⟩ := chain_drop r _ m 0 h.2
    exact ⟨n, Nat.le_refl _, by omega, h⟩
  | x :: r, n, m, k + 1, h => by
    obtain ⟨n', h1, h2, h3⟩ := chain_drop r _ m k h.2
    exact ⟨n', by omega, h2, h3⟩
theorem chain_le {l : List Rcd} {n m : Nat} (h : chain n l m) : n ≤ m := by
  obtain ⟨n', h1, h2, _⟩ := chain_drop l n m 0 h
  omega
/-- what is known of a record of a good play -/
structure Fine (era : Int) (x : Rcd) : Prop where
  good : x.good = true
  ok : x.ok
  what : x.what = 1 ∨ x.what = 2
  era_ : x.era = era
  lost1 : x.what = 1 → x.lost = 0
  lost2 : x.what = 2 → 1 ≤ x.lost
  step50 : x.step ≤ 50
/-- a ring that was fed the records of a row that follow one another -/
structure Fed (first : Nat) (era : Int) (done : List Rcd) (d : Nat) (r : Rg) : Prop where
  list : r.list = done.drop d
  dle : d ≤ done.length
  begun : r.begun = decide (done ≠ [])
  used : r.used = sizes r.list
  chn : ∃ m, chain first done m ∧ m < 18446744073709551616 ∧ (done ≠ [] → r.next = m) ∧ (done = [] → r.next = 0)
  fst : done ≠ [] → r.first = first
  fst0 : done = [] → r.first = 0
  era_ : done ≠ [] → r.era = era
  stops : stopsR r.cap r.list
theorem fed_nil (first : Nat) (era cap : Int) (hf : first < 18446744073709551616) : Fed first era [] 0 ⟨cap, 0, [], false, 0, 0, 0⟩ :=
  ⟨rfl, Nat.le_refl _, rfl, rfl, ⟨first, rfl, hf, fun h => absurd rfl h, fun _ => rfl⟩, fun h => absurd rfl h, fun _ => rfl, fun h => absurd rfl h, .inl rfl⟩
/-- the number at which the d-th record of a row begins -/
def posOf (first : Nat) (l : List Rcd) (d : Nat) : Nat := first + ((l.take d).map Rcd.step).sum
theorem posOf_mono (first : Nat) : ∀ (l : List Rcd) (d e : Nat), d ≤ e → posOf first l d ≤ posOf first l e := by
  intro l d e h
  unfold posOf
  obtain ⟨k, rfl⟩ : ∃ k, e = d + k := ⟨e - d, by omega⟩
  rw [List.take_add, List.map_append, List.sum_append]
  omega
theorem chain_pos : ∀ (l : List Rcd) (n m d : Nat), chain n l m → chain (posOf n l d) (l.drop d) m
  | [], n, m, d, h => by simpa [posOf] using h
  | x :: r, n, m, 0, h => by simpa [posOf] using h
  | x :: r, n, m, d + 1, h => by
    have := chain_pos r _ m d h.2
    unfold posOf at this ⊢
    rw [List.take_succ_cons, List.map_cons, List.sum_cons, List.drop_succ_cons, ← Nat.add_assoc]
    exact this
theorem chain_fun : ∀ (l : List Rcd) (n m m' : Nat), chain n l m → chain n l m' → m = m'
  | [], n, m, m', h, h' => by simp only [chain] at h h'; omega
  | x :: r, n, m, m', h, h' => chain_fun r _ m m' h.2 h'.2
theorem sizes_app (l : List Rcd) (x : Rcd) : sizes (l ++ [x]) = sizes l + x.size := by unfold sizes; simp
theorem drop_snoc {α : Type} (l : List α) (x : α) (d k : Nat) (hd : d ≤ l.length) : (l.drop d ++ [x]).drop k = (l ++ [x]).drop (d + k) := by
  rw [← List.drop_drop, List.drop_append_of_le_length hd]
theorem step_next {era : Int} {x : Rcd} (hx : Fine era x) (h : x.idx + x.step < 18446744073709551616) : nextOf x = x.idx + x.step := by
  unfold nextOf
  unfold Rcd.step at h ⊢
  rcases hx.what with h1 | h1
  · have := hx.lost1 h1
    rw [if_neg (by omega)]
    rw [Nat.mod_eq_of_lt (by omega)]
    omega
  · have := hx.lost2 h1
    rw [if_pos h1, Nat.mod_eq_of_lt (by omega)]
    omega
theorem fed_put {first : Nat} {era : Int} {done : List Rcd} {d : Nat} {r : Rg} {x : Rcd} (F : Fed first era done d r) (hx : Fine era x) {m : Nat} (hm : chain first done m) (hxi : x.idx = m) (hm2 : m + x.step < 18446744073709551616) :
    r.code x = 0 ∧ Fed first era (done ++ [x]) (d + (dropR r.cap (r.used + x.size) (r.list ++ [x])).1) (r.add x) := by
  obtain ⟨m', hc, hlt, hn1, hn0⟩ := F.chn
  obtain rfl := chain_fun _ _ _ _ hm hc
  have hb := F.begun
  have hu : r.used + x.size = sizes (r.list ++ [x]) := by rw [sizes_app, F.used]
  have hle := dropR_le r.cap (r.list ++ [x]) (r.used + x.size)
  have hlen : (r.list ++ [x]).length = done.length - d + 1 := by rw [List.length_append, F.list, List.length_drop]; rfl
  refine ⟨?_, ?_⟩
  · unfold Rg.code
    rw [if_neg (by rw [hx.good]; rcases hx.what with h | h <;> simp [h])]
    rw [if_neg]
    rintro ⟨h1, h2⟩
    rw [hb] at h1
    have hd : done ≠ [] := of_decide_eq_true h1
    rw [F.era_ hd, hn1 hd, hx.era_, hxi] at h2
    simp at h2
  · refine ⟨?_, ?_, by simp [Rg.add], ?_, ⟨m + x.step, ?_, hm2, fun _ => ?_, fun h => by simp at h⟩, fun _ => ?_, fun h => by simp at h, fun _ => ?_, ?_⟩
    · show (r.list ++ [x]).drop _ = _
      rw [F.list]
      exact drop_snoc done x d _ F.dle
    · rw [List.length_append]
      have := F.dle
      simp only [List.length_cons, List.length_nil]
      omega
    · show (dropR _ _ _).2 = sizes ((r.list ++ [x]).drop _)
      rw [hu]
      have := dropR_used r.cap (r.list ++ [x]) 0
      simpa using this
    · exact chain_app done first m x hm hxi
    · show nextOf x = _
      rw [step_next hx (by omega), hxi]
    · show (if r.begun then r.first else x.idx) = first
      by_cases hd : done = []
      · subst hd
        simp only [chain] at hm
        rw [hb]
        simp
        omega
      · rw [hb, decide_eq_true hd]
        simpa using F.fst hd
    · show (if r.begun then r.era else x.era) = era
      by_cases hd : done = []
      · subst hd
        rw [hb]
        simpa using hx.era_
      · rw [hb, decide_eq_true hd]
        simpa using F.era_ hd
    · show stopsR r.cap ((r.list ++ [x]).drop _)
      rw [hu]
      exact dropR_stops r.cap (r.list ++ [x])
/-- a greater ring drops no more -/
theorem fed_wide {first : Nat} {era : Int} {done : List Rcd} {d1 d2 : Nat} {r1 r2 : Rg} {x : Rcd} (F1 : Fed first era done d1 r1) (F2 : Fed first era done d2 r2) (hc : r1.cap ≤ r2.cap) (hd : d2 ≤ d1) :
    d2 + (dropR r2.cap (r2.used + x.size) (r2.list ++ [x])).1 ≤ d1 + (dropR r1.cap (r1.used + x.size) (r1.list ++ [x])).1 := by
  have hu1 : r1.used + x.size = sizes (r1.list ++ [x]) := by rw [sizes_app, F1.used]
  have hu2 : r2.used + x.size = sizes (r2.list ++ [x]) := by rw [sizes_app, F2.used]
  rw [hu1, hu2]
  have hs := dropR_stops r1.cap (r1.list ++ [x])
  generalize hk : (dropR r1.cap (sizes (r1.list ++ [x])) (r1.list ++ [x])).1 = k at hs ⊢
  have key := dropR_first r2.cap (r2.list ++ [x]) (d1 - d2 + k) (by
    rw [F2.list, drop_snoc done x d2 _ F2.dle, show d2 + (d1 - d2 + k) = d1 + k by omega, ← drop_snoc done x d1 k F1.dle, ← F1.list]
    rcases hs with h | ⟨h1, h2⟩
    · exact .inl h
    · exact .inr ⟨by omega, h2⟩)
  omega
theorem fed_lost {first : Nat} {era : Int} {done : List Rcd} {d : Nat} {r : Rg} (F : Fed first era done d r) (hf : first < 18446744073709551616) : r.lost = posOf first done d - first := by
  obtain ⟨m, hc, hlt, hn1, hn0⟩ := F.chn
  have hp := chain_pos done first m d hc
  rw [← F.list] at hp
  have hge : first ≤ posOf first done d := by unfold posOf; omega
  have hle := chain_le hp
  unfold Rg.lost
  by_cases hd : done = []
  · subst hd
    have hl : r.list = [] := by rw [F.list]; simp
    rw [hl, hn0 rfl, F.fst0 rfl]
    simp [posOf]
  · cases hl : r.list with
    | nil =>
      rw [hl] at hp
      simp only [chain] at hp
      simp only
      rw [hn1 hd, F.fst hd]
      have e : m + (18446744073709551616 - first) = (m - first) + 18446744073709551616 := by omega
      rw [e, Nat.add_mod_right, Nat.mod_eq_of_lt (by omega), hp]
    | cons x l =>
      rw [hl] at hp
      have hx := hp.1
      have hxm := chain_le hp.2
      simp only
      rw [F.fst hd, hx]
      have e : posOf first done d + (18446744073709551616 - first) = (posOf first done d - first) + 18446744073709551616 := by omega
      rw [e, Nat.add_mod_right, Nat.mod_eq_of_lt (by omega)]
theorem fed_wide_lost {first : Nat} {era : Int} {done : List Rcd} {d1 d2 : Nat} {r1 r2 : Rg} (F1 : Fed first era done d1 r1) (F2 : Fed first era done d2 r2) (hd : d2 ≤ d1) (hf : first < 18446744073709551616) : r2.lost ≤ r1.lost ∧ r1.list.length ≤ r2.list.length := by
  rw [fed_lost F1 hf, fed_lost F2 hf]
  have := posOf_mono first done d2 d1 hd
  refine ⟨by omega, ?_⟩
  rw [F1.list, F2.list, List.length_drop, List.length_drop]
  omega
/-! The records of a good play. -/
theorem wrap_i64_rng (z : Int) : -9223372036854775808 ≤ IntKind.i64.wrap z ∧ IntKind.i64.wrap z ≤ 9223372036854775807 := by
  rw [IntKind.wrap_i64]; omega
theorem evt0_ok : evt0.ok := ⟨by decide, by decide, by decide, by decide, by decide, by decide, by decide, by decide, fun z hz => by cases hz⟩
theorem base_fine (comp k next : Nat) (s : RStep) (hc : comp < 8) (hk : k < 40) (hn : next < 18446744073709551000) (hs : s.ok) : Fine (comp : Int) (baseOf comp k next s) ∧ (baseOf comp k next s).idx = next ∧ next + (baseOf comp k next s).step = behind next (plain s) := by
  unfold baseOf behind plain
  have hm : s.count % 50 < 50 := Nat.mod_lt _ (by omega)
  have h4 : s.args % 5 < 5 := Nat.mod_lt _ (by omega)
  by_cases hl : s.lost = true
  · rw [if_pos hl]
    refine ⟨⟨?_, ?_, .inr rfl, rfl, (fun h => by cases h), fun _ => ?_, ?_⟩, rfl, ?_⟩
    · unfold Rcd.good Rcd.good0 Rcd.bare
      simp [evt_refl, inN]
      omega
    · exact ⟨by simp only; omega, by simp only; omega, by simp [zeros16], (fun z hz => by have := (List.mem_replicate.1 hz).2; omega), by simp, evt0_ok, by simp only; omega⟩
    · simp only; omega
    · unfold Rcd.step; simp only; omega
    · unfold Rcd.step; simp only [hl]; simp <;> omega
  · rw [if_neg hl]
    refine ⟨⟨?_, ?_, .inl rfl, rfl, fun _ => rfl, (fun h => by cases h), ?_⟩, rfl, ?_⟩
    · unfold Rcd.good Rcd.good0 Evt.good
      simp [inN, argsOf]
      omega
    · exact ⟨by simp only; omega, by simp only; omega, by simp [zeros16], (fun z hz => by have := (List.mem_replicate.1 hz).2; omega), by simp, ⟨by simp only; omega, by simp only; omega, by simp, by simp, by simp, by simp, by simp, by exact hs.2.2, fun z hz => by
        unfold argsOf at hz
        obtain ⟨i, _, rfl⟩ := List.mem_map.1 hz
        exact wrap_i64_rng _⟩, by simp⟩
    · unfold Rcd.step; simp
    · have hl' : s.lost = false := by simpa using hl
      unfold Rcd.step; simp [hl']
end Go.Proofs.Ytknllmcpogoeoaa
