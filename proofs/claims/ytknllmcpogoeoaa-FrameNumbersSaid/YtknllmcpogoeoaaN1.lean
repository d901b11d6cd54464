/- Layer 1 walked: put, PutUint, the reference's Put; Uint and the reference's; Same. -/
import Derived.Test.YtknllmcpogoeoaaNu
import Derived.Test.YtknllmcpogoeoaaFm
namespace Go.Proofs.Ytknllmcpogoeoaa
open Go.RowKit
set_option linter.unusedVariables false
set_option linter.unusedSimpArgs false
theorem bits_or_u8 (x y : Nat) (hx : x < 256) (hy : y < 256) : bits .or .u8 (x : Int) (y : Int) = ((x ||| y : Nat) : Int) := by
  have hz : x ||| y < 2 ^ 8 := Nat.or_lt_two_pow (by omega) (by omega)
  show IntKind.u8.wrap ((BitVec.ofInt 8 (x : Int) ||| BitVec.ofInt 8 (y : Int)).toNat : Int) = _
  have e : (BitVec.ofInt 8 (x : Int) ||| BitVec.ofInt 8 (y : Int)).toNat = x ||| y := by
    rw [BitVec.toNat_or, BitVec.toNat_ofInt, BitVec.toNat_ofInt]
    congr 1 <;> omega
  rw [e, IntKind.wrap_u8]
  omega
set_option maxRecDepth 100000 in
theorem or128_fin : ∀ m : Fin 256, m.val ||| 128 = m.val % 128 + 128 := by decide
theorem or128 (x : Nat) : bits .or .u8 ((x : Int) % 256) 128 = (x : Int) % 128 + 128 := by
  have := bits_or_u8 (x % 256) 128 (by omega) (by omega)
  rw [or128_fin ⟨x % 256, by omega⟩] at this
  simp only at this
  rw [show ((x : Int) % 256) = ((x % 256 : Nat) : Int) by omega]
  refine this.trans ?_
  omega
theorem bits_and_u8 (x y : Nat) (hx : x < 256) (hy : y < 256) : bits .and .u8 (x : Int) (y : Int) = ((x &&& y : Nat) : Int) := by
  have hz : x &&& y < 2 ^ 8 := Nat.and_lt_two_pow _ (by omega)
  show IntKind.u8.wrap ((BitVec.ofInt 8 (x : Int) &&& BitVec.ofInt 8 (y : Int)).toNat : Int) = _
  have e : (BitVec.ofInt 8 (x : Int) &&& BitVec.ofInt 8 (y : Int)).toNat = x &&& y := by
    rw [BitVec.toNat_and, BitVec.toNat_ofInt, BitVec.toNat_ofInt]
    congr 1 <;> omega
  rw [e, IntKind.wrap_u8]
  omega
theorem and127 (x : Nat) (h : x < 256) : bits .and .u8 (x : Int) 127 = ((x % 128 : Nat) : Int) := by
  have := bits_and_u8 x 127 h (by omega)
  rw [show (127 : Nat) = 2 ^ 7 - 1 by rfl, Nat.and_two_pow_sub_one_eq_mod] at this
  exact this
theorem u8_one (x : Nat) (h : x < 256) : (#[.int .u8 (x : Int)] : Array Value).toList = u8s [UInt8.ofNat x] := by
  simp only [u8s, List.map_cons, List.map_nil]
  rw [u8_ofNat _ h]
theorem u8_one' (x : Nat) (i : Int) (hi : i = (x : Int)) (h : x < 256) : (#[.int .u8 i] : Array Value).toList = u8s [UInt8.ofNat x] := by rw [hi]; exact u8_one x h
def PutRel (B : Nat) (L0 : List UInt8) (w : World) (p v : Value) (wr : World) : Prop :=
  ∃ (x : Nat) (a : Option Addr) (n c : Nat) (L : List UInt8), v = .int .u64 (x : Int) ∧ p = .slice a n c ∧ Ow wr B a n c L ∧ L ++ putU x = L0 ∧ x < 18446744073709551616 ∧ B ≤ wr.heap.size ∧ Below B w wr
def PutPost (B : Nat) (L0 : List UInt8) (w : World) (e : Ending) (w' : World) : Prop := ∃ a c, e = .returned (.slice a L0.length c) ∧ Ow w' B a L0.length c L0 ∧ Below B w w'
set_option maxRecDepth 100000 in
set_option maxHeartbeats 800000 in
theorem put_any (B : Nat) (a : Option Addr) (n c : Nat) (l : List UInt8) (v : Nat) (w : World) (ho : Ow w B a n c l) (hv : v < 18446744073709551616) (hn : n ≤ 140737488351232) (hB : B ≤ w.heap.size) :
    Calls Try.prog 107 #[.slice a n c, .int .u64 (v : Int)] w (PutPost B (l ++ putU v) w) := by
  have hlen := putU_len v hv
  have hl := ho.leng
  obtain ⟨LL, hLL⟩ : ∃ LL, LL = l ++ putU v := ⟨_, rfl⟩
  have hLn : LL.length ≤ 140737488351300 := by rw [hLL, List.length_append]; omega
  have HLL := Lib.hid hLL
  rw [← hLL]
  clear hLL hlen
  go_enter Try.func107, Try.ntmps107
  go_wp2
  go_loopw [0, 1] (fun p x wr => PutRel B LL w p x wr) (fun _ x _ => (intOf x).toNat)
  case atStart => exact ⟨v, a, n, c, l, rfl, rfl, ho, HLL.out.symm, hv, hB, Below.refl _ _⟩
  case round =>
    obtain ⟨x, a1, n1, c1, L, rfl, rfl, O, hL, hx, hB1, E⟩ := hrel
    rename World => W
    have hLl := O.leng
    have hLe := congrArg List.length hL
    rw [List.length_append] at hLe
    have hpl := putU_len x hx
    by_cases hbig : 128 ≤ x
    · have hb1 : decide ((128 : Int) ≤ (x : Int)) = true := by simp; omega
      have hor := or128 x
      rw [putU_big (by omega) hx] at hL
      have HL := Lib.hid hL
      clear hL
      go_wp2_with (at_builtin; refine wp_app (s := .tmp 7) (x := .tmp 11) B (n1 + 1) (L ++ [UInt8.ofNat (x % 128 + 128)]) rfl rfl (row_al O _) (Bs.new W _ 1 [UInt8.ofNat (x % 128 + 128)] rfl (u8_one' _ _ (by omega) (by omega))) (fun h => by cases h) rfl rfl (by omega) (by simp; omega) ?_; intro a2 c2 w2 O2 G2)
      have E2 := Ow.below (row_al O _) (E.alloc hB1 _) G2 (Nat.le_refl _) (by simp; omega)
      have hs := G2.size
      rw [World.size_alloc] at hs
      go_roundw
      case rel => exact ⟨x / 128, a2, n1 + 1, c2, L ++ [UInt8.ofNat (x % 128 + 128)], by simp, rfl, O2, by rw [List.append_assoc]; exact HL.out, by omega, by omega, E2⟩
      case measure => simp [intOf]; omega
    · have hb1 : decide ((128 : Int) ≤ (x : Int)) = false := by simp; omega
      rw [putU_small (by omega)] at hL
      have HL := Lib.hid hL
      clear hL
      go_wp2_with (at_builtin; refine wp_app (s := .tmp 15) (x := .tmp 18) B (n1 + 1) (L ++ [UInt8.ofNat x]) rfl rfl (row_al O _) (Bs.new W _ 1 [UInt8.ofNat x] rfl (u8_one' _ _ (by omega) (by omega))) (fun h => by cases h) rfl rfl (by omega) (by simp; omega) ?_; intro a2 c2 w2 O2 G2)
      have E2 := Ow.below (row_al O _) (E.alloc hB1 _) G2 (Nat.le_refl _) (by simp; omega)
      go_ret
      have hn : n1 + 1 = LL.length := by rw [← HL.out]; simp; omega
      rw [HL.out, hn] at O2
      rw [hn]
      exact ⟨a2, c2, rfl, O2, E2⟩
/-- bytes are bytes: the reference's comparison -/
def SamePost (l r : List UInt8) (w : World) (e : Ending) (w' : World) : Prop := e = .returned (.bool (decide (l = r))) ∧ Ext w w'
set_option maxRecDepth 100000 in
set_option maxHeartbeats 800000 in
theorem same1_any (a1 : Option Addr) (n1 c1 : Nat) (a2 : Option Addr) (n2 c2 : Nat) (l r : List UInt8) (w : World) (h1 : Bs w a1 n1 l) (h2 : Bs w a2 n2 r) (hn : n1 ≤ 140737488355328) :
    Calls Try.prog 45 #[.slice a1 n1 c1, .slice a2 n2 c2] w (SamePost l r w) := by
  have hl1 := h1.leng
  have hl2 := h2.leng
  by_cases hne : n1 = n2
  case neg =>
    have q1 : ((n1 : Int) != (n2 : Int)) = true := by simp; omega
    have q2 : decide (l = r) = false := by simp; intro e; rw [e] at hl1; omega
    go_enter Try.func45, Try.ntmps45
    go_wp2
    go_ret
    exact ⟨by rw [q2]; rfl, Ext.refl w⟩
  subst hne
  go_enter Try.func45, Try.ntmps45
  go_wp2
  go_loopw [5] (fun i wr => ∃ k : Nat, k ≤ n1 ∧ i = .int .i64 k ∧ (∃ m, wr = w.drewN m) ∧ Hid (l.take k = r.take k)) (fun i _ => n1 - (intOf i).toNat)
  case atStart => exact ⟨0, by omega, rfl, ⟨0, rfl⟩, Lib.hid (by simp)⟩
  case round =>
    obtain ⟨k, hk, rfl, ⟨m, rfl⟩, He⟩ := hrel
    by_cases hkn : k < n1
    · have hkb : decide ((k : Int) < (n1 : Int)) = true := by simp; omega
      obtain ⟨b1, o1, rfl, hc1⟩ := h1.cell k hkn
      obtain ⟨b2, o2, rfl, hc2⟩ := h2.cell k hkn
      have q2 : (k : Int) < (n1 : Int) := by omega
      have q3 : (0 : Int) ≤ (k : Int) := by omega
      have Hs1 : Hid (l.take (k + 1) = l.take k ++ [l[k]?.getD 0]) := Lib.hid (by rw [List.take_add_one, List.getElem?_eq_getElem (by omega)]; rfl)
      have Hs2 : Hid (r.take (k + 1) = r.take k ++ [r[k]?.getD 0]) := Lib.hid (by rw [List.take_add_one, List.getElem?_eq_getElem (by omega)]; rfl)
      clear hl1 hl2
      by_cases hx : nb l k = nb r k
      · have hxe : (nb l k != nb r k) = false := by simp [hx]
        have hb : l[k]?.getD 0 = r[k]?.getD 0 := by
          unfold nb at hx
          exact u8_eq _ _ (by omega)
        have Hb := Lib.hid hb
        clear hx hb
        go_wp2
        go_quiet (fail)
        go_wp2
        go_roundw
        case rel => exact ⟨k + 1, by omega, by go_num, ⟨_, rfl⟩, Lib.hid (by rw [Hs1.out, Hs2.out, He.out, Hb.out])⟩
        case measure => simp [intOf]; omega
      · have hxb : (nb l k != nb r k) = true := by simp [hx]
        have hno : decide (l = r) = false := by
          simp only [decide_eq_false_iff_not]
          intro e
          subst e
          exact hx rfl
        have Hno := Lib.hid hno
        clear hx hno
        go_wp2
        go_quiet (fail)
        go_wp2
        go_ret
        exact ⟨by rw [Hno.out]; rfl, ((Ext.refl w).drN _).drN _⟩
    · have hkb : decide ((k : Int) < (n1 : Int)) = false := by simp; omega
      have h := He.out
      rw [List.take_of_length_le (by omega), List.take_of_length_le (by omega)] at h
      subst h
      go_wp2
      go_ret
      exact ⟨by simp, (Ext.refl w).drN _⟩
/-- num.PutUint -/
def OutPost (L : List UInt8) (w : World) (e : Ending) (w' : World) : Prop := ∃ a c, e = .returned (.slice a L.length c) ∧ Ow w' w.heap.size a L.length c L ∧ Ext w w'
set_option maxRecDepth 100000 in
set_option maxHeartbeats 800000 in
theorem putUint_any (a : Option Addr) (n c : Nat) (l : List UInt8) (v : Nat) (w : World) (hb : Bs w a n l) (hz : a = none → c = 0) (hv : v < 18446744073709551616) (hn : n ≤ 140737488351232) :
    Calls Try.prog 46 #[.slice a n c, .int .u64 (v : Int)] w (OutPost (l ++ putU v) w) := by
  go_enter Try.func46, Try.ntmps46
  go_wp2_with (first
    | (go_at_call 107; refine (put_any w.heap.size _ _ _ l v w2 O2 hv (by omega) E2.sz).mono ?_; rintro e w3 ⟨a3, c3, rfl, O3, E3⟩)
    | (refine wp_make w.heap.size (n + 10) rfl rfl (by omega) (by omega) (Nat.le_refl _) ?_; intro w1 O1 G1; have E1 := (Ext.refl w).grown G1 (fun k e => by cases e))
    | (at_builtin; refine wp_app (s := .tmp 10) (x := .tmp 11) w.heap.size n l rfl rfl O1 (E1.bs hb) hz (by omega) (by simp) (by omega) E1.sz ?_; intro a2 c2 w2 O2 G2; have E2 := E1.app O1 (Nat.le_refl _) G2))
  go_ret
  exact ⟨a3, c3, by rw [List.length_append]; rfl, O3, Below.trans E2 E3⟩
set_option maxRecDepth 100000 in
set_option maxHeartbeats 800000 in
theorem rput_any (v : Nat) (w : World) (hv : v < 18446744073709551616) : Calls Try.prog 47 #[.int .u64 (v : Int)] w (OutPost (putU v) w) := by
  have hlen := putU_len v hv
  obtain ⟨LL, hLL⟩ : ∃ LL, LL = putU v := ⟨_, rfl⟩
  have HLL := Lib.hid hLL
  rw [← hLL] at hlen ⊢
  clear hLL
  go_enter Try.func47, Try.ntmps47
  go_wp2
  go_loopw [0, 3] (fun x p wr => PutRel w.heap.size LL w p x wr) (fun x _ _ => (intOf x).toNat)
  case atStart => exact ⟨v, none, 0, 0, [], rfl, rfl, World.ownsRow_nil _ _ _ _, HLL.out.symm, hv, Nat.le_refl _, Below.refl _ _⟩
  case round =>
    obtain ⟨x, a1, n1, c1, L, rfl, rfl, O, hL, hx, hB1, E⟩ := hrel
    rename World => W
    have hLl := O.leng
    have hLe := congrArg List.length hL
    rw [List.length_append] at hLe
    have hpl := putU_len x hx
    by_cases hbig : 128 ≤ x
    · have hb1 : decide ((128 : Int) ≤ (x : Int)) = true := by simp; omega
      rw [putU_big (by omega) hx] at hL
      have HL := Lib.hid hL
      clear hL
      go_wp2_with (at_builtin; refine wp_app (s := .tmp 6) (x := .tmp 11) w.heap.size (n1 + 1) (L ++ [UInt8.ofNat (x % 128 + 128)]) rfl rfl (row_al O _) (Bs.new W _ 1 [UInt8.ofNat (x % 128 + 128)] rfl (u8_one' _ _ (by omega) (by omega))) (fun h => by cases h) rfl rfl (by omega) (by simp; omega) ?_; intro a2 c2 w2 O2 G2)
      have E2 := Ow.below (row_al O _) (E.alloc hB1 _) G2 (Nat.le_refl _) (by simp; omega)
      have hs := G2.size
      rw [World.size_alloc] at hs
      go_roundw
      case rel => exact ⟨x / 128, a2, n1 + 1, c2, L ++ [UInt8.ofNat (x % 128 + 128)], by simp, rfl, O2, by rw [List.append_assoc]; exact HL.out, by omega, by omega, E2⟩
      case measure => simp [intOf]; omega
    · have hb1 : decide ((128 : Int) ≤ (x : Int)) = false := by simp; omega
      rw [putU_small (by omega)] at hL
      have HL := Lib.hid hL
      clear hL
      go_wp2_with (at_builtin; refine wp_app (s := .tmp 15) (x := .tmp 18) w.heap.size (n1 + 1) (L ++ [UInt8.ofNat x]) rfl rfl (row_al O _) (Bs.new W _ 1 [UInt8.ofNat x] rfl (u8_one' _ _ (by omega) (by omega))) (fun h => by cases h) rfl rfl (by omega) (by simp; omega) ?_; intro a2 c2 w2 O2 G2)
      have E2 := Ow.below (row_al O _) (E.alloc hB1 _) G2 (Nat.le_refl _) (by simp; omega)
      go_ret
      have hn : n1 + 1 = LL.length := by rw [← HL.out]; simp; omega
      rw [HL.out, hn] at O2
      rw [hn]
      exact ⟨a2, c2, rfl, O2, E2⟩
theorem bits_or_u64 (x y : Nat) (hx : x < 2 ^ 64) (hy : y < 2 ^ 64) : bits .or .u64 (x : Int) (y : Int) = ((x ||| y : Nat) : Int) := by
  have hz : x ||| y < 2 ^ 64 := Nat.or_lt_two_pow hx hy
  show IntKind.u64.wrap ((BitVec.ofInt 64 (x : Int) ||| BitVec.ofInt 64 (y : Int)).toNat : Int) = _
  have e : (BitVec.ofInt 64 (x : Int) ||| BitVec.ofInt 64 (y : Int)).toNat = x ||| y := by
    rw [BitVec.toNat_or, BitVec.toNat_ofInt, BitVec.toNat_ofInt]
    congr 1 <;> omega
  rw [e, IntKind.wrap_u64]
  omega
theorem pow_le63 (s y : Nat) (hs : s ≤ 63) (h : (s ≤ 56 ∧ y < 128) ∨ y ≤ 1) : y * 2 ^ s < 2 ^ 64 := by
  rcases h with ⟨h1, h2⟩ | h2
  · have : (2 : Nat) ^ s ≤ 2 ^ 56 := Nat.pow_le_pow_right (by omega) h1
    have h3 : y * 2 ^ s ≤ 127 * 2 ^ 56 := Nat.mul_le_mul (by omega) this
    omega
  · have : (2 : Nat) ^ s ≤ 2 ^ 63 := Nat.pow_le_pow_right (by omega) hs
    have h3 : y * 2 ^ s ≤ 1 * 2 ^ 63 := Nat.mul_le_mul h2 this
    omega
theorem or_shl (v y s : Nat) (hv : v < 2 ^ s) (hs : s ≤ 63) (h : (s ≤ 56 ∧ y < 128) ∨ y ≤ 1) : bits .or .u64 (v : Int) (IntKind.u64.wrap (IntKind.u64.wrap (y : Int) * (2 : Int) ^ s)) = ((v + y * 2 ^ s : Nat) : Int) := by
  have h1 := pow_le63 s y hs h
  have e1 : IntKind.u64.wrap (y : Int) = (y : Int) := IntWalk.u64_in _ (by omega)
  have e2 : (y : Int) * (2 : Int) ^ s = ((y * 2 ^ s : Nat) : Int) := by simp
  rw [e1, e2, IntWalk.u64_in _ (by omega), bits_or_u64 _ _ (Nat.lt_of_lt_of_le hv (Nat.pow_le_pow_right (by omega) (by omega))) h1, or_nat _ _ _ hv]
theorem add_shl (v y s : Nat) (hv : v < 2 ^ s) (hs : s ≤ 63) (h : (s ≤ 56 ∧ y < 128) ∨ y ≤ 1) : IntKind.u64.wrap ((v : Int) + IntKind.u64.wrap (IntKind.u64.wrap (y : Int) * (2 : Int) ^ s)) = ((v + y * 2 ^ s : Nat) : Int) ∧ v + y * 2 ^ s < 18446744073709551616 := by
  have h1 := pow_le63 s y hs h
  have e1 : IntKind.u64.wrap (y : Int) = (y : Int) := IntWalk.u64_in _ (by omega)
  have e2 : (y : Int) * (2 : Int) ^ s = ((y * 2 ^ s : Nat) : Int) := by simp
  have h3 : v + y * 2 ^ s < 18446744073709551616 := by
    rcases h with ⟨h4, h5⟩ | h5
    · have : (2 : Nat) ^ s ≤ 2 ^ 56 := Nat.pow_le_pow_right (by omega) h4
      have h6 : y * 2 ^ s ≤ 127 * 2 ^ 56 := Nat.mul_le_mul (by omega) this
      omega
    · have : (2 : Nat) ^ s ≤ 2 ^ 63 := Nat.pow_le_pow_right (by omega) hs
      have h6 : y * 2 ^ s ≤ 1 * 2 ^ 63 := Nat.mul_le_mul h5 this
      omega
  refine ⟨?_, h3⟩
  have e3 : IntKind.u64.wrap ((y * 2 ^ s : Nat) : Int) = ((y * 2 ^ s : Nat) : Int) := IntWalk.u64_in _ (by omega)
  rw [e1, e2, e3, show (v : Int) + ((y * 2 ^ s : Nat) : Int) = ((v + y * 2 ^ s : Nat) : Int) by omega, IntWalk.u64_in _ (by omega)]
theorem or9 (v : Nat) (hv : v < 2 ^ (7 * 9)) : bits .or .u64 (v : Int) (IntKind.u64.wrap (IntKind.u64.wrap (bits .and .u8 1 127) * 9223372036854775808)) = ((v + 1 * 2 ^ (7 * 9) : Nat) : Int) := by
  have h1 := and127 1 (by omega)
  rw [show ((1 : Nat) : Int) = 1 by rfl] at h1
  rw [h1]
  exact or_shl v 1 63 hv (by omega) (by omega)
theorem or0 (v x : Nat) (hv : v < 2 ^ (7 * 0)) (hx : x < 128) : bits .or .u64 (v : Int) (x : Int) = ((v + x * 2 ^ 0 : Nat) : Int) := by
  obtain rfl : v = 0 := by simpa using hv
  rw [bits_or_u64 _ _ (by omega) (by omega)]
  simp
theorem next_lt (v y k : Nat) (hv : v < 2 ^ (7 * k)) (hy : y < 128) : v + y * 2 ^ (7 * k) < 2 ^ (7 * (k + 1)) := by
  have e : 2 ^ (7 * (k + 1)) = 128 * 2 ^ (7 * k) := by rw [show 7 * (k + 1) = 7 + 7 * k by omega, Nat.pow_add]
  have h3 : (y + 1) * 2 ^ (7 * k) ≤ 128 * 2 ^ (7 * k) := Nat.mul_le_mul_right _ (by omega)
  rw [Nat.add_mul, Nat.one_mul] at h3
  omega
/-- num.Uint: the number, its bytes, and the error -/
def uVal (l : List UInt8) : Nat := match rdU l with | none => 0 | some (v, _) => v
def uLen (l : List UInt8) : Nat := match rdU l with | none => 0 | some (_, n) => n
def uErr (l : List UInt8) : Nat := match rdU l with | none => 6 | some _ => 0
def UPost (l : List UInt8) (w : World) (e : Ending) (w' : World) : Prop := e = .returned (.tuple #[.int .u64 (uVal l : Int), .int .i64 (uLen l : Int), .int .i64 (uErr l : Int)]) ∧ w' = w
theorem upost_none {l : List UInt8} (h : rdU l = none) (w : World) : UPost l w (.returned (.tuple #[.int .u64 0, .int .i64 0, .int .i64 6])) w := by
  unfold UPost uVal uLen uErr; rw [h]; exact ⟨rfl, rfl⟩
theorem upost_some {l : List UInt8} {v n : Nat} (h : rdU l = some (v, n)) (i j : Int) (hi : i = (v : Int)) (hj : j = (n : Int)) (w : World) : UPost l w (.returned (.tuple #[.int .u64 i, .int .i64 j, .int .i64 0])) w := by
  unfold UPost uVal uLen uErr; rw [h, hi, hj]; exact ⟨rfl, rfl⟩
set_option maxRecDepth 100000 in
set_option maxHeartbeats 1600000 in
theorem uint_any (a : Option Addr) (n c : Nat) (l : List UInt8) (w : World) (hb : Bs w a n l) (hn : n ≤ 140737488351232) :
    Calls Try.prog 48 #[.slice a n c] w (UPost l w) := by
  have hl := hb.leng
  go_enter Try.func48, Try.ntmps48
  go_wp2
  go_loop [2, 9] (fun x i => ∃ k v : Nat, k ≤ n ∧ i = .int .i64 (k : Int) ∧ x = .int .u64 (v : Int) ∧ k ≤ 9 ∧ v < 2 ^ (7 * k) ∧ Hid (rdU l = getU k v (l.drop k))) (fun _ i => n - (intOf i).toNat)
  case atStart => exact ⟨0, 0, by omega, rfl, rfl, by omega, by simp, Lib.hid (by simp [rdU])⟩
  case round =>
    obtain ⟨k, v, hk, rfl, rfl, hk9, hv, HU⟩ := hrel
    have Hv := Lib.hid hv
    clear hv
    by_cases hkn : k < n
    · have hkb : decide ((k : Int) < (n : Int)) = true := by simp; omega
      obtain ⟨b, o, rfl, hc⟩ := hb.cell k hkn
      have q2 : (k : Int) < (n : Int) := by omega
      have q3 : (0 : Int) ≤ (k : Int) := by omega
      have hst := getU_step l k v (by omega)
      rw [← HU.out] at hst
      have hrg := nb_rng l k
      rw [nb_nn] at hc hrg
      generalize nn l k = x at *
      have hA := and127 x (by omega)
      by_cases h9 : k = 9
      · subst h9
        by_cases h1 : 1 < x
        · rw [if_pos (by omega)] at hst
          have q6 : decide ((1 : Int) < (x : Int)) = true := by simp; omega
          have Hst := Lib.hid hst
          clear hl hb hst hA
          go_wp2
          go_ret3
          exact upost_none Hst.out w
        · rw [Nat.mod_eq_of_lt (by omega)] at hA
          have q6 : decide ((1 : Int) < (x : Int)) = false := by simp; omega
          have q7 : ((x : Int) / 128 == 0) = true := by simp; omega
          by_cases h0 : x = 0
          · subst h0
            rw [if_pos (by omega)] at hst
            have Hst := Lib.hid hst
            clear hl hb hst
            go_wp2
            go_ret3
            exact upost_none Hst.out w
          · obtain rfl : x = 1 := by omega
            rw [if_neg (by omega), if_pos (by omega)] at hst
            have Hst := Lib.hid hst
            clear hl hb hst
            go_wp2
            go_ret3
            exact upost_some Hst.out _ _ (or9 v Hv.out) (by omega) w
      · have q6 : ((k : Int) == 9) = false := by simp; omega
        obtain ⟨s, hs⟩ : ∃ s, s = 7 * k := ⟨_, rfl⟩
        have hs7 : (7 : Int) * (k : Int) = (s : Int) := by omega
        have hs0 : (0 : Int) ≤ (s : Int) := by omega
        have hor := or_shl v (x % 128) s (by rw [hs]; exact Hv.out) (by omega) (by omega)
        have hor' := hor
        rw [show IntKind.u64.wrap ((x % 128 : Nat) : Int) = ((x % 128 : Nat) : Int) from IntWalk.u64_in _ (by omega)] at hor'
        have hA2 : (0 : Int) ≤ ((x % 128 : Nat) : Int) := by omega
        by_cases hx : x < 128
        · have q7 : ((x : Int) / 128 == 0) = true := by simp; omega
          by_cases h0 : 0 < k ∧ x = 0
          · rw [if_pos (by omega)] at hst
            obtain ⟨h0, rfl⟩ := h0
            have q8 : decide ((0 : Int) < (k : Int)) = true := by simp; omega
            have Hst := Lib.hid hst
            clear hl hb hst hs
            go_wp2
            go_ret3
            exact upost_none Hst.out w
          · rw [if_neg (by omega), if_pos hx, ← hs] at hst
            have hxy : x % 128 = x := Nat.mod_eq_of_lt hx
            rw [hxy] at hA hA2 hor hor'
            have Hst := Lib.hid hst
            have Hor := Lib.hid hor
            have Hor' := Lib.hid hor'
            clear hor hor'
            by_cases e : k = 0
            · subst e
              have e0 : s = 0 := by omega
              subst e0
              clear hl hb hst hs h0 hxy
              rw [Nat.add_zero] at hc
              have hkb0 : decide ((0 : Int) < (n : Int)) = true := by simp; omega
              have q20 : (0 : Int) < (n : Int) := by omega
              go_wp2
              all_goals
                go_ret3
                refine upost_some Hst.out _ _ ?_ (by omega) w
                first
                  | exact or0 v x Hv.out hx
                  | (have e0 : x = 0 := by assumption
                     subst e0
                     exact or0 v 0 Hv.out (by omega))
            · have q8 : ((x : Int) == 0) = false := by simp; omega
              clear hl hb hst hs h0 hxy
              go_wp2
              go_ret3
              refine upost_some Hst.out _ _ ?_ (by omega) w
              first | exact Hor.out | exact Hor'.out | (have := Hor.out; simpa using this) | (have := Hor'.out; simpa using this)
        · have hxy : x % 128 = x - 128 := by omega
          have q7 : ((x : Int) / 128 == 0) = false := by simp; omega
          rw [if_neg (by omega), if_neg hx, ← hs, ← hxy] at hst
          have Hst := Lib.hid hst
          have Hs := Lib.hid hs
          have hy := Nat.mod_lt x (show 0 < 128 by omega)
          have hnl := next_lt v (x % 128) k Hv.out hy
          rw [← hs] at hnl
          clear hl hb hst hs hxy
          generalize x % 128 = y at *
          have Hnl := Lib.hid hnl
          clear hnl
          go_wp2
          go_round
          case rel => exact ⟨k + 1, v + y * 2 ^ s, by omega, by go_num, by first | rfl | rw [hor'] | rw [hor], by omega, Hnl.out, Hst⟩
          case measure => simp [intOf]; omega
    · have hkb : decide ((k : Int) < (n : Int)) = false := by simp; omega
      have hst := HU.out
      rw [List.drop_eq_nil_of_le (by omega)] at hst
      have Hst : Hid (rdU l = none) := Lib.hid (by rw [hst]; rfl)
      clear hl hst
      go_wp2
      go_ret3
      exact upost_none Hst.out w
end Go.Proofs.Ytknllmcpogoeoaa
