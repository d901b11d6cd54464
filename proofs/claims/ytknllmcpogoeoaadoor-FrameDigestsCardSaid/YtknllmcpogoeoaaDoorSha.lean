/- SHA-256 as plain functions on bit vectors: rounds, schedule, blocks, padding; that blocks of a longer message are those of its beginning. No program is in sight. -/
import Derived.WalkKit
namespace Go.Proofs.YtknllmcpogoeoaaDoor
set_option linter.unusedVariables false
set_option linter.unusedSimpArgs false

def rr (x : BitVec 32) (n : Nat) : BitVec 32 := (x >>> n) ||| (x <<< (32 - n))
def sg0 (x : BitVec 32) : BitVec 32 := rr x 7 ^^^ rr x 18 ^^^ (x >>> 3)
def sg1 (x : BitVec 32) : BitVec 32 := rr x 17 ^^^ rr x 19 ^^^ (x >>> 10)
def bg0 (x : BitVec 32) : BitVec 32 := rr x 2 ^^^ rr x 13 ^^^ rr x 22
def bg1 (x : BitVec 32) : BitVec 32 := rr x 6 ^^^ rr x 11 ^^^ rr x 25
def cho (e f g : BitVec 32) : BitVec 32 := (e &&& f) ^^^ (~~~ e &&& g)
def maj (a b c : BitVec 32) : BitVec 32 := (a &&& b) ^^^ (a &&& c) ^^^ (b &&& c)
def wat (l : List (BitVec 32)) (i : Nat) : BitVec 32 := l[i]?.getD 0#32
structure S8 where
  (a b c d e f g h : BitVec 32)
def S8.l (s : S8) : List (BitVec 32) := [s.a, s.b, s.c, s.d, s.e, s.f, s.g, s.h]
def tt1 (s : S8) (k w : BitVec 32) : BitVec 32 := s.h + bg1 s.e + cho s.e s.f s.g + k + w
def tt2 (s : S8) : BitVec 32 := bg0 s.a + maj s.a s.b s.c
def rnd (s : S8) (k w : BitVec 32) : S8 := ⟨tt1 s k w + tt2 s, s.a, s.b, s.c, s.d + tt1 s k w, s.e, s.f, s.g⟩
def kc : List (BitVec 32) := [
  0x428a2f98#32, 0x71374491#32, 0xb5c0fbcf#32, 0xe9b5dba5#32, 0x3956c25b#32, 0x59f111f1#32, 0x923f82a4#32, 0xab1c5ed5#32,
  0xd807aa98#32, 0x12835b01#32, 0x243185be#32, 0x550c7dc3#32, 0x72be5d74#32, 0x80deb1fe#32, 0x9bdc06a7#32, 0xc19bf174#32,
  0xe49b69c1#32, 0xefbe4786#32, 0x0fc19dc6#32, 0x240ca1cc#32, 0x2de92c6f#32, 0x4a7484aa#32, 0x5cb0a9dc#32, 0x76f988da#32,
  0x983e5152#32, 0xa831c66d#32, 0xb00327c8#32, 0xbf597fc7#32, 0xc6e00bf3#32, 0xd5a79147#32, 0x06ca6351#32, 0x14292967#32,
  0x27b70a85#32, 0x2e1b2138#32, 0x4d2c6dfc#32, 0x53380d13#32, 0x650a7354#32, 0x766a0abb#32, 0x81c2c92e#32, 0x92722c85#32,
  0xa2bfe8a1#32, 0xa81a664b#32, 0xc24b8b70#32, 0xc76c51a3#32, 0xd192e819#32, 0xd6990624#32, 0xf40e3585#32, 0x106aa070#32,
  0x19a4c116#32, 0x1e376c08#32, 0x2748774c#32, 0x34b0bcb5#32, 0x391c0cb3#32, 0x4ed8aa4a#32, 0x5b9cca4f#32, 0x682e6ff3#32,
  0x748f82ee#32, 0x78a5636f#32, 0x84c87814#32, 0x8cc70208#32, 0x90befffa#32, 0xa4506ceb#32, 0xbef9a3f7#32, 0xc67178f2#32]
def st0 : S8 := ⟨0x6a09e667#32, 0xbb67ae85#32, 0x3c6ef372#32, 0xa54ff53a#32, 0x510e527f#32, 0x9b05688c#32, 0x1f83d9ab#32, 0x5be0cd19#32⟩
def rnds (s : S8) (ws : List (BitVec 32)) : Nat → S8
  | 0 => s
  | t + 1 => rnd (rnds s ws t) (wat kc t) (wat ws t)
/-- byte k of a list -/
def bt (l : List UInt8) (k : Nat) : Nat := (l[k]?.getD 0).toNat
theorem bt_lt (l : List UInt8) (k : Nat) : bt l k < 256 := (l[k]?.getD 0).toNat_lt
def word (b : List UInt8) (i : Nat) : BitVec 32 := BitVec.ofNat 32 (((bt b (4 * i) * 256 + bt b (4 * i + 1)) * 256 + bt b (4 * i + 2)) * 256 + bt b (4 * i + 3))
/-- the first t words of the schedule, up to 16 -/
def sch0 (b : List UInt8) (t : Nat) : List (BitVec 32) := (List.range t).map (word b)
def nxt (l : List (BitVec 32)) (t : Nat) : BitVec 32 := wat l t + sg0 (wat l (t + 1)) + wat l (t + 9) + sg1 (wat l (t + 14))
/-- the schedule's first 16 + t words -/
def sch (b : List UInt8) : Nat → List (BitVec 32)
  | 0 => sch0 b 16
  | t + 1 => sch b t ++ [nxt (sch b t) t]
theorem sch0_len (b : List UInt8) (t : Nat) : (sch0 b t).length = t := by simp [sch0]
theorem sch0_succ (b : List UInt8) (t : Nat) : sch0 b (t + 1) = sch0 b t ++ [word b t] := by simp [sch0, List.range_succ]
theorem sch_len (b : List UInt8) (t : Nat) : (sch b t).length = 16 + t := by
  induction t with
  | zero => exact sch0_len b 16
  | succ t ih => simp [sch, ih]; omega
def add8 (s r : S8) : S8 := ⟨s.a + r.a, s.b + r.b, s.c + r.c, s.d + r.d, s.e + r.e, s.f + r.f, s.g + r.g, s.h + r.h⟩
def cmpr (s : S8) (b : List UInt8) : S8 := add8 s (rnds s (sch b 48) 64)
/-- the state behind the first n blocks -/
def blk (l : List UInt8) : Nat → S8
  | 0 => st0
  | n + 1 => cmpr (blk l n) ((l.drop (64 * n)).take 64)
theorem blk_app (l r : List UInt8) : ∀ n, 64 * n ≤ l.length → blk (l ++ r) n = blk l n := by
  intro n
  induction n with
  | zero => intro _; rfl
  | succ n ih =>
    intro h
    simp only [blk]
    rw [ih (by omega), List.drop_append_of_le_length (by omega), List.take_append_of_le_length (by simp; omega)]
def be8 (n : Nat) : List UInt8 := (List.range 8).map fun i => UInt8.ofNat (n / 2 ^ (56 - 8 * i))
theorem be8_len (n : Nat) : (be8 n).length = 8 := by simp [be8]
/-- how many bytes stand ahead of the length -/
def padn (n : Nat) : Nat := if n % 64 < 56 then 56 - n % 64 else 120 - n % 64
def pad1 (n : Nat) : List UInt8 := 128 :: List.replicate (padn n - 1) 0
theorem padn_pos (n : Nat) : 0 < padn n ∧ padn n ≤ 64 := by unfold padn; split <;> omega
theorem pad1_len (n : Nat) : (pad1 n).length = padn n := by have := padn_pos n; simp [pad1]; omega
def padded (l : List UInt8) : List UInt8 := l ++ (pad1 l.length ++ be8 (8 * l.length % 18446744073709551616))
theorem padded_len (l : List UInt8) : (padded l).length = l.length + padn l.length + 8 := by
  simp [padded, pad1_len, be8_len]; omega
theorem padded_mod (l : List UInt8) : (padded l).length % 64 = 0 := by
  rw [padded_len]; unfold padn; split <;> omega
def out8 (s : S8) : List UInt8 := s.l.flatMap fun x => [UInt8.ofNat (x.toNat / 16777216), UInt8.ofNat (x.toNat / 65536), UInt8.ofNat (x.toNat / 256), UInt8.ofNat x.toNat]
theorem out8_len (s : S8) : (out8 s).length = 32 := by simp [out8, S8.l]
def sha (l : List UInt8) : List UInt8 := out8 (blk (padded l) ((padded l).length / 64))
theorem sha_len (l : List UInt8) : (sha l).length = 32 := out8_len _
def hexd (n : Nat) : UInt8 := if n < 10 then UInt8.ofNat (48 + n) else UInt8.ofNat (87 + n)
def hex (l : List UInt8) : List UInt8 := l.flatMap fun x => [hexd (x.toNat / 16), hexd (x.toNat % 16)]
theorem sha_nil : hex (sha []) = [101, 51, 98, 48, 99, 52, 52, 50, 57, 56, 102, 99, 49, 99, 49, 52, 57, 97, 102, 98, 102, 52, 99, 56, 57, 57, 54, 102, 98, 57, 50, 52, 50, 55, 97, 101, 52, 49, 101, 52, 54, 52, 57, 98, 57, 51, 52, 99, 97, 52, 57, 53, 57, 57, 49, 98, 55, 56, 53, 50, 98, 56, 53, 53] := by kernel_rfl
theorem sha_abc : hex (sha [97, 98, 99]) = [98, 97, 55, 56, 49, 54, 98, 102, 56, 102, 48, 49, 99, 102, 101, 97, 52, 49, 52, 49, 52, 48, 100, 101, 53, 100, 97, 101, 50, 50, 50, 51, 98, 48, 48, 51, 54, 49, 97, 51, 57, 54, 49, 55, 55, 97, 57, 99, 98, 52, 49, 48, 102, 102, 54, 49, 102, 50, 48, 48, 49, 53, 97, 100] := by kernel_rfl
end Go.Proofs.YtknllmcpogoeoaaDoor
