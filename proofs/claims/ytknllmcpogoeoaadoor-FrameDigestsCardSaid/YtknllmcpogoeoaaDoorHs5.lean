/- Strings out of bytes, digests compared, hexadecimal digits. -/
import Derived.Test.YtknllmcpogoeoaaDoorD8
import Derived.Stop.BytesEq
import Derived.Lib.SlBytesConst
import Derived.Laws.IdiomStrings
namespace Go.Proofs.YtknllmcpogoeoaaDoor
open Go.RowKit
set_option linter.unusedVariables false
set_option linter.unusedSimpArgs false
section
variable {P : Program} {a : Act} {N : Nat} {l : List (Nat × Value)} {w : World} {o : Oper} {v : Value} {Q : Exit → Act → World → Prop} {ops : Array Oper} {rest : List Oper} {d : Nat}
theorem e_callqg (H : Has a N l) {f : FuncId} {xs : List Operand} {ts : Array TypeId} {vs : List Value} (hw : Region.wanted o (yielded ops a.tmps) = true) (hd : o.dst = some d) (hdN : d < N)
    (ho : o.op = .call { callee := .value (.func f), args := xs.toArray, argTypes := ts }) (he : evs l xs = some vs) (hent : ∀ w, (callFunc f vs.toArray).run P w = .ok (.enter f vs.toArray) w)
    {S : Ending → World → Prop} (C : Calls P f vs.toArray w S)
    (k : ∀ e w', S e w' → ∃ v, e = .returned v ∧ ∀ a, Has a N ((d, v) :: l) → wpList P ops Q rest a w') : wpList P ops Q (o :: rest) a w := by
  refine wpList_step fun K hK => ?_
  rw [if_pos hw]
  unfold Oper.wp
  rw [run_call H ho he (hent w), Oper.upon_enter]
  refine C.mono ?_
  intro e w1 hS
  obtain ⟨v, rfl, h⟩ := k e w1 hS
  rw [hd]
  exact hK _ _ (h _ (H.put hdN))
end
theorem conv_bs {w : World} {a : Option Addr} {len cap : Nat} {l : List UInt8} (h : Bs w a len l) : (convert 22 9 (.slice a len cap)).run Tryd.prog w = .ok (.string ⟨l.toArray⟩) w := by
  have hl := h.leng
  cases a with
  | none =>
    have : l = [] := by
      cases l with
      | nil => rfl
      | cons x r =>
        obtain ⟨b, off, e, _⟩ := h.cell 0 (by simp at hl; omega)
        cases e
    subst this
    exact run_convert_bytes_nil w 22 5 Tryd.underlying22 Tryd.underlying5 len cap 9 Tryd.underlying9
  | some ad =>
    rw [← hl]
    refine run_convert_bytes_back w 22 9 5 ad cap l Tryd.underlying22 Tryd.underlying5 Tryd.underlying9 (fun j hj => ?_)
    obtain ⟨b, off, e, hc⟩ := h.cell j (by omega)
    simp only [Option.some.injEq] at e
    subst e
    rw [Addr.add_lit, hc]
    simp [nb, hj]
theorem bi_min {P : Program} {w : World} {ts : Array TypeId} {ty : TypeId} {cs : Array Bool} {k k' : IntKind} {x y z : Int} (h : (if y < x then y else x) = z) : (builtin .min ts ty cs #[.int k x, .int k' y]).run P w = .ok (.value (.int k z)) w := by
  subst h
  simp only [builtin, Sem.run_bind, run_min_int2, Result.andThen_ok, Sem.run_pure]
theorem u8s_cell (l : List UInt8) : u8s l = l.map Extern.Stop.cell := rfl
theorem eqg26 {x y : Operand} {a b : Array Value} {w : World} : (eqGuard .eql 26 x y (.agg a) (.agg b)).run Tryd.prog w = .ok () w := by
  simp only [eqGuard, Sem.run_bind, run_program, Result.andThen_ok, Tryd.eqGuardType26]
  rfl
theorem eqn26 {x y : Operand} {a b : Array Value} {w : World} : (eqGuard .neq 26 x y (.agg a) (.agg b)).run Tryd.prog w = .ok () w := by
  simp only [eqGuard, Sem.run_bind, run_program, Result.andThen_ok, Tryd.eqGuardType26]
  rfl
theorem eql26 {xs ys : List UInt8} {w : World} {c : Bool} (hx : xs.length = 32) (hy : ys.length = 32) (h : (xs == ys) = c) : (binOp .eql 26 (.agg (u8s xs).toArray) (.agg (u8s ys).toArray)).run Tryd.prog w = .ok (.bool c) w := by
  subst h
  exact run_eql_bytes w 26 5 32 Tryd.underlying26 Tryd.underlying5 Tryd.sizeOf5 xs ys hx hy
theorem eql9 {s t : ByteArray} {w : World} (h : s = t) : (binOp .eql 9 (.string s) (.string t)).run Tryd.prog w = .ok (.bool true) w := by
  subst h
  simp [binOp, Op.stringOp]
theorem eqg9 {x y : Operand} {s : ByteArray} {v : Value} {w : World} : (eqGuard .eql 9 x y (.string s) v).run Tryd.prog w = .ok () w := by
  rw [eqGuard_at_string]; rfl
theorem bs2 (i j : Int) (w : World) : (Instr.buildSlice 22 2 #[(0, .int .u8 i), (1, .int .u8 j)]).run Tryd.prog w = .ok (.slice (some ⟨w.heap.size, 0, none⟩) 2 2) (w.alloc (.cells #[.int .u8 i, .int .u8 j] 5)) := by kernel_rfl
/-- the first i bytes' digits -/
theorem hex_app (l r : List UInt8) : hex (l ++ r) = hex l ++ hex r := by simp [hex]
theorem hex_len (l : List UInt8) : (hex l).length = 2 * l.length := by
  induction l with
  | nil => rfl
  | cons x r ih =>
    rw [show x :: r = [x] ++ r from rfl, hex_app, List.length_append, ih]
    simp [hex]
    omega
theorem and15 : ∀ m : Fin 256, bits .and .u8 (m.val : Int) 15 = ((m.val % 16 : Nat) : Int) := by decide +kernel
theorem hexd_fin : ∀ m : Fin 16, ([48, 49, 50, 51, 52, 53, 54, 55, 56, 57, 97, 98, 99, 100, 101, 102] : List UInt8)[m.val]?.getD 0 = hexd m.val := by decide +kernel
theorem hexd_at (m : Nat) (h : m < 16) : ([48, 49, 50, 51, 52, 53, 54, 55, 56, 57, 97, 98, 99, 100, 101, 102] : List UInt8)[m]?.getD 0 = hexd m := hexd_fin ⟨m, h⟩
def HX : ByteArray := ⟨#[48, 49, 50, 51, 52, 53, 54, 55, 56, 57, 97, 98, 99, 100, 101, 102]⟩
theorem idx_hx {w : World} {m : Nat} {i : Int} (hi : i = (m : Int)) (hm : m < 16) : (Instr.index 9 (.string HX) (.int .u8 i)).run Tryd.prog w = .ok (.int .u8 ((hexd m).toNat : Int)) w := by
  have h := idx_str (P := Tryd.prog) (w := w) (t := 9) (s := HX) (q := .u8) (i := i) (m := m) Tryd.underlying9 hi (by show m < 16; exact hm)
  rw [h, ← hexd_at m hm]
  rfl
theorem Bs.mark (w : World) (g : Nat) (hg : g = w.heap.size) (cs : Array Value) (fr : Nat × Nat) (n : Nat) (l : List UInt8) (hl : l.length = n) (h : cs.toList = u8s l) : Bs (w.alloc (.cells cs 5 fr)) (some ⟨g, 0, none⟩) n l := by
  subst hg
  refine ⟨hl, fun k hk => ⟨w.heap.size, 0, rfl, ?_⟩⟩
  rw [World.cell?_alloc_mark, ← Array.getElem?_toList, h, Nat.zero_add]
  exact u8s_get l k (by omega)
theorem u8s_two (x y : UInt8) : (#[.int .u8 (x.toNat : Int), .int .u8 (y.toNat : Int)] : Array Value).toList = u8s [x, y] := rfl
end Go.Proofs.YtknllmcpogoeoaaDoor
