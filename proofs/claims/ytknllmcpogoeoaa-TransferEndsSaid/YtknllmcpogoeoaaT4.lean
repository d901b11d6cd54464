/- A sender and a receiver in memory; rows of marks, of numbers and of packets. -/
import Derived.Test.YtknllmcpogoeoaaT3
import Derived.Test.YtknllmcpogoeoaaEg
namespace Go.Proofs.Ytknllmcpogoeoaa
open Go.RowKit
set_option linter.unusedVariables false
set_option linter.unusedSimpArgs false
set_option maxRecDepth 100000
def bools (l : List Bool) : List Value := l.map Value.bool
theorem bools_len (l : List Bool) : (bools l).length = l.length := by simp [bools]
theorem bools_get (l : List Bool) (k : Nat) (h : k < l.length) : (bools l)[k]? = some (.bool (gb l k)) := by
  unfold bools
  rw [List.getElem?_map, gb_get l k h]; rfl
theorem bools_one (l : List Bool) : ∀ u ∈ bools l, u.oneCell' = true := by
  intro u hu
  obtain ⟨_, _, rfl⟩ := List.mem_map.1 hu
  rfl
theorem bools_set (l : List Bool) (k : Nat) (b : Bool) : (bools l).set k (.bool b) = bools (l.set k b) := by simp [bools]
def noMarks : List Bool := List.replicate 1024 false
def sndCells (id : Int) (v : Value) (acked : List Bool) : List Value := .int .u32 id :: v :: bools acked
def rcvCells (id : Int) (known : Bool) (v : Value) (has : List Bool) : List Value := .int .u32 id :: .bool known :: v :: bools has
theorem bld184 (id : Int) (a : Option Addr) (n c : Nat) (w : World) : (Instr.build 184 #[(0, .int .u32 id), (1, .slice a n c)]).run Try.prog w = .ok (.agg (sndCells id (.slice a n c) noMarks).toArray) w := by kernel_rfl
theorem bld181 (id : Int) (w : World) : (Instr.build 181 #[(0, .int .u32 id)]).run Try.prog w = .ok (.agg (rcvCells id false (.slice none 0 0) noMarks).toArray) w := by kernel_rfl
theorem fa184_0 (b : Nat) (w : World) : (Instr.fieldAt 184 (.pointer (some ⟨b, 0, none⟩)) 0).run Try.prog w = .ok (.pointer (some ⟨b, 0, none⟩)) w := by kernel_rfl
theorem fa184_1 (b : Nat) (w : World) : (Instr.fieldAt 184 (.pointer (some ⟨b, 0, none⟩)) 1).run Try.prog w = .ok (.pointer (some ⟨b, 1, none⟩)) w := by kernel_rfl
theorem fa184_2 (b : Nat) (w : World) : (Instr.fieldAt 184 (.pointer (some ⟨b, 0, none⟩)) 2).run Try.prog w = .ok (.pointer (some ⟨b, 2, none⟩)) w := by kernel_rfl
theorem fa181_0 (b : Nat) (w : World) : (Instr.fieldAt 181 (.pointer (some ⟨b, 0, none⟩)) 0).run Try.prog w = .ok (.pointer (some ⟨b, 0, none⟩)) w := by kernel_rfl
theorem fa181_1 (b : Nat) (w : World) : (Instr.fieldAt 181 (.pointer (some ⟨b, 0, none⟩)) 1).run Try.prog w = .ok (.pointer (some ⟨b, 1, none⟩)) w := by kernel_rfl
theorem fa181_2 (b : Nat) (w : World) : (Instr.fieldAt 181 (.pointer (some ⟨b, 0, none⟩)) 2).run Try.prog w = .ok (.pointer (some ⟨b, 2, none⟩)) w := by kernel_rfl
theorem fa181_3 (b : Nat) (w : World) : (Instr.fieldAt 181 (.pointer (some ⟨b, 0, none⟩)) 3).run Try.prog w = .ok (.pointer (some ⟨b, 3, none⟩)) w := by kernel_rfl
theorem fa158_0 (b : Nat) (w : World) : (Instr.fieldAt 158 (.pointer (some ⟨b, 0, none⟩)) 0).run Try.prog w = .ok (.pointer (some ⟨b, 0, none⟩)) w := by kernel_rfl
theorem fa158_1 (b : Nat) (w : World) : (Instr.fieldAt 158 (.pointer (some ⟨b, 0, none⟩)) 1).run Try.prog w = .ok (.pointer (some ⟨b, 1, none⟩)) w := by kernel_rfl
theorem fa158_2 (b : Nat) (w : World) : (Instr.fieldAt 158 (.pointer (some ⟨b, 0, none⟩)) 2).run Try.prog w = .ok (.pointer (some ⟨b, 2, none⟩)) w := by kernel_rfl
theorem fa158_3 (b : Nat) (w : World) : (Instr.fieldAt 158 (.pointer (some ⟨b, 0, none⟩)) 3).run Try.prog w = .ok (.pointer (some ⟨b, 4, none⟩)) w := by kernel_rfl
theorem fa158_4 (b : Nat) (w : World) : (Instr.fieldAt 158 (.pointer (some ⟨b, 0, none⟩)) 4).run Try.prog w = .ok (.pointer (some ⟨b, 5, none⟩)) w := by kernel_rfl
theorem fa158_5 (b : Nat) (w : World) : (Instr.fieldAt 158 (.pointer (some ⟨b, 0, none⟩)) 5).run Try.prog w = .ok (.pointer (some ⟨b, 6, none⟩)) w := by kernel_rfl
theorem fa158_6 (b : Nat) (w : World) : (Instr.fieldAt 158 (.pointer (some ⟨b, 0, none⟩)) 6).run Try.prog w = .ok (.pointer (some ⟨b, 7, none⟩)) w := by kernel_rfl
theorem fa158_7 (b : Nat) (w : World) : (Instr.fieldAt 158 (.pointer (some ⟨b, 0, none⟩)) 7).run Try.prog w = .ok (.pointer (some ⟨b, 8, none⟩)) w := by kernel_rfl
theorem fa154_0 (b o : Nat) (w : World) : (Instr.fieldAt 154 (.pointer (some ⟨b, o, none⟩)) 0).run Try.prog w = .ok (.pointer (some ⟨b, o, none⟩)) w := by kernel_rfl
theorem fa154_1 (b o : Nat) (w : World) : (Instr.fieldAt 154 (.pointer (some ⟨b, o, none⟩)) 1).run Try.prog w = .ok (.pointer (some ⟨b, o + 1, none⟩)) w := by kernel_rfl
theorem el152 : ElemT 152 4 1 1 (.bool false) := ⟨Try.underlying152, by kernel_rfl, rfl, by decide⟩
theorem el155 : ElemT 155 3 1 8 (.int .i64 0) := ⟨Try.underlying155, by kernel_rfl, rfl, by decide⟩
theorem el156 : ElemT 156 152 1 24 (.slice none 0 0) := ⟨Try.underlying156, by kernel_rfl, rfl, by decide⟩
theorem size158 : (Try.prog.info? 158).map (·.size) = some 9 := by kernel_rfl
theorem size181 : (Try.prog.info? 181).map (·.size) = some 1027 := by kernel_rfl
theorem size184 : (Try.prog.info? 184).map (·.size) = some 1026 := by kernel_rfl
theorem size179 (w : World) : (sizeOf 179).run Try.prog w = .ok 1024 w := by kernel_rfl
theorem isAgg179 (w : World) : (isAgg 179).run Try.prog w = .ok true w := by kernel_rfl
end Go.Proofs.Ytknllmcpogoeoaa
