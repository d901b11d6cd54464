/- One move of a play: the laws. -/
import Derived.Test.YtknllmcpogoeoaaT18
import Derived.Test.YtknllmcpogoeoaaK7
namespace Go.Proofs.Ytknllmcpogoeoaa
open Go.RowKit
set_option linter.unusedVariables false
set_option linter.unusedSimpArgs false
set_option maxRecDepth 100000
theorem fa168_0 (b : Nat) (w : World) : (Instr.fieldAt 168 (.pointer (some ⟨b, 0, none⟩)) 0).run Try.prog w = .ok (.pointer (some ⟨b, 0, none⟩)) w := by kernel_rfl
theorem fa168_1 (b : Nat) (w : World) : (Instr.fieldAt 168 (.pointer (some ⟨b, 0, none⟩)) 1).run Try.prog w = .ok (.pointer (some ⟨b, 1, none⟩)) w := by kernel_rfl
theorem fa168_2 (b : Nat) (w : World) : (Instr.fieldAt 168 (.pointer (some ⟨b, 0, none⟩)) 2).run Try.prog w = .ok (.pointer (some ⟨b, 2, none⟩)) w := by kernel_rfl
theorem fa168_3 (b : Nat) (w : World) : (Instr.fieldAt 168 (.pointer (some ⟨b, 0, none⟩)) 3).run Try.prog w = .ok (.pointer (some ⟨b, 3, none⟩)) w := by kernel_rfl
theorem fk154_0 (b k : Nat) (w : World) : (Instr.fieldAt 154 (.pointer (some ⟨b, k, none⟩)) 0).run Try.prog w = .ok (.pointer (some ⟨b, k, none⟩)) w := by kernel_rfl
theorem fk154_1 (b k : Nat) (w : World) : (Instr.fieldAt 154 (.pointer (some ⟨b, k, none⟩)) 1).run Try.prog w = .ok (.pointer (some ⟨b, k + 1, none⟩)) w := by kernel_rfl
theorem gb_ext {l m : List Bool} (hl : l.length = m.length) (h : ∀ k, k < l.length → gb l k = gb m k) : l = m := by
  apply List.ext_getElem hl
  intro k h1 h2
  have := h k h1
  unfold gb at this
  rw [List.getElem?_eq_getElem h1, List.getElem?_eq_getElem h2] at this
  simpa using this
theorem gb_off {l : List Bool} {k : Nat} (h : l.length ≤ k) : gb l k = false := by
  unfold gb
  rw [List.getElem?_eq_none h]; rfl
section
variable {p : Wp} {id : Nat} {file : List UInt8}
theorem Wok.out_lt (h : Wok p id file) (k : Nat) : (unm (gb p.s.acked) (chunksT p.s.file.length)).take k = (unm (gb p.ack) p.ack.length).take k := by
  rw [h.sfile, h.alen_, h.unm_]
theorem Wok.send (h : Wok p id file) (hl : p.fwd.length < 200) : Wok { p with fwd := p.fwd ++ (unm (gb p.s.acked) (chunksT p.s.file.length)).take 8, cks := p.cks ++ (unm (gb p.ack) p.ack.length).take 8 } id file := by
  refine ⟨h.sid, h.sfile, h.alen, h.rof, h.has, h.ack, ?_, ?_, ?_, h.aks, h.bok, h.ble, h.sub, h.idl, h.fll⟩
  · show p.cks ++ _ = p.fwd ++ _
    rw [h.cks, h.out_lt]
  · intro i hi
    rcases List.mem_append.1 hi with hi | hi
    · exact h.flt i hi
    · have := (mem_unm.1 (List.mem_of_mem_take hi)).1
      rw [h.sfile] at this
      exact this
  · show (p.fwd ++ _).length ≤ 207
    rw [List.length_append, List.length_take]; omega
theorem Wok.drop_ (h : Wok p id file) (i : Nat) : Wok { p with fwd := p.fwd.take i ++ p.fwd.drop (i + 1), cks := p.cks.take i ++ p.cks.drop (i + 1) } id file := by
  refine ⟨h.sid, h.sfile, h.alen, h.rof, h.has, h.ack, ?_, ?_, ?_, h.aks, h.bok, h.ble, h.sub, h.idl, h.fll⟩
  · show p.cks.take i ++ p.cks.drop (i + 1) = _
    rw [h.cks]
  · intro k hk
    rcases List.mem_append.1 hk with hk | hk
    · exact h.flt k (List.mem_of_mem_take hk)
    · exact h.flt k (List.mem_of_mem_drop hk)
  · have := h.fle
    show (p.fwd.take i ++ p.fwd.drop (i + 1)).length ≤ 207
    rw [List.length_append, List.length_take, List.length_drop]; omega
theorem Wok.got (h : Wok p id file) (r : Rcv) (K : r.of id file) (i : Nat) (hi : i < chunksT file.length) (hg : ∀ k, gb r.has k = (gb p.r.has k || decide (k = i))) : Wok { p with r := r, has := p.has.set i true } id file := by
  have hc := chunks_le h.fll
  refine ⟨h.sid, h.sfile, h.alen, K, ?_, h.ack, h.cks, h.flt, h.fle, h.aks, ?_, h.ble, ?_, h.idl, h.fll⟩
  · show p.has.set i true = r.has.take _
    refine gb_ext (by rw [List.length_set, h.hlen, take_len K.size hc]) (fun k hk => ?_)
    rw [List.length_set, h.hlen] at hk
    rw [gb_set _ _ _ (by rw [h.hlen]; exact hi), gb_take _ _ _ hk, hg, h.has, gb_take _ _ _ hk]
  · intro m hm
    refine ⟨(h.bok m hm).1, fun k hk => ?_⟩
    show gb r.has k = true
    rw [hg, (h.bok m hm).2 k hk]; rfl
  · intro k hk
    show gb r.has k = true
    rw [hg, h.sub k hk]; rfl
theorem Wok.tell (h : Wok p id file) (hl : p.bck.length < 100) : Wok { p with bck := p.bck ++ [p.r.has], aks := p.aks ++ [p.has] } id file := by
  refine ⟨h.sid, h.sfile, h.alen, h.rof, h.has, h.ack, h.cks, h.flt, h.fle, ?_, ?_, ?_, h.sub, h.idl, h.fll⟩
  · show p.aks ++ [p.has] = (p.bck ++ [p.r.has]).map _
    rw [List.map_append, h.aks, h.has]; rfl
  · intro m hm
    rcases List.mem_append.1 hm with hm | hm
    · exact h.bok m hm
    · simp only [List.mem_singleton] at hm
      subst hm
      exact ⟨h.rof.size, fun k hk => hk⟩
  · show (p.bck ++ [p.r.has]).length ≤ 100
    rw [List.length_append]
    simp only [List.length_singleton]; omega
theorem Wok.heard (h : Wok p id file) (s : Snd) (m : List Bool) (hm : m ∈ p.bck) (a : List Bool) (h1 : s.id = p.s.id) (h2 : s.file = p.s.file) (h3 : s.acked.length = 1024) (h4 : ∀ k, gb s.acked k = (gb p.s.acked k || gb m k))
    (h5 : a.length = p.ack.length) (h6 : ∀ k, k < a.length → gb a k = (gb p.ack k || gb (m.take (chunksT file.length)) k)) : Wok { p with s := s, ack := a } id file := by
  have hc := chunks_le h.fll
  refine ⟨h1.trans h.sid, h2.trans h.sfile, h3, h.rof, h.has, ?_, h.cks, h.flt, h.fle, h.aks, h.bok, h.ble, ?_, h.idl, h.fll⟩
  · show a = s.acked.take _
    refine gb_ext (by rw [h5, h.alen_, take_len h3 hc]) (fun k hk => ?_)
    have hk2 := hk
    rw [h5, h.alen_] at hk2
    rw [h6 k hk, gb_take _ _ _ hk2, gb_take _ _ _ hk2, h4, h.ack, gb_take _ _ _ hk2]
  · intro k hk
    have hk2 : gb s.acked k = true := hk
    rw [h4, Bool.or_eq_true] at hk2
    rcases hk2 with hk2 | hk2
    · exact h.sub k hk2
    · exact (h.bok m hm).2 k hk2
end
/-- what a move leaves behind -/
def DoPost (wB : World) (gw gs gr id : Nat) (file : List UInt8) (e : Ending) (w' : World) : Prop :=
  e = .returned (.bool true) ∧ ∃ V' p', Wd w' wB.heap.size gw gs gr V' p' ∧ Wok p' id file ∧ Ext wB w'
end Go.Proofs.Ytknllmcpogoeoaa
