/- Plain laws of frames: a frame stands where it was written; the parts of frames in a row. -/
import Derived.Test.YtknllmcpogoeoaaBd
namespace Go.Proofs.Ytknllmcpogoeoaa
open Go.RowKit
set_option linter.unusedVariables false
set_option linter.unusedSimpArgs false
theorem frame_stands (b r : List UInt8) (h : b.length ≤ 4000) :
    stb (frameOf b ++ r) = true ∧ n2 (frameOf b ++ r) = b.length ∧ st (frameOf b ++ r) = 8 + b.length ∧ ((frameOf b ++ r).drop 8).take b.length = b ∧ (frameOf b ++ r).drop (8 + b.length) = r := by
  have e2 : n2 (frameOf b ++ r) = b.length := by
    simp only [n2, nn, frameOf, hdr, le32]
    simp
    omega
  have hl : (frameOf b ++ r).length = 8 + b.length + r.length := by rw [List.length_append, frameOf_len]
  have hh : hd4 (frameOf b ++ r) := by
    refine ⟨by omega, ?_, ?_, by omega, by omega⟩ <;> simp [nn, frameOf]
  have hd : ((frameOf b ++ r).drop 8).take b.length = b := by
    have : (frameOf b ++ r).drop 8 = b ++ r := by simp [frameOf, hdr, le32]
    rw [this]; simp
  have hs : stb (frameOf b ++ r) = true := by
    refine stb_of hh ((frame_iff hh).1 ?_)
    rw [e2, hd, ← frameOf_len b]
    simp
  refine ⟨hs, e2, by rw [st_yes hs, e2], hd, ?_⟩
  rw [← frameOf_len b]; simp
theorem stb_cons_ne {x : UInt8} {r : List UInt8} (h : x ≠ 165) : stb (x :: r) = false := stb_not (fun hh => h (by
  have := hh.2.1
  simp [nn] at this
  exact u8_eq _ _ (by rw [this]; rfl)))
theorem scanP_frame (off : Nat) (b r : List UInt8) (h : b.length ≤ 4000) : scanP off (frameOf b ++ r) = ⟨off, 8 + b.length, b, true⟩ :: scanP (off + (8 + b.length)) r := by
  obtain ⟨h1, h2, h3, h4, h5⟩ := frame_stands b r h
  rw [scanP_good h1, h2, h3, h4, h5]
def fileOf (ls : List (List UInt8)) : List UInt8 := ls.flatMap frameOf
theorem bodL_cons (p : PartS) (D : List PartS) : bodL (p :: D) = (if p.good then [p.body] else []) ++ bodL D := by
  unfold bodL; cases h : p.good <;> simp [h]
theorem lostL_cons (p : PartS) (D : List PartS) : lostL (p :: D) = (if p.good then 0 else p.len) + lostL D := by
  unfold lostL; cases h : p.good <;> simp [h]
/-- the example of law03 -/
theorem awake_file : bodL (scanP 0 (0 :: frameOf [97])) = [[97]] ∧ lostL (scanP 0 (0 :: frameOf [97])) = 1 := by
  have hs : stb (0 :: frameOf [97]) = false := stb_cons_ne (by decide)
  obtain ⟨h1, h2, h3, h4, h5⟩ := frame_stands [97] [] (by decide)
  rw [List.append_nil] at h1
  have hj : junk (0 :: frameOf [97]) = 1 := by
    refine junk_eq _ 1 (by simp) (fun j hj => ?_) (.inr h1)
    rw [show j = 0 by omega]
    exact hs
  have hsc := scanP_frame (0 + 1) [97] [] (by decide)
  rw [List.append_nil] at hsc
  rw [scanP_bad (by simp) hs, hj]
  show bodL (_ :: scanP (0 + 1) (frameOf [97])) = _ ∧ lostL (_ :: scanP (0 + 1) (frameOf [97])) = _
  rw [hsc, scanP_nil, bodL_cons, bodL_cons, lostL_cons, lostL_cons]
  exact ⟨rfl, rfl⟩
end Go.Proofs.Ytknllmcpogoeoaa
