/- What the bound on the arguments' bulk gives. -/
import Derived.Test.YtcmolgiccccnoaaWe
import Derived.Test.YtcmolgiccccnoaaBulk
set_option linter.unusedVariables false
set_option linter.unusedSimpArgs false
namespace Go.Proofs.Ytcmolgiccccnoaa
open Go.RowKit Go.BK
theorem le_sml {n : Nat} (h : n ≤ 1048576) : Sml n := Nat.le_trans h (by decide)
theorem RdL.small {H : Type} {w : World} {v : Value} {d : DataW H} {A : Option Addr} {c : Nat} {xs : List Flt} (h : RdL w v d A c xs) {B : Nat} (hb : Rows.uptoBulk d ≤ B) : xs.length ≤ B ∧ ∀ f ∈ xs, f.name.length ≤ B ∧ f.value.length ≤ B := by
  obtain ⟨_, _, h | ⟨Ds, rest, rfl, hl, hd⟩⟩ := h
  · obtain ⟨_, rfl⟩ := h
    exact ⟨Nat.zero_le _, by simp⟩
  · have h1 := bulks.slice_le Ds rest
    have h2 := bulks.slice_elems Ds rest
    refine ⟨by omega, fun f hf => ?_⟩
    obtain ⟨i, hi⟩ := List.getElem?_of_mem hf
    obtain ⟨d', h3, rfl⟩ := hd i f hi
    have h4 := bulks.part_le (List.mem_of_getElem? h3)
    have h5 : f.name.length + f.value.length ≤ Rows.uptoBulk (dFl (H := H) f) := by simp [dFl, Rows.uptoBulk, Rows.uptoBulkAll]; omega
    omega
theorem RdF.small {H : Type} {w : World} {v : Value} {d : DataW H} {A : Option Addr} {c : Nat} {xs : List Fld} (h : RdF w v d A c xs) {B : Nat} (hb : Rows.uptoBulk d ≤ B) : xs.length ≤ B ∧ ∀ f ∈ xs, f.1.length ≤ B ∧ f.2.length ≤ B := by
  obtain ⟨_, _, h | ⟨Ds, rest, rfl, hl, hd⟩⟩ := h
  · obtain ⟨_, rfl⟩ := h
    exact ⟨Nat.zero_le _, by simp⟩
  · have h1 := bulks.slice_le Ds rest
    have h2 := bulks.slice_elems Ds rest
    refine ⟨by omega, fun f hf => ?_⟩
    obtain ⟨i, hi⟩ := List.getElem?_of_mem hf
    obtain ⟨d', h3, rfl⟩ := hd i f hi
    have h4 := bulks.part_le (List.mem_of_getElem? h3)
    have h5 : f.1.length + f.2.length ≤ Rows.uptoBulk (dFd (H := H) f) := by simp [dFd, Rows.uptoBulk, Rows.uptoBulkAll]; omega
    omega
end Go.Proofs.Ytcmolgiccccnoaa
