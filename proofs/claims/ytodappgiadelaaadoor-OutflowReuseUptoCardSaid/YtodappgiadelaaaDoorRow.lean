/- More on rows that are held: this file names no program. -/
import Derived.Test.YtodappgiadelaaaDoorSet
set_option linter.unusedVariables false
set_option linter.unusedSimpArgs false
namespace Go.BK
open Go.RowKit
section
variable {w0 w : World} {S : Nat → Prop} {σ1 σ2 : Held}
theorem St.oldBk (H : St w0 No w (σ1 ++ σ2)) : ∀ b, b < w0.heap.size → ¬ Bk σ1 b := fun b hb h => by
  obtain ⟨c, hc, hcb⟩ := List.mem_flatMap.1 h
  have := (H.mem (List.mem_append_left _ hc) hcb).resolve_left (fun h => h)
  omega
theorem St.rowBk {c : Chunk} (H : St w0 S w (σ1 ++ σ2)) (hc : c ∈ σ2) : ∀ b, b ∈ c.blocks → ¬ Bk σ1 b := fun b hb h => by
  obtain ⟨d, hd, hdb⟩ := List.mem_flatMap.1 h
  exact Held.apart H.nd hd hc hdb hb
theorem St.rdC {α : Type} (k : Kd α) {σ : Held} {A : Option Addr} {c e n : Nat} {xs : List α} (H : St w0 S w σ) (i : Nat) (hσ : σ[i]? = some (.row e k.sz A n c (xs.flatMap k.enc))) : Rd k (fun b => b ∈ (Chunk.row e k.sz A n c (xs.flatMap k.enc)).blocks) w A c xs := by
  have h := (H.rd k i hσ).1
  refine ⟨h.1, fun hp => ?_⟩
  obtain ⟨b, o, h1, _, h3⟩ := h.2 hp
  exact ⟨b, o, h1, by subst h1; simp [Chunk.blocks], h3⟩
theorem St.rowLen {σ : Held} (H : St w0 S w σ) (i : Nat) {e sz n c : Nat} {A : Option Addr} {xs : List Value} (hσ : σ[i]? = some (.row e sz A n c xs)) : n ≤ maxLen := by
  obtain ⟨_, h | ⟨g, cap, cur, he, _, _, h1, h2, _⟩⟩ := (H.cont _ (List.mem_of_getElem? hσ)).1
  · rw [h.2]; exact Nat.zero_le _
  · exact Nat.le_trans h1 h2
theorem Rd.andLt {α : Type} {k : Kd α} {G : Nat → Prop} {A : Option Addr} {c : Nat} {xs : List α} (h : Rd k G w A c xs) : Rd k (fun b => G b ∧ b < w.heap.size) w A c xs :=
  ⟨h.1, fun hp => by
    obtain ⟨b, o, h1, h2, h3⟩ := h.2 hp
    obtain ⟨b', o', h1', h2', _⟩ := h.lt.2 hp
    rw [h1] at h1'
    cases h1'
    exact ⟨b, o, h1, ⟨h2, h2'⟩, h3⟩⟩
theorem Bk.lt {σ : Held} (H : St w0 S w σ) {b : Nat} (h : Bk σ b) : b < w.heap.size := by
  obtain ⟨c, hc, hcb⟩ := List.mem_flatMap.1 h
  exact H.lt hc hcb
end
end Go.BK
