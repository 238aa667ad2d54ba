/- What the bound on the arguments' bulk gives. -/
import Derived.Test.YtodappgiadelaaaDoorXw
import Derived.Test.YtodappgiadelaaaDoorBulk
set_option linter.unusedVariables false
set_option linter.unusedSimpArgs false
namespace Go.Proofs.YtodappgiadelaaaDoor
open Go.RowKit Go.BK
theorem le_sml {n : Nat} (h : n ≤ 1048576) : Sml n := Nat.le_trans h (by decide)
theorem sum_bulk {H : Type} : ∀ {xs : List Bs} {Ds : List (DataW H)}, Ds.length = xs.length → (∀ (i : Nat) (a : Bs), xs[i]? = some a → ∃ d', Ds[i]? = some d' ∧ d' = .lit (.string a)) → tot xs + xs.length ≤ Rows.uptoBulkAll Ds
  | [], Ds, _, _ => by simp [tot]
  | x :: xs, [], h, _ => by simp at h
  | x :: xs, D :: Ds, hl, h => by
    obtain ⟨d', h1, rfl⟩ := h 0 x rfl
    obtain rfl : D = .lit (.string x) := by simpa using h1
    have ih := sum_bulk (xs := xs) (Ds := Ds) (by simpa using hl) (fun i a ha => h (i + 1) a (by simpa using ha))
    simp only [Rows.uptoBulkAll, Rows.uptoBulk, tot, List.map_cons, List.sum_cons, List.length_cons] at ih ⊢
    omega
theorem RdSS.small {H : Type} {w : World} {v : Value} {d : DataW H} {A : Option Addr} {c : Nat} {xs : List Bs} (h : RdSS w v d A c xs) {B : Nat} (hb : Rows.uptoBulk d ≤ B) : xs.length ≤ B ∧ tot xs ≤ B := by
  obtain ⟨_, _, h | ⟨Ds, rest, rfl, hl, hd⟩⟩ := h
  · obtain ⟨_, rfl⟩ := h
    exact ⟨Nat.zero_le _, by simp [tot]⟩
  · have h2 := bulks.slice_elems Ds rest
    have h3 := sum_bulk hl hd
    omega
theorem RdII.small {H : Type} {w : World} {v : Value} {d : DataW H} {A : Option Addr} {c : Nat} {xs : List Int} (h : RdII w v d A c xs) {B : Nat} (hb : Rows.uptoBulk d ≤ B) : xs.length ≤ B := by
  obtain ⟨_, _, h | ⟨Ds, rest, rfl, hl, hd⟩⟩ := h
  · obtain ⟨_, rfl⟩ := h
    exact Nat.zero_le _
  · have h1 := bulks.slice_le Ds rest
    omega
end Go.Proofs.YtodappgiadelaaaDoor
