/- What the bound on a script's bulk gives. -/
import Derived.Test.YtcmolgiccccnoaaWel
import Derived.Test.YtcmolgiccccnoaaWo
set_option linter.unusedVariables false
set_option linter.unusedSimpArgs false
namespace Go.Proofs.Ytcmolgiccccnoaa
open Go.RowKit Go.BK
theorem smallS {H : Type} {w : World} {d : DataW H} {xs : List Cll} (h : (d = .nil ∧ xs = []) ∨ ∃ Ds rest, d = .slice Ds rest ∧ Ds.length = xs.length ∧ ∀ (i : Nat) (a : Cll), xs[i]? = some a → ∃ d', Ds[i]? = some d' ∧ QCl w a d') {B : Nat} (hb : Rows.uptoBulk d ≤ B) :
    xs.length ≤ B ∧ ∀ a ∈ xs, I64 a.now ∧ Rd kFd (fun _ => True) w a.A a.c a.x ∧ a.x.length ≤ B ∧ ∀ f ∈ a.x, f.1.length ≤ B ∧ f.2.length ≤ B := by
  rcases h with ⟨rfl, rfl⟩ | ⟨Ds, rest, rfl, hl, hd⟩
  · exact ⟨Nat.zero_le _, by simp⟩
  · have h1 := bulks.slice_le Ds rest
    have h2 := bulks.slice_elems Ds rest
    refine ⟨by omega, fun a ha => ?_⟩
    obtain ⟨i, hi⟩ := List.getElem?_of_mem ha
    obtain ⟨d', h3, df, rfl, hn, hF⟩ := hd i a hi
    have h4 := bulks.part_le (List.mem_of_getElem? h3)
    have h5 : Rows.uptoBulk df ≤ Rows.uptoBulk (DataW.agg [.lit (.int .i64 a.now), .lit (.string a.m), df, .lit (.int .i64 a.size), .lit (.bool a.bk)]) := by simp [Rows.uptoBulk, Rows.uptoBulkAll]; omega
    obtain ⟨h6, h7⟩ := hF.small (B := B) (by omega)
    exact ⟨hn, hF.2.1, h6, h7⟩
end Go.Proofs.Ytcmolgiccccnoaa
