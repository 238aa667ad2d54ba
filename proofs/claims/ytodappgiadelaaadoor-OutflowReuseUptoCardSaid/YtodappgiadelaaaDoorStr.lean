/- A text's rear and front parts; three results, of which the first lies in a cell: this file names no program. -/
import Derived.Test.YtodappgiadelaaaDoorRow
set_option linter.unusedVariables false
set_option linter.unusedSimpArgs false
namespace Go.BK
open Go.RowKit
section
variable {P : Program} {K : Kn} {w : World} {ty t : TypeId} {x lo hi : Operand} {a : Bs} {i : Nat}
theorem Ev.tail (ht : P.underlying t = some .string) (hx : evO K x = some (str a)) (hlo : evO K lo = some (.int .i64 (i : Nat))) (h : i ≤ a.length) : Ev P K (.slice t x (some lo) none none) ty w (str (a.drop i)) w := by
  have := Ev.subs (P := P) (ty := ty) (w := w) (lo := some lo) (hi := none) (i := (i : Int)) (j := (a.length : Int)) ht hx ⟨_, hlo⟩ rfl (by omega) (by omega) (by omega)
  simpa [List.take_of_length_le] using this
theorem Ev.front (ht : P.underlying t = some .string) (hx : evO K x = some (str a)) (hhi : evO K hi = some (.int .i64 (i : Nat))) (h : i ≤ a.length) : Ev P K (.slice t x none (some hi) none) ty w (str (a.take i)) w := by
  have := Ev.subs (P := P) (ty := ty) (w := w) (lo := none) (hi := some hi) (i := 0) (j := (i : Int)) ht hx rfl ⟨_, hhi⟩ (by omega) (by omega) (by omega)
  simpa using this
end
section
variable {Q : Post} {ds : List Deferred} {n : Nat} {K : Kn} {w : World} {P : Program}
theorem WQ.retC3 {fn : Func} {R : Ending → World → Prop} {t u s : Nat} {ty : TypeId} {a : Addr} {vs : List Value} {v' v'' : Value} (hr : fn.results = #[.cell t ty, .tmp u, .tmp s]) (ht : look K t = some (.pointer (some a))) (hv' : look K u = some v') (hv'' : look K s = some v'') (ha : aggB P ty = true) (hs : szOk P ty vs.length) (hc : ∀ j v, vs[j]? = some v → w.cell? (a.add j) = some v)
    (h : R (.returned (.tuple #[.agg vs.toArray, v', v''])) w) : WQ (bodyPost P fn R) .ret [] n K w := fun l hl => by
  have h1 := hl.2 _ _ ht
  have h2 := hl.2 _ _ hv'
  have h3 := hl.2 _ _ hv''
  have e1 : l.getD t undef = .pointer (some a) := by simp [Array.getD_eq_getD_getElem?, h1]
  have e2 : l.getD u undef = v' := by simp [Array.getD_eq_getD_getElem?, h2]
  have e3 : l.getD s undef = v'' := by simp [Array.getD_eq_getD_getElem?, h3]
  refine bodyPost_ret (v := .tuple #[.agg vs.toArray, v', v'']) ?_ rfl h
  simp [results, hr, h1, h2, h3, asAddr, run_loadVarA ha hs hc]
end
end Go.BK
