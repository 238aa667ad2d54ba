/- The walks of functions: what each comes to. -/
import Derived.Test.YtodappgiadelaaaDoorXv
import Derived.Test.YtodappgiadelaaaDoorOpen
import Derived.Test.YtodappgiadelaaaDoorProg
set_option linter.unusedVariables false
set_option linter.unusedSimpArgs false
namespace Go.Proofs.YtodappgiadelaaaDoor
open Go.RowKit Go.BK
theorem laid : laidOutB Tryd.prog = true := by kernel_rfl
theorem ce9 : Tryd.prog.cellsOf 9 = 1 := by kernel_rfl
theorem ce3 : Tryd.prog.cellsOf 3 = 1 := by kernel_rfl
def RdSS {H : Type} (w : World) (v : Value) (d : DataW H) (A : Option Addr) (c : Nat) (xs : List Bs) : Prop := v = .slice A xs.length c ∧ Rd kStr (fun _ => True) w A c xs ∧ ((d = .nil ∧ xs = []) ∨ ∃ Ds rest, d = .slice Ds rest ∧ Ds.length = xs.length ∧ ∀ (i : Nat) (a : Bs), xs[i]? = some a → ∃ d', Ds[i]? = some d' ∧ d' = .lit (.string a))
def kInt : Kd Int := ⟨1, fun n => [.int .i64 n], fun _ => rfl, by omega, fun x v hv => by simp at hv; subst hv; rfl⟩
def RdII {H : Type} (w : World) (v : Value) (d : DataW H) (A : Option Addr) (c : Nat) (xs : List Int) : Prop := v = .slice A xs.length c ∧ Rd kInt (fun _ => True) w A c xs ∧ ((d = .nil ∧ xs = []) ∨ ∃ Ds rest, d = .slice Ds rest ∧ Ds.length = xs.length ∧ ∀ (i : Nat) (a : Int), xs[i]? = some a → ∃ d', Ds[i]? = some d' ∧ d' = .lit (.int .i64 a))
section
open Go.ChangeShapes Go.WideShapes Go.ChangeAt
variable {H : Type} {enc : TypeId × Value → H} {w : World} {held : Bool} {r : Reach} {b0 : Nat} {v : Value} {d : DataW H} {ps : List MemPlace}
set_option maxRecDepth 100000 in
theorem open_SS (hv : Value.okWide Tryd.prog w r b0 22 v) (h : DataW.Trod enc Tryd.prog w 0 (fun _ => true) held 22 v d ps) : ∃ A c xs, RdSS w v d A c xs := by
  obtain ⟨a, n, c, rfl⟩ := okWide_slice Tryd.underlying22 hv
  obtain ⟨fu, h⟩ := h
  obtain ⟨A, c', xs, h1, h2, h3⟩ := open_rows kStr (fun a d => d = .lit (.string a)) Tryd.underlying22 ce9 (fun n cs y hy => by
    obtain ⟨s, rfl, hx, _⟩ := DataW.trod_string Tryd.underlying9 hy
    exact ⟨s.data.toList, rfl, by rw [hx]⟩) h
  exact ⟨A, c', xs, by injection (show [Value.slice a n c] = [Value.slice A xs.length c'] from h1), h2, h3⟩
set_option maxRecDepth 100000 in
theorem open_II (hv : Value.okWide Tryd.prog w r b0 32 v) (h : DataW.Trod enc Tryd.prog w 0 (fun _ => true) held 32 v d ps) : ∃ A c xs, RdII w v d A c xs := by
  obtain ⟨a, n, c, rfl⟩ := okWide_slice Tryd.underlying32 hv
  obtain ⟨fu, h⟩ := h
  obtain ⟨A, c', xs, h1, h2, h3⟩ := open_rows kInt (fun a d => d = .lit (.int .i64 a)) Tryd.underlying32 ce3 (fun n cs y hy => by
    obtain ⟨s, rfl, hx, _⟩ := DataW.trod_int Tryd.underlying3 hy
    exact ⟨s, rfl, by rw [hx]⟩) h
  exact ⟨A, c', xs, by injection (show [Value.slice a n c] = [Value.slice A xs.length c'] from h1), h2, h3⟩
set_option maxRecDepth 100000 in
theorem open_str (ht : Tryd.prog.underlying 9 = some .string) (hv : Value.okWide Tryd.prog w r b0 9 v) (h : DataW.Trod enc Tryd.prog w 0 (fun _ => true) held 9 v d ps) : ∃ s : Bs, v = str s ∧ d = .lit (.string s) ∧ ps = [] := by
  obtain ⟨s, rfl⟩ := okWide_string ht hv
  obtain ⟨fu, h⟩ := h
  obtain ⟨s', h1, h2, _⟩ := DataW.trod_string ht h
  simp [Value.cells] at h1
  subst h1
  injection h2 with h3 h4
  exact ⟨s.data.toList, rfl, h3, h4⟩
end
end Go.Proofs.YtodappgiadelaaaDoor
