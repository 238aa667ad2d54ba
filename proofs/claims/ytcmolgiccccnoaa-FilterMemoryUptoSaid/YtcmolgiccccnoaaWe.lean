/- The walks of functions: what each comes to. -/
import Derived.Test.YtcmolgiccccnoaaWt
import Derived.Test.YtcmolgiccccnoaaOpen
import Derived.Test.YtcmolgiccccnoaaProg
set_option linter.unusedVariables false
set_option linter.unusedSimpArgs false
namespace Go.Proofs.Ytcmolgiccccnoaa
open Go.RowKit Go.BK
theorem ce3 : Try.prog.cellsOf 3 = 1 := by kernel_rfl
theorem ce9 : Try.prog.cellsOf 9 = 1 := by kernel_rfl
theorem ce29 : Try.prog.cellsOf 29 = 6 := by kernel_rfl
theorem ce54 : Try.prog.cellsOf 54 = 2 := by kernel_rfl
theorem ce32 : Try.prog.cellsOf 32 = 1 := by kernel_rfl
theorem ce4 : Try.prog.cellsOf 4 = 1 := by kernel_rfl
theorem ce34 : Try.prog.cellsOf 34 = 5 := by kernel_rfl
theorem laid : laidOutB Try.prog = true := by kernel_rfl
def dFl {H : Type} (x : Flt) : DataW H := .agg [.lit (.int .i64 x.kind), .lit (.string x.name), .lit (.string x.value), .lit (.int .i64 x.n), .lit (.int .i64 x.m), .lit (.int .i64 x.k)]
set_option maxRecDepth 100000 in
theorem el_Fl {H : Type} {enc : TypeId × Value → H} {w : World} {held : Bool} (n : Nat) (cs : List Value) (y : DataW H × List MemPlace) (h : DataW.trod enc Try.prog w 0 (fun _ => true) held n 29 cs = some y) : ∃ x : Flt, cs = kFl.enc x ∧ y.1 = dFl x := by
  obtain ⟨xs, m, _, rfl, hl, hxl, hf⟩ := DataW.trod_struct Try.underlying29 h
  rw [ce29] at hl
  match cs, hl, xs, hxl, hf with
  | [c0, c1, c2, c3, c4, c5], _, [y0, y1, y2, y3, y4, y5], _, hf =>
    have g0 := hf 0 _ rfl
    simp only [ce3, List.drop_zero, List.drop_succ_cons, List.take_succ_cons, List.take_zero, List.getElem?_cons_zero, List.getElem?_cons_succ] at g0
    obtain ⟨v0, e0, rfl, _⟩ := DataW.trod_int Try.underlying3 g0
    obtain rfl : c0 = _ := by injection e0
    have g1 := hf 1 _ rfl
    simp only [ce9, List.drop_zero, List.drop_succ_cons, List.take_succ_cons, List.take_zero, List.getElem?_cons_zero, List.getElem?_cons_succ] at g1
    obtain ⟨v1, e1, rfl, _⟩ := DataW.trod_string Try.underlying9 g1
    obtain rfl : c1 = _ := by injection e1
    have g2 := hf 2 _ rfl
    simp only [ce9, List.drop_zero, List.drop_succ_cons, List.take_succ_cons, List.take_zero, List.getElem?_cons_zero, List.getElem?_cons_succ] at g2
    obtain ⟨v2, e2, rfl, _⟩ := DataW.trod_string Try.underlying9 g2
    obtain rfl : c2 = _ := by injection e2
    have g3 := hf 3 _ rfl
    simp only [ce3, List.drop_zero, List.drop_succ_cons, List.take_succ_cons, List.take_zero, List.getElem?_cons_zero, List.getElem?_cons_succ] at g3
    obtain ⟨v3, e3, rfl, _⟩ := DataW.trod_int Try.underlying3 g3
    obtain rfl : c3 = _ := by injection e3
    have g4 := hf 4 _ rfl
    simp only [ce3, List.drop_zero, List.drop_succ_cons, List.take_succ_cons, List.take_zero, List.getElem?_cons_zero, List.getElem?_cons_succ] at g4
    obtain ⟨v4, e4, rfl, _⟩ := DataW.trod_int Try.underlying3 g4
    obtain rfl : c4 = _ := by injection e4
    have g5 := hf 5 _ rfl
    simp only [ce3, List.drop_zero, List.drop_succ_cons, List.take_succ_cons, List.take_zero, List.getElem?_cons_zero, List.getElem?_cons_succ] at g5
    obtain ⟨v5, e5, rfl, _⟩ := DataW.trod_int Try.underlying3 g5
    obtain rfl : c5 = _ := by injection e5
    exact ⟨⟨v0, v1.data.toList, v2.data.toList, v3, v4, v5⟩, rfl, rfl⟩
def dFd {H : Type} (x : Fld) : DataW H := .agg [.lit (.string x.1), .lit (.string x.2)]
set_option maxRecDepth 100000 in
theorem el_Fd {H : Type} {enc : TypeId × Value → H} {w : World} {held : Bool} (n : Nat) (cs : List Value) (y : DataW H × List MemPlace) (h : DataW.trod enc Try.prog w 0 (fun _ => true) held n 54 cs = some y) : ∃ x : Fld, cs = kFd.enc x ∧ y.1 = dFd x := by
  obtain ⟨xs, m, _, rfl, hl, hxl, hf⟩ := DataW.trod_struct Try.underlying54 h
  rw [ce54] at hl
  match cs, hl, xs, hxl, hf with
  | [c0, c1], _, [y0, y1], _, hf =>
    have g0 := hf 0 _ rfl
    simp only [ce9, List.drop_zero, List.drop_succ_cons, List.take_succ_cons, List.take_zero, List.getElem?_cons_zero, List.getElem?_cons_succ] at g0
    obtain ⟨v0, e0, rfl, _⟩ := DataW.trod_string Try.underlying9 g0
    obtain rfl : c0 = _ := by injection e0
    have g1 := hf 1 _ rfl
    simp only [ce9, List.drop_zero, List.drop_succ_cons, List.take_succ_cons, List.take_zero, List.getElem?_cons_zero, List.getElem?_cons_succ] at g1
    obtain ⟨v1, e1, rfl, _⟩ := DataW.trod_string Try.underlying9 g1
    obtain rfl : c1 = _ := by injection e1
    exact ⟨(v0.data.toList, v1.data.toList), rfl, rfl⟩
/-- A list of fields, as an argument reads. -/
def RdF {H : Type} (w : World) (v : Value) (d : DataW H) (A : Option Addr) (c : Nat) (xs : List Fld) : Prop := v = .slice A xs.length c ∧ Rd kFd (fun _ => True) w A c xs ∧ ((d = .nil ∧ xs = []) ∨ ∃ Ds rest, d = .slice Ds rest ∧ Ds.length = xs.length ∧ ∀ (i : Nat) (a : Fld), xs[i]? = some a → ∃ d', Ds[i]? = some d' ∧ d' = dFd a)
def RdL {H : Type} (w : World) (v : Value) (d : DataW H) (A : Option Addr) (c : Nat) (xs : List Flt) : Prop := v = .slice A xs.length c ∧ Rd kFl (fun _ => True) w A c xs ∧ ((d = .nil ∧ xs = []) ∨ ∃ Ds rest, d = .slice Ds rest ∧ Ds.length = xs.length ∧ ∀ (i : Nat) (a : Flt), xs[i]? = some a → ∃ d', Ds[i]? = some d' ∧ d' = dFl a)
section
open Go.ChangeShapes Go.WideShapes Go.ChangeAt
variable {H : Type} {enc : TypeId × Value → H} {w : World} {held : Bool} {r : Reach} {b0 : Nat} {v : Value} {d : DataW H} {ps : List MemPlace}
set_option maxRecDepth 100000 in
theorem open_F (hv : Value.okWide Try.prog w r b0 32 v) (h : DataW.Trod enc Try.prog w 0 (fun _ => true) held 32 v d ps) : ∃ A c xs, RdF w v d A c xs := by
  obtain ⟨a, n, c, rfl⟩ := okWide_slice Try.underlying32 hv
  obtain ⟨fu, h⟩ := h
  obtain ⟨A, c', xs, h1, h2, h3⟩ := open_rows kFd (fun a d => d = dFd a) Try.underlying32 ce54 (fun n cs y hy => el_Fd n cs y hy) h
  exact ⟨A, c', xs, by injection (show [Value.slice a n c] = [Value.slice A xs.length c'] from h1), h2, h3⟩
set_option maxRecDepth 100000 in
theorem open_L (hv : Value.okWide Try.prog w r b0 22 v) (h : DataW.Trod enc Try.prog w 0 (fun _ => true) held 22 v d ps) : ∃ A c xs, RdL w v d A c xs := by
  obtain ⟨a, n, c, rfl⟩ := okWide_slice Try.underlying22 hv
  obtain ⟨fu, h⟩ := h
  obtain ⟨A, c', xs, h1, h2, h3⟩ := open_rows kFl (fun a d => d = dFl a) Try.underlying22 ce29 (fun n cs y hy => el_Fl n cs y hy) h
  exact ⟨A, c', xs, by injection (show [Value.slice a n c] = [Value.slice A xs.length c'] from h1), h2, h3⟩
set_option maxRecDepth 100000 in
theorem open_C (hv : Value.okWide Try.prog w r b0 34 v) (h : DataW.Trod enc Try.prog w 0 (fun _ => true) held 34 v d ps) : ∃ (now : Int) (m : Bs) (A : Option Addr) (c : Nat) (xs : List Fld) (size : Int) (bk : Bool) (df : DataW H),
    v = .agg #[.int .i64 now, str m, .slice A xs.length c, .int .i64 size, .bool bk] ∧ d = .agg [.lit (.int .i64 now), .lit (.string m), df, .lit (.int .i64 size), .lit (.bool bk)] ∧ I64 now ∧ RdF w (.slice A xs.length c) df A c xs := by
  obtain ⟨cs, rfl, _⟩ := okWide_struct Try.underlying34 hv
  obtain ⟨fu, h⟩ := h
  obtain ⟨xs, m, _, hd, hl, hxl, hf⟩ := DataW.trod_struct Try.underlying34 h
  rw [ce34] at hl
  obtain ⟨l⟩ := cs
  simp only [Value.cells] at hl hf
  match l, hl, xs, hxl, hf, hd with
  | [c0, c1, c2, c3, c4], _, [y0, y1, y2, y3, y4], _, hf, hd =>
    have g0 := hf 0 _ rfl
    have g1 := hf 1 _ rfl
    have g2 := hf 2 _ rfl
    have g3 := hf 3 _ rfl
    have g4 := hf 4 _ rfl
    simp only [ce3, ce9, ce32, ce4, List.drop_zero, List.drop_succ_cons, List.take_succ_cons, List.take_zero, List.getElem?_cons_zero, List.getElem?_cons_succ] at g0 g1 g2 g3 g4
    obtain ⟨v0, e0, rfl, hwf⟩ := DataW.trod_int Try.underlying3 g0
    obtain ⟨v1, e1, rfl, _⟩ := DataW.trod_string Try.underlying9 g1
    obtain ⟨A, c, ls, e2, h2, h3⟩ := open_rows kFd (fun a d => d = dFd a) Try.underlying32 ce54 (fun n cs y hy => el_Fd n cs y hy) g2
    obtain ⟨v3, e3, rfl, _⟩ := DataW.trod_int Try.underlying3 g3
    obtain ⟨v4, e4, rfl⟩ := DataW.trod_bool Try.underlying4 g4
    obtain rfl : c0 = _ := by injection e0
    obtain rfl : c1 = _ := by injection e1
    obtain rfl : c2 = _ := by injection e2
    obtain rfl : c3 = _ := by injection e3
    obtain rfl : c4 = _ := by injection e4
    injection hd with hd1 hd2
    refine ⟨v0, v1.data.toList, A, c, ls, v3, v4, y2.1, rfl, hd1, ?_, rfl, h2, h3⟩
    unfold I64
    simpa [Lit.wf, IntKind.min, IntKind.max, IntKind.signed, IntKind.bits] using hwf
end
end Go.Proofs.Ytcmolgiccccnoaa
