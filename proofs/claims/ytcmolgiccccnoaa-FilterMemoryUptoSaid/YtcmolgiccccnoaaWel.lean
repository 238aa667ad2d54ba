/- The walks of functions: what each comes to. -/
import Derived.Test.YtcmolgiccccnoaaWsm
import Derived.Test.YtcmolgiccccnoaaWe
import Derived.Test.YtcmolgiccccnoaaProg
set_option linter.unusedVariables false
set_option linter.unusedSimpArgs false
namespace Go.Proofs.Ytcmolgiccccnoaa
open Go.RowKit Go.BK

structure Cll where
  now : Int
  m : Bs
  A : Option Addr
  c : Nat
  x : List Fld
  size : Int
  bk : Bool
@[reducible] def encC (a : Cll) : List Value := [.int .i64 a.now, str a.m, .slice a.A a.x.length a.c, .int .i64 a.size, .bool a.bk]
def kCl : Kd Cll := ⟨5, fun a => encC a, fun _ => rfl, by omega, fun x v hv => by simp at hv; rcases hv with rfl | rfl | rfl | rfl | rfl <;> rfl⟩
section
open Go.ChangeShapes Go.WideShapes Go.ChangeAt
variable {H : Type} {enc : TypeId × Value → H} {w : World} {held : Bool} {r : Reach} {b0 : Nat} {v : Value} {d : DataW H} {ps : List MemPlace}
def QCl (w : World) (a : Cll) (d : DataW H) : Prop := ∃ df, d = .agg [.lit (.int .i64 a.now), .lit (.string a.m), df, .lit (.int .i64 a.size), .lit (.bool a.bk)] ∧ I64 a.now ∧ RdF w (.slice a.A a.x.length a.c) df a.A a.c a.x
set_option maxRecDepth 100000 in
theorem el_Cl (n : Nat) (cs : List Value) (y : DataW H × List MemPlace) (h : DataW.trod enc Try.prog w 0 (fun _ => true) held n 34 cs = some y) : ∃ a : Cll, cs = kCl.enc a ∧ QCl w a y.1 := by
  obtain ⟨xs, m, _, hd, hl, hxl, hf⟩ := DataW.trod_struct Try.underlying34 h
  rw [ce34] at hl
  match cs, hl, xs, hxl, hf, hd with
  | [c0, c1, c2, c3, c4], _, [y0, y1, y2, y3, y4], _, hf, hd =>
    have g0 := hf 0 _ rfl
    have g1 := hf 1 _ rfl
    have g2 := hf 2 _ rfl
    have g3 := hf 3 _ rfl
    have g4 := hf 4 _ rfl
    simp only [ce3, ce9, ce32, ce4, List.drop_zero, List.drop_succ_cons, List.take_succ_cons, List.take_zero, List.getElem?_cons_zero, List.getElem?_cons_succ] at g0 g1 g2 g3 g4
    obtain ⟨v0, e0, rfl, hwf⟩ := DataW.trod_int Try.underlying3 g0
    obtain ⟨v1, e1, rfl, _⟩ := DataW.trod_string Try.underlying9 g1
    obtain ⟨A, c, ls, e2, h2, h3⟩ := open_rows kFd (fun a d => d = dFd a) Try.underlying32 ce54 (fun n cs y hy => el_Fd n cs y hy) g2
    obtain ⟨v3, e3, rfl, _⟩ := DataW.trod_int Try.underlying3 g3
    obtain ⟨v4, e4, rfl⟩ := DataW.trod_bool Try.underlying4 g4
    obtain rfl : c0 = _ := by injection e0
    obtain rfl : c1 = _ := by injection e1
    obtain rfl : c2 = _ := by injection e2
    obtain rfl : c3 = _ := by injection e3
    obtain rfl : c4 = _ := by injection e4
    refine ⟨⟨v0, v1.data.toList, A, c, ls, v3, v4⟩, rfl, y2.1, by rw [hd]; rfl, ?_, rfl, h2, h3⟩
    unfold I64
    simpa [Lit.wf, IntKind.min, IntKind.max, IntKind.signed, IntKind.bits] using hwf
set_option maxRecDepth 100000 in
theorem open_S (hv : Value.okWide Try.prog w r b0 23 v) (h : DataW.Trod enc Try.prog w 0 (fun _ => true) held 23 v d ps) : ∃ A c xs, v = .slice A xs.length c ∧ Rd kCl (fun _ => True) w A c xs ∧ ((d = .nil ∧ xs = []) ∨ ∃ Ds rest, d = .slice Ds rest ∧ Ds.length = xs.length ∧ ∀ (i : Nat) (a : Cll), xs[i]? = some a → ∃ d', Ds[i]? = some d' ∧ QCl w a d') := by
  obtain ⟨a, n, c, rfl⟩ := okWide_slice Try.underlying23 hv
  obtain ⟨fu, h⟩ := h
  obtain ⟨A, c', xs, h1, h2, h3⟩ := open_rows kCl (QCl w) Try.underlying23 ce34 (fun n cs y hy => el_Cl n cs y hy) h
  exact ⟨A, c', xs, by injection (show [Value.slice a n c] = [Value.slice A xs.length c'] from h1), h2, h3⟩
end
theorem o_eq' {r r' : List Fx × Int × Stp × List Fld} (h : r.2.2 = r'.2.2) : oStop r = oStop r' ∧ oSt r = oSt r' ∧ oF r = oF r' ∧ oB r = oB r' ∧ oP r = oP r' := by
  unfold oStop oSt oF oB oP
  rw [h]; exact ⟨rfl, rfl, rfl, rfl, rfl⟩
theorem oneF_fl {x : Fx} {s now size : Int} {m : Bs} {l : List Fld} {t : Int × List Fld × Bs} (h : (oneF x s now size m l).2.2.1 = some t) : t.2.1.length ≤ 2 := by
  unfold oneF at h
  repeat' split at h
  all_goals first | (injection h with h; subst h; simp) | cases h
theorem runF_fl (now size : Int) (m : Bs) : ∀ (xs : List Fx) (s : Int) (l : List Fld), (oF (runF now size m xs s l)).length ≤ 2
  | [], _, _ => by simp [runF, oF]
  | x :: xs, s, l => by
    cases hq : (oneF x s now size m l).2.2.1 with
    | none =>
      rw [runF_none hq]
      exact runF_fl now size m xs _ _
    | some t => rw [runF_some hq]; exact oneF_fl hq
theorem backL_okP : ∀ (xs : List Fx) (l : List Fld) (n : Nat), (∀ x ∈ xs, okFx x) → OkfN (xs.length + n) l → OkfN n (backL l xs.reverse)
  | [], l, n, _, h => by simpa [backL] using h
  | z :: xs, l, n, hx, h => by
    rw [List.reverse_cons, backL_snoc]
    exact backR_ok (hx z (by simp)) (backL_okP xs l (n + 1) (fun x hxx => hx x (by simp [hxx])) (by rw [show xs.length + (n + 1) = (z :: xs).length + n by simp; omega]; exact h))
theorem rq_fl (seen now size : Int) (m : Bs) (xs : List Fx) (s : Int) (l : List Fld) : Sml (oF (rq seen now size m xs s l)).length := by
  unfold rq
  split
  · have := runF_fl now size m xs s l; unfold Sml; omega
  · unfold Sml; simp [oF]
theorem rq_pl {xs : List Fx} (hx : ∀ x ∈ xs, okFx x) {l : List Fld} (h : OkfN xs.length l) (seen now size : Int) (m : Bs) (s : Int) : Okf (oP (rq seen now size m xs s l)) := by
  unfold rq
  split
  · have h0 := (runF_okn now size m 0 xs s l hx h).okf
    unfold oP
    split
    · exact h0
    · exact (ok_nil 0 (by unfold Sml; decide)).okf
  · exact (ok_nil 0 (by unfold Sml; decide)).okf
end Go.Proofs.Ytcmolgiccccnoaa
