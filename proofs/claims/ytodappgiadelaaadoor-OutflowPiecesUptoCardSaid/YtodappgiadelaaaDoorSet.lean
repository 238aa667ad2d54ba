/- A guard that is known to be met; a slice's front part: this file names no program. -/
import Derived.Test.YtodappgiadelaaaDoorPut
import Derived.Test.YtodappgiadelaaaDoorSub
set_option linter.unusedVariables false
set_option linter.unusedSimpArgs false
namespace Go.BK
open Go.RowKit
section
variable {ρ : Option Nat} {P : Program} {ops : Array Oper} {Q : Post} {ds : List Deferred} {n : Nat} {rest : List Oper} {K : Kn} {w : World}
theorem WL.settle {d : Option Tmp} {j : Nat} {b : Bool} {op : Op} {t : TypeId} {pos : String} {es : Array Edge} (hm : Met ops K j b true) (h : WL ρ P ops Q ds n (⟨d, op, t, pos, es, none⟩ :: rest) K w) :
    WL ρ P ops Q ds n (⟨d, op, t, pos, es, some (j, b)⟩ :: rest) K w := fun l hl => by
  have h1 := h l hl
  unfold wpListIn at h1 ⊢
  rw [hm.wanted hl rfl, if_pos rfl]
  rw [if_pos (by simp [Region.wanted])] at h1
  exact h1
theorem Ev.preSl {ty t e k : TypeId} {x hi : Operand} {b o m c i : Nat} (ht : P.underlying t = some (.slice e)) (hs : szOk P e k) (hx : evO K x = some (.slice (some ⟨b, o, none⟩) m c)) (hh : evO K hi = some (.int .i64 (i : Nat))) (hi' : i ≤ c) :
    Ev P K (.slice t x none (some hi) none) ty w (.slice (some ⟨b, o, none⟩) i c) w := by
  intro m ds l d pos es g hl
  simp [execOp, ev_of hl hx, ev_of hl hh, Instr.sliceAt, Instr.sureAddr, Instr.slice, run_underlying ht, Instr.sliceBounds, Instr.sliceBound, asIntOf, run_sizeOf hs, hi', add_none]
end
theorem Rd.left {α : Type} {k : Kd α} {G : Nat → Prop} {w : World} {A : Option Addr} {c : Nat} {xs ys : List α} (h : Rd k G w A c (xs ++ ys)) : Rd k G w A c xs :=
  ⟨by have := h.1; rw [List.length_append] at this; omega, fun hp => by
    obtain ⟨b, o, h1, h2, h3⟩ := h.2 (by rw [List.length_append]; omega)
    exact ⟨b, o, h1, h2, fun j x hx i v hv => h3 j x (by
      rw [List.getElem?_append_left (by
        rcases Nat.lt_or_ge j xs.length with hl | hl
        · exact hl
        · rw [List.getElem?_eq_none hl] at hx; cases hx)]
      exact hx) i v hv⟩⟩
end Go.BK
