/- A slice's rear part: this file names no program. -/
import Derived.Test.YtodappgiadelaaaDoorArr
set_option linter.unusedVariables false
set_option linter.unusedSimpArgs false
namespace Go.BK
open Go.RowKit
def subA (A : Option Addr) (c i k : Nat) : Option Addr := if c = i then A else A.map (·.add (i * k))
theorem Ev.subSl {P : Program} {K : Kn} {w : World} {ty t e k : TypeId} {x lo : Operand} {A : Option Addr} {n c i : Nat} (ht : P.underlying t = some (.slice e)) (hs : szOk P e k) (hx : evO K x = some (.slice A n c)) (hlo : evO K lo = some (.int .i64 (i : Nat))) (hi : i ≤ n) :
    Ev P K (.slice t x (some lo) none none) ty w (.slice (subA A c i k) (n - i) (c - i)) w := by
  intro m ds l d pos es g hl
  simp [execOp, ev_of hl hx, ev_of hl hlo, Instr.sliceAt, Instr.sureAddr, Instr.slice, run_underlying ht, Instr.sliceBounds, Instr.sliceBound, asIntOf, run_sizeOf hs, subA, hi]
theorem Rd.drop {α : Type} {k : Kd α} {G : Nat → Prop} {w : World} {A : Option Addr} {c : Nat} {xs : List α} (h : Rd k G w A c xs) (i : Nat) (hi : i ≤ xs.length) : Rd k G w (subA A c i k.sz) (c - i) (xs.drop i) := by
  have hc := h.1
  refine ⟨by rw [List.length_drop]; omega, fun hp => ?_⟩
  rw [List.length_drop] at hp
  obtain ⟨b, o, h1, h2, h3⟩ := h.2 (by omega)
  refine ⟨b, o + i * k.sz, ?_, h2, fun j x hx q v hv => ?_⟩
  · rw [subA, if_neg (by omega), h1, Option.map_some, add_none]
  · have := h3 (i + j) x (by rw [List.getElem?_drop] at hx; exact hx) q v hv
    rw [show o + (i + j) * k.sz + q = o + i * k.sz + j * k.sz + q by rw [Nat.add_mul]; omega] at this
    exact this
end Go.BK
