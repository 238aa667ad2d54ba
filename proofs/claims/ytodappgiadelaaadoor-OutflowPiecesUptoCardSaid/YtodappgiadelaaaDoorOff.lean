/- A guard that is known not to be met: this file names no program. -/
import Derived.Test.YtodappgiadelaaaDoorStr
set_option linter.unusedVariables false
set_option linter.unusedSimpArgs false
namespace Go.BK
open Go.RowKit
section
variable {ρ : Option Nat} {P : Program} {ops : Array Oper} {Q : Post} {ds : List Deferred} {n : Nat} {rest : List Oper} {K : Kn} {w : World}
theorem WL.off {d j : Nat} {b : Bool} {op : Op} {t : TypeId} {pos : String} {es : Array Edge} (hm : Met ops K j b false) (hd : Nat.blt d n = true) (k : WL ρ P ops Q ds n rest ((d, undef) :: K) w) :
    WL ρ P ops Q ds n (⟨some d, op, t, pos, es, some (j, b)⟩ :: rest) K w := fun l hl => by
  unfold wpListIn
  rw [hm.wanted hl rfl, if_neg (by simp)]
  exact ⟨fun _ _ => trivial, k _ (hl.put hd undef)⟩
end
end Go.BK
