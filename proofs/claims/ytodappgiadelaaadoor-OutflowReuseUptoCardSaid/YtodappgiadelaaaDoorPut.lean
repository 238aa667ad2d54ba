/- Rows that are held, written in place: this file names no program. -/
import Derived.Test.YtodappgiadelaaaDoorRnd
set_option linter.unusedVariables false
set_option linter.unusedSimpArgs false
namespace Go.BK
open Go.RowKit
section
variable {w0 w w' : World} {S : Nat → Prop} {σ : Held}
theorem St.rowAt (H : St w0 S w σ) (i : Nat) {e k n c : Nat} {A : Option Addr} {xs : List Value} (hσ : σ[i]? = some (.row e k A n c xs)) (hn : 0 < n) : ∃ g, A = some ⟨g, 0, none⟩ := by
  obtain ⟨_, h | ⟨g, cap, cur, he, _⟩⟩ := (H.cont _ (List.mem_of_getElem? hσ)).1
  · omega
  · injection he with e1; exact ⟨g, e1⟩
theorem splice_take {cs vs : List Value} {o m : Nat} (h : o + vs.length ≤ m) (hm : m ≤ cs.length) : (splice cs o vs).take m = splice (cs.take m) o vs := by
  unfold splice
  rw [List.take_take, Nat.min_eq_left (by omega)]
  rw [List.take_append, List.take_of_length_le (by simp; omega)]
  congr 1
  simp only [List.length_append, List.length_take, List.drop_take]
  congr 1
  omega
theorem splice_len {cs vs : List Value} {o : Nat} (h : o + vs.length ≤ cs.length) : (splice cs o vs).length = cs.length := by
  unfold splice
  simp only [List.length_append, List.length_take, List.length_drop]
  omega
end
section
variable {ρ : Option Nat} {P : Program} {ops : Array Oper} {Q : Post} {ds : List Deferred} {n : Nat} {rest : List Oper} {K : Kn} {w0 w : World} {S : Nat → Prop} {σ : Held} {ty : TypeId}
/-- An element of a held row is written. -/
theorem WL.storeRow {i j b : Nat} {t e kk m c : Nat} {x y : Operand} {pos : String} {es : Array Edge} {v : Value} {xs vs : List Value} (hx : evO K x = some (.pointer (some ⟨b, 0 + j * kk, none⟩))) (hy : evO K y = some v) (hvs : v.cells = vs.toArray) (hs : szOk P t vs.length) (h1 : allOne vs = true)
    (hk : vs.length = kk) (H : St w0 S w σ) (hσ : σ[i]? = some (.row e kk (some ⟨b, 0, none⟩) m c xs)) (hj : j < m)
    (k : ∀ w', St w0 S w' (σ.set i (.row e kk (some ⟨b, 0, none⟩) m c (splice xs (j * kk) vs))) → Gr (fun k => k = b) w w' → WL ρ P ops Q ds n rest K w') :
    WL ρ P ops Q ds n (⟨none, .store t x y, ty, pos, es, none⟩ :: rest) K w := by
  obtain ⟨hxl, h | ⟨g, cap, cur, he, hb0, hB, hnc, hcm, hcs, htk⟩⟩ := (H.cont _ (List.mem_of_getElem? hσ)).1
  · omega
  · injection he with e1 e2 e3
    injection e1 with e4
    injection e4 with e5 e6 e7
    subst e5
    subst e3
    have hfit : j * kk + vs.length ≤ m * kk := by
      have := Nat.mul_le_mul_right kk (show j + 1 ≤ m by omega)
      rw [Nat.add_mul] at this; omega
    have hmc : m * kk ≤ cur.size := by rw [hcs]; exact Nat.mul_le_mul_right kk hnc
    have hrun := run_storeCells_at P b (j * kk) e vs 0 cur w (by simpa using hB) (by simpa using Nat.le_trans hfit hmc) (allOne_mem h1)
    simp only [Nat.add_zero] at hrun
    have L := setRow_gr w b (splice cur.toList (j * kk) vs).toArray
    have hb' : (w.setRow b (splice cur.toList (j * kk) vs).toArray).heap[b]? = some (.cells (splice cur.toList (j * kk) vs).toArray e (0, 0)) := setRow_heap w b _ _ e _ hB
    have hl : (splice cur.toList (j * kk) vs).length = cur.toList.length := splice_len (by simp; omega)
    refine WL.skip (w' := w.setRow b (splice cur.toList (j * kk) vs).toArray) (fun l hl => ?_) (k _ (H.set i hσ _ (L.mono fun k _ h => by simp [Chunk.blocks, h]) ?_ (fun k hk => .inl (by simpa [Chunk.blocks] using hk)) (by simp [Chunk.blocks])) L)
    · have hsz : v.cells.size = vs.length := by rw [hvs]; simp
      simp [execOp, ev_of hl hx, ev_of hl hy, Instr.storeAt, Instr.sureAddr, storeVar, run_sizeOf hs, hsz, hvs]
      rw [hrun]
      rfl
    · refine ⟨?_, .inr ⟨b, c, _, rfl, hb0, hb', hnc, hcm, by simpa [hcs] using hl, ?_⟩⟩
      · rw [splice_len (by omega)]; exact hxl
      · rw [← htk]
        exact splice_take hfit (by simpa using hmc)
end
end Go.BK
