/- A text's bytes as a row of one's own; a block read as a slice: this file names no program. -/
import Derived.Test.YtodappgiadelaaaDoorEq
import Derived.Lib.FrozenHead
set_option linter.unusedVariables false
set_option linter.unusedSimpArgs false
namespace Go.BK
open Go.RowKit
theorem run_store1T (P : Program) (g o : Nat) (t : TypeId) (fz : Nat × Nat) (v : Value) (cur : Array Value) (w : World) (hg : w.heap[g]? = some (.cells cur t fz)) (hfz : o < fz.1) (hl : o < cur.size) (h1 : v.oneCell' = true) :
    (storeCells ⟨g, o, none⟩ [v] 0).run P w = .ok () (w.setRow g (splice cur.toList o [v]).toArray) := by
  have hadd : (⟨g, o, none⟩ : Addr).add 0 = ⟨g, o, none⟩ := by unfold Addr.add; split <;> simp_all
  have hcell : w.cell? ⟨g, o, none⟩ = some cur[o] := by simp [World.cell?, hg, hl]
  have hfro : w.frozen? ⟨g, o, none⟩ = false := by
    obtain ⟨lo, hi'⟩ := fz
    simp only [World.frozen?, hg, Bool.and_eq_false_iff, decide_eq_false_iff_not]
    left; simp only at hfz; omega
  have e : cur.setIfInBounds o v = (splice cur.toList o [v]).toArray := by
    apply Array.toList_inj.1
    rw [Array.toList_setIfInBounds, List.set_eq_take_append_cons_drop, if_pos (by simpa using hl)]
    simp [splice]
  have hst : (store ((⟨g, o, none⟩ : Addr).add 0) v).run P w = .ok () (w.setRow g (splice cur.toList o [v]).toArray) := by
    rw [hadd, run_store P w _ v _ h1, hcell, ← e]
    simp [hfro, setCell_eq_setRow w g o cur t fz v hg]
  simp only [storeCells, Sem.run_bind, hst, Result.andThen_ok]
  rfl
section
variable {ρ : Option Nat} {P : Program} {ops : Array Oper} {Q : Post} {ds : List Deferred} {n : Nat} {rest : List Oper} {K : Kn} {w w' w0 : World} {ty : TypeId} {S : Nat → Prop} {σ : Held}
/-- A store of one cell ahead of a mark. -/
theorem WL.storeT {i : Nat} {t tt b o : Nat} {fz : Nat × Nat} {x y : Operand} {pos : String} {es : Array Edge} {v : Value} {cs : List Value} (hx : evO K x = some (.pointer (some ⟨b, o, none⟩))) (hy : evO K y = some v) (hvs : v.cells = #[v]) (hs : szOk P t 1) (h1 : v.oneCell' = true)
    (H : St w0 S w σ) (hσ : σ[i]? = some (.blk b cs tt fz)) (hf : o < fz.1) (hfit : o < cs.length)
    (k : ∀ w', St w0 S w' (σ.set i (.blk b (splice cs o [v]) tt fz)) → Gr (fun k => k = b) w w' → WL ρ P ops Q ds n rest K w') :
    WL ρ P ops Q ds n (⟨none, .store t x y, ty, pos, es, none⟩ :: rest) K w := by
  have hB := H.blk i hσ
  have hrun := run_store1T P b o tt fz v cs.toArray w hB hf (by simpa using hfit) h1
  simp only at hrun
  have L := setRow_gr w b (splice cs o [v]).toArray
  have hb' : (w.setRow b (splice cs o [v]).toArray).heap[b]? = some (.cells (splice cs o [v]).toArray tt fz) := setRow_heap w b _ _ tt _ hB
  refine WL.skip (w' := w.setRow b (splice cs o [v]).toArray) (fun l hl => ?_) (k _ (H.put i hσ _ L hb') L)
  simp [execOp, ev_of hl hx, ev_of hl hy, Instr.storeAt, Instr.sureAddr, storeVar, run_sizeOf hs, hvs]
  rw [hrun]
  rfl
/-- '[]T{}'. -/
theorem WL.buildSlice0 {d : Nat} {t e k : TypeId} {pos : String} {es : Array Edge} (hu : P.underlying t = some (.slice e)) (hs : szOk P e k) (H : St w0 S w σ) (hd : Nat.blt d n = true)
    (kk : ∀ b w', b = w.heap.size → St w0 S w' (.row e k (some ⟨b, 0, none⟩) 0 0 [] :: σ) → Ext w w' → WL ρ P ops Q ds n rest ((d, .slice (some ⟨b, 0, none⟩) 0 0) :: K) w') :
    WL ρ P ops Q ds n (⟨some d, .buildSlice t 0 #[], ty, pos, es, none⟩ :: rest) K w := by
  have H' : St w No (w.alloc (.cells #[] e)) [.row e k (some ⟨w.heap.size, 0, none⟩) 0 0 []] :=
    ⟨Ext.alloc _ _, fun c hc => by
      obtain rfl := List.mem_singleton.1 hc
      exact ⟨⟨by simp, .inr ⟨w.heap.size, 0, #[], rfl, Nat.zero_le _, by show (w.heap.push _)[w.heap.size]? = _; simp, Nat.le_refl _, Nat.zero_le _, by simp, by simp⟩⟩, fun b hb => .inr (by simp only [Chunk.blocks, List.mem_singleton] at hb; omega)⟩, by simp [Chunk.blocks]⟩
  refine WL.value _ (w' := w.alloc (.cells #[] e)) (fun l hl => ?_) hd (kk _ _ rfl (H.app H') (Ext.alloc _ _))
  simp [execOp, Instr.buildSlice, run_underlying hu, run_sizeOf hs, Instr.fill, newRow]
  exact congrArg (fun c => w.alloc (Obj.cells c e)) (Array.eq_empty_of_size_eq_zero (by simp))
/-- '[]byte(s)'. -/
theorem WL.toBytes {d : Nat} {src dst e : TypeId} {x : Operand} {pos : String} {es : Array Edge} {s : Bs} {u : TypeDesc} (hs : P.underlying src = some u) (hd' : P.underlying dst = some (.slice e)) (he : P.underlying e = some (.int .u8)) (hx : evO K x = some (str s)) (H : St w0 S w σ) (hd : Nat.blt d n = true)
    (k : ∀ b cap w', b = w.heap.size → s.length ≤ cap → St w0 S w' (.blk b (s.map ch ++ List.replicate (cap - s.length) (Value.int .u8 0)) e (cap, cap + 1) :: σ) → Ext w w' → WL ρ P ops Q ds n rest ((d, .slice (some ⟨b, 0, none⟩) s.length cap) :: K) w') :
    WL ρ P ops Q ds n (⟨some d, .convert src dst x, ty, pos, es, none⟩ :: rest) K w := by
  have hle : s.length ≤ grownCap w s.length 0 e := grownCap_ge _ _ _ _
  have hsz : (Lib.bytesCells w e ⟨s.toArray⟩).size = grownCap w s.length 0 e := by
    simp [Lib.bytesCells, ByteArray.size]; omega
  have hcells : Lib.bytesCells w e ⟨s.toArray⟩ = (s.map ch ++ List.replicate (grownCap w s.length 0 e - s.length) (Value.int .u8 0)).toArray := by
    apply Array.toList_inj.1
    simp [Lib.bytesCells, ByteArray.size, ch]
  have hold : Ext w (Lib.bytesWorld w e ⟨s.toArray⟩) := ⟨rfl, rfl, rfl, by rw [Lib.bytesWorld_size]; omega, fun k hk _ => Lib.bytesWorld_at_old _ _ _ _ hk⟩
  have hnew := Lib.bytesWorld_at_new w e ⟨s.toArray⟩
  rw [hsz, hcells] at hnew
  have H' : St w No (Lib.bytesWorld w e ⟨s.toArray⟩) [.blk w.heap.size (s.map ch ++ List.replicate (grownCap w s.length 0 e - s.length) (Value.int .u8 0)) e (grownCap w s.length 0 e, grownCap w s.length 0 e + 1)] :=
    ⟨hold, fun c hc => by
      obtain rfl := List.mem_singleton.1 hc
      exact ⟨hnew, fun b hb => .inr (by simp only [Chunk.blocks, List.mem_singleton] at hb; omega)⟩, by simp [Chunk.blocks]⟩
  refine WL.value _ (w' := Lib.bytesWorld w e ⟨s.toArray⟩) (fun l hl => ?_) hd (k _ _ _ rfl hle (H.app H') hold)
  have h9 := Lib.run_convert_string_bytes (P := P) w src dst e ⟨s.toArray⟩ hs hd' he
  simp only [execOp, ev_of hl hx, str, Sem.run_bind, h9, Result.andThen_ok]
  rfl
end
section
variable {α : Type} {k : Kd α} {S : Nat → Prop} {w w0 : World} {c : Nat} {xs : List α} {σ : Held}
/-- A held block, read as a slice from its head on. -/
theorem St.rdB (k : Kd α) (H : St w0 S w σ) (i : Nat) {b : Nat} {cs : List Value} {t : TypeId} {fz : Nat × Nat} (hσ : σ[i]? = some (.blk b cs t fz)) (xs : List α) (hcs : (xs.flatMap k.enc) <+: cs) (hc : xs.length ≤ c) : Rd k (fun x => x = b) w (some ⟨b, 0, none⟩) c xs :=
  ⟨hc, fun hp => ⟨b, 0, rfl, rfl, fun j x hx i' v hv => by
    have h1 := flat_get xs j x hx i' v hv
    obtain ⟨r, rfl⟩ := hcs
    refine H.cell i hσ ?_
    rw [Nat.zero_add]
    have hlt : j * k.sz + i' < (xs.flatMap k.enc).length := by
      rcases Nat.lt_or_ge (j * k.sz + i') (xs.flatMap k.enc).length with h | h
      · exact h
      · rw [List.getElem?_eq_none h] at h1; cases h1
    rw [List.getElem?_append_left hlt]; exact h1⟩⟩
end
/-- What a text's bytes are while they are lowered from the left. -/
def lowCells (s : Bs) (j : Nat) (z : List Value) : List Value := ((low (s.take j)).map ch ++ (s.drop j).map ch) ++ z
theorem low_take_length {s : Bs} {j : Nat} (h : j ≤ s.length) : (low (s.take j)).length = j := by rw [low_length, List.length_take]; omega
theorem lowCells_zero (s : Bs) (z : List Value) : lowCells s 0 z = s.map ch ++ z := by simp [lowCells, low]
theorem lowCells_len (s : Bs) (j : Nat) (z : List Value) (h : j ≤ s.length) : (lowCells s j z).length = s.length + z.length := by
  simp [lowCells, low_length]; omega
theorem low_take_succ {s : Bs} {j : Nat} (h : j < s.length) : low (s.take (j + 1)) = low (s.take j) ++ [lowc s[j]] := by unfold low; rw [take_succ_get h, List.map_append]; rfl
theorem lowCells_split {s : Bs} {j : Nat} {z : List Value} (h : j < s.length) : lowCells s j z = (low (s.take j)).map ch ++ ch s[j] :: ((s.drop (j + 1)).map ch ++ z) := by
  unfold lowCells; rw [List.drop_eq_getElem_cons h, List.map_cons]; simp only [List.append_assoc, List.cons_append]
theorem lowCells_succ {s : Bs} {j : Nat} {z : List Value} (h : j < s.length) : lowCells s (j + 1) z = (low (s.take j)).map ch ++ ch (lowc s[j]) :: ((s.drop (j + 1)).map ch ++ z) := by
  unfold lowCells; rw [low_take_succ h]; simp
theorem lowCells_get {s : Bs} {j : Nat} {z : List Value} (h : j < s.length) : (lowCells s j z)[0 + j * 1]? = some (.int .u8 (byteAt s j)) := by
  rw [lowCells_split h, show 0 + j * 1 = j by omega, List.getElem?_append_right (by simp [low_take_length (Nat.le_of_lt h)])]
  simp [low_take_length (Nat.le_of_lt h), byteAt_get h, ch]
theorem lowCells_same {s : Bs} {j : Nat} {z : List Value} (h : j < s.length) (hc : byteAt s j < 65 ∨ 90 < byteAt s j) : lowCells s (j + 1) z = lowCells s j z := by
  rw [lowCells_succ h, lowCells_split h]
  rw [byteAt_get h] at hc
  rw [lowc_no (by omega)]
theorem lowCells_put {s : Bs} {j : Nat} {z : List Value} {v : Value} (h : j < s.length) (hv : v = ch (lowc s[j])) : splice (lowCells s j z) (0 + j * 1) [v] = lowCells s (j + 1) z := by
  have hl : ((low (s.take j)).map ch).length = j := by simp [low_take_length (Nat.le_of_lt h)]
  rw [lowCells_succ h, lowCells_split h, show 0 + j * 1 = j by omega, hv]
  unfold splice
  rw [List.take_append_of_le_length (by omega), List.take_of_length_le (by omega), List.drop_append]
  rw [List.drop_eq_nil_of_le (by rw [hl]; simp), hl]
  simp [show j + 1 - j = 1 by omega]
theorem lowCells_end (s : Bs) (z : List Value) : (low s).flatMap kCh.enc <+: lowCells s s.length z := by
  unfold lowCells
  rw [List.take_length, List.drop_length, List.map_nil, List.append_nil]
  refine ⟨z, ?_⟩
  congr 1
  induction low s with
  | nil => rfl
  | cons x r ih => rw [List.flatMap_cons, ih]; rfl
theorem or32 : ∀ x : Fin 26, ibits .or .u8 (((x.1 + 65 : Nat) : Int)) 32 = ((x.1 + 65 + 32 : Nat) : Int) := by decide
theorem low_or {s : Bs} {j : Nat} (h : j < s.length) (hc : 65 ≤ byteAt s j ∧ byteAt s j ≤ 90) : Value.int .u8 (ibits .or .u8 (byteAt s j) 32) = ch (lowc s[j]) := by
  rw [byteAt_get h] at *
  have e := or32 ⟨s[j].toNat - 65, by omega⟩
  simp only [show s[j].toNat - 65 + 65 = s[j].toNat by omega] at e
  rw [e]
  unfold ch
  rw [lowc_yes (by omega) (by omega)]
end Go.BK
