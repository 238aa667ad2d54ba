/- A slice that is written out under a guard: this file names no program. -/
import Derived.Test.YtcmolgiccccnoaaTree
set_option linter.unusedVariables false
set_option linter.unusedSimpArgs false
namespace Go.BK
open Go.RowKit
section
variable {ρ : Option Nat} {P : Program} {ops : Array Oper} {Q : Post} {ds : List Deferred} {n : Nat} {rest : List Oper} {K : Kn} {w w0 : World} {ty : TypeId} {S : Nat → Prop} {σ : Held}
theorem exec_buildSlice {t e k len : Nat} {parts : Array (Nat × Operand)} {z : Value} {vs : List Value} {ps : List (Nat × Value)} (hu : P.underlying t = some (.slice e)) (hs : szOk P e k) (hz : zOk P e z)
    (hps : evp K parts.toList = some ps) (hb : len * k ≤ 16777216) (h0 : 0 < len * k) (hzk : z.cells.toList.length = k) (hfill : fillL (fun i => some (i * k, k)) (List.replicate len z.cells.toList).flatten ps = some vs)
    {l : Array Value} (hl : Agree n K l) (d : Option Tmp) (pos : String) (es : Array Edge) (g : Option (Nat × Bool)) :
    (execOp (Act.eval ⟨l, ds⟩) ⟨d, .buildSlice t len parts, ty, pos, es, g⟩).run P w = .ok (.value (.slice (some ⟨w.heap.size, 0, none⟩) len len)) (w.alloc (.cells vs.toArray e)) := by
  have hzs : z.cells.size = k := by simpa using hzk
  have hzero : ((Array.range (len * k)).map (z.cells[· % z.cells.size]!)) = (List.replicate len z.cells.toList).flatten.toArray := by
    apply Array.toList_inj.1
    apply List.ext_getElem?
    intro m
    have hkp : 0 < k := Nat.pos_of_ne_zero (by intro h; subst h; omega)
    have hlen : ∀ n : Nat, (List.replicate n z.cells.toList).flatten.length = n * k := by
      intro n; simp [hzs]
    have hget : ∀ (n m : Nat), m < n * k → (List.replicate n z.cells.toList).flatten[m]? = z.cells[m % k]? := by
      intro n
      induction n with
      | zero => intro m hm; omega
      | succ n ih =>
        intro m hm
        rw [List.replicate_succ, List.flatten_cons]
        rcases Nat.lt_or_ge m k with h | h
        · rw [List.getElem?_append_left (by simp; omega), Nat.mod_eq_of_lt h]; simp
        · rw [List.getElem?_append_right (by simp; omega)]
          simp only [Array.length_toList, hzs]
          rw [ih (m - k) (by rw [Nat.add_mul] at hm; omega), Nat.mod_eq_sub_mod h]
    rcases Nat.lt_or_ge m (len * k) with hm | hm
    · rw [show (List.replicate len z.cells.toList).flatten.toArray.toList = (List.replicate len z.cells.toList).flatten from rfl, hget len m hm]
      have hmk : m % k < z.cells.size := by rw [hzs]; exact Nat.mod_lt _ hkp
      simp [hm, hzs, hmk]
      rw [hzs] at hmk
      simp [hzs, hmk]
    · rw [List.getElem?_eq_none (by simp; omega), List.getElem?_eq_none (by rw [hlen]; omega)]
  have hfill : Instr.fill (fun i => some (i * k, k)) ((Array.range (len * k)).map (z.cells[· % z.cells.size]!)) ps = some vs.toArray := by
    rw [hzero]; exact fill_fillL _ ps _ vs hfill
  have e1 : (parts.map fun (i, x) => (i, Act.eval ⟨l, ds⟩ x)).toList = ps := by simpa using evp_map (ds := ds) hl parts.toList ps hps
  have h2 : ¬ len * k > 2 ^ 24 := by omega
  have h3 : ¬ len * k = 0 := by omega
  simp only [execOp, Instr.buildSlice, e1, Sem.run_bind, run_underlying hu, Result.andThen_ok, run_sizeOf hs, if_neg h2, if_neg h3, Sem.run_pure, run_zero hz, hfill, newRow, run_newObj]
  rfl
theorem WL.gbuildSlice {d j : Nat} {b g : Bool} {t e k len : Nat} {pos : String} {es : Array Edge} {parts : Array (Nat × Operand)} {z : Value} {vs : List Value} {ps : List (Nat × Value)} (hm : Met ops K j b g) (hu : P.underlying t = some (.slice e)) (hs : szOk P e k) (hz : zOk P e z)
    (hps : g = true → evp K parts.toList = some ps) (hb : len * k ≤ 16777216) (h0 : 0 < len * k) (hzk : z.cells.toList.length = k) (hfill : g = true → fillL (fun i => some (i * k, k)) (List.replicate len z.cells.toList).flatten ps = some vs) (H : St w0 S w σ) (hd : Nat.blt d n = true)
    (kk : ∀ b' w', St w0 S w' σ → Ext w w' → (g = true → w'.heap[b']? = some (.cells vs.toArray e (0, 0))) → WL ρ P ops Q ds n rest ((d, gv g (.slice (some ⟨b', 0, none⟩) len len)) :: K) w') :
    WL ρ P ops Q ds n (⟨some d, .buildSlice t len parts, ty, pos, es, some (j, b)⟩ :: rest) K w := fun l hl => by
  unfold wpListIn
  rw [hm.wanted hl rfl]
  cases g with
  | true =>
    rw [if_pos rfl]
    refine ⟨fun _ _ => trivial, ?_⟩
    rw [semAt_run rfl (exec_buildSlice hu hs hz (hps rfl) hb h0 hzk (hfill rfl) hl _ _ _ _)]
    exact kk w.heap.size _ (H.ext (Ext.alloc _ _)) (Ext.alloc _ _) (fun _ => by show (w.heap.push _)[w.heap.size]? = _; simp) _ (hl.put hd _)
  | false =>
    rw [if_neg (by simp)]
    exact ⟨fun _ _ => trivial, kk 0 w H (Ext.refl w) (fun h => by cases h) _ (hl.put hd undef)⟩
theorem evp_cons {i : Nat} {x : Operand} {r : List (Nat × Operand)} {v : Value} {vs : List (Nat × Value)} (h : evO K x = some v) (h' : evp K r = some vs) : evp K ((i, x) :: r) = some ((i, v) :: vs) := by simp [evp, h, h']
theorem Rd.ofCells {α : Type} (k : Kd α) {b c : Nat} {cs : List Value} {t : TypeId} {fz : Nat × Nat} (h : w.heap[b]? = some (.cells cs.toArray t fz)) (xs : List α) (hcs : xs.flatMap k.enc = cs) (hc : xs.length ≤ c) : Rd k (fun _ => True) w (some ⟨b, 0, none⟩) c xs :=
  ⟨hc, fun hp => ⟨b, 0, rfl, trivial, fun j x hx i v hv => by
    have h1 := flat_get xs j x hx i v hv
    rw [hcs] at h1
    rw [Nat.zero_add]
    simp [World.cell?, h, h1]⟩⟩
end
end Go.BK
