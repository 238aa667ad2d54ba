/- Memory, as rules over what is known of a frame and of the blocks that a call holds: this file names no program. -/
import Derived.Test.YtodappgiadelaaaDoorOp
import Derived.Maps.AppendAt
import Derived.Laws.CopyRow
set_option linter.unusedVariables false
set_option linter.unusedSimpArgs false
namespace Go.BK
open Go.RowKit

/-! ### Worlds -/
/-- But for the blocks of S the old memory is as it was. -/
structure Gr (S : Nat → Prop) (w w' : World) : Prop where
  os : w'.os = w.os
  tape : w'.tape = w.tape
  output : w'.output = w.output
  size : w.heap.size ≤ w'.heap.size
  block : ∀ k, k < w.heap.size → ¬ S k → w'.heap[k]? = w.heap[k]?
def No : Nat → Prop := fun _ => False
abbrev Ext (w w' : World) : Prop := Gr No w w'
theorem Gr.refl (S : Nat → Prop) (w : World) : Gr S w w := ⟨rfl, rfl, rfl, Nat.le_refl _, fun _ _ _ => rfl⟩
theorem Gr.trans' {S S' : Nat → Prop} {a b c : World} (h : Gr S a b) (k : Gr S' b c) (hs : ∀ i, i < a.heap.size → S' i → S i) : Gr S a c :=
  ⟨k.os.trans h.os, k.tape.trans h.tape, k.output.trans h.output, Nat.le_trans h.size k.size, fun i hi hn => (k.block i (Nat.lt_of_lt_of_le hi h.size) (fun hh => hn (hs i hi hh))).trans (h.block i hi hn)⟩
theorem Gr.trans {S : Nat → Prop} {a b c : World} (h : Gr S a b) (k : Gr S b c) : Gr S a c := h.trans' k fun _ _ h => h
theorem Gr.mono {S S' : Nat → Prop} {a b : World} (h : Gr S a b) (hs : ∀ i, i < a.heap.size → S i → S' i) : Gr S' a b :=
  ⟨h.os, h.tape, h.output, h.size, fun i hi hn => h.block i hi (fun hh => hn (hs i hi hh))⟩
theorem Gr.ext {S : Nat → Prop} {a b c : World} (h : Gr S a b) (k : Ext b c) : Gr S a c := h.trans' k fun _ _ h => h.elim
theorem Gr.of_ext {S : Nat → Prop} {a b : World} (h : Ext a b) : Gr S a b := h.mono fun _ _ h => h.elim
theorem Ext.refl (w : World) : Ext w w := Gr.refl _ w
theorem Ext.alloc (w : World) (o : Obj) : Ext w (w.alloc o) := ⟨rfl, rfl, rfl, by simp, fun k hk _ => Below.heap_alloc w o k hk⟩
theorem Ext.drew (w : World) : Ext w w.drew := ⟨rfl, rfl, rfl, Nat.le_refl _, fun _ _ _ => rfl⟩
theorem Gr.of_grownBy {w w' : World} {r : Option Nat} (h : w.grownBy w' r) : Gr (fun k => some k = r) w w' := ⟨h.os, h.tape, h.output, h.size, fun k hk hn => h.block k hk hn⟩
theorem Gr.grownBy {w w' : World} {r : Option Nat} (h : Gr (fun k => some k = r) w w') : w.grownBy w' r := ⟨h.os, h.tape, h.output, h.size, fun k hk hn => h.block k hk hn⟩
theorem Ext.below {w w' : World} (h : Ext w w') : Below w.heap.size w w' := ⟨h.os, h.tape, h.output, h.size, fun k hk => h.block k hk (fun h => h)⟩
theorem Ext.of_below {w w' : World} (h : Below w.heap.size w w') : Ext w w' := ⟨h.os, h.tape, h.output, h.size, fun k hk _ => h.block k hk⟩
theorem Gr.cell {S : Nat → Prop} {w w' : World} (h : Gr S w w') {a : Addr} (hn : ¬ S a.block) {v : Value} (hc : w.cell? a = some v) : w'.cell? a = some v :=
  (World.cell?_of_block (h.block _ (World.block_lt_of_cell? w a hc) hn)).trans hc
theorem Ext.cell {w w' : World} (h : Ext w w') {a : Addr} {v : Value} (hc : w.cell? a = some v) : w'.cell? a = some v := Gr.cell h (fun h => h) hc

/-! ### What a call holds -/
inductive Chunk where
  | blk (b : Nat) (cs : List Value) (t : TypeId) (fz : Nat × Nat)
  | row (e : TypeId) (sz : Nat) (A : Option Addr) (n c : Nat) (xs : List Value)
def Chunk.holds (w : World) : Chunk → Prop
  | .blk b cs t fz => w.heap[b]? = some (.cells cs.toArray t fz)
  | .row e sz A n c xs => w.ownsRow 0 e sz (.slice A n c) n xs
def Chunk.blocks : Chunk → List Nat
  | .blk b _ _ _ => [b]
  | .row _ _ A _ _ _ => match A with | some a => [a.block] | none => []
theorem Chunk.holds_of {w w' : World} {c : Chunk} (h : c.holds w) (hb : ∀ b ∈ c.blocks, w'.heap[b]? = w.heap[b]?) : c.holds w' := by
  cases c with
  | blk b cs t fz => exact (hb b (by simp [Chunk.blocks])).trans h
  | row e sz A n cc xs =>
    obtain ⟨h1, h2⟩ := h
    refine ⟨h1, ?_⟩
    rcases h2 with h2 | ⟨g, cap, cur, he, h3, h4, h5⟩
    · exact .inl h2
    · refine .inr ⟨g, cap, cur, he, h3, ?_, h5⟩
      injection he with e1 e2 e3
      subst e1
      rw [hb g (by simp [Chunk.blocks])]
      exact h4
theorem Chunk.lt {w : World} {c : Chunk} (h : c.holds w) {b : Nat} (hb : b ∈ c.blocks) : b < w.heap.size := by
  have key : ∀ o, w.heap[b]? = some o → b < w.heap.size := fun o ho => by
    rcases Nat.lt_or_ge b w.heap.size with h' | h'
    · exact h'
    · rw [Array.getElem?_eq_none h'] at ho; cases ho
  cases c with
  | blk b' cs t fz => obtain rfl : b = b' := by simpa [Chunk.blocks] using hb
                      exact key _ h
  | row e sz A n cc xs =>
    obtain ⟨h1, h2⟩ := h
    rcases h2 with ⟨h2, _⟩ | ⟨g, cap, cur, he, h3, h4, h5⟩
    · injection h2 with e1; subst e1; simp [Chunk.blocks] at hb
    · injection he with e1; subst e1
      obtain rfl : b = g := by simpa [Chunk.blocks] using hb
      exact key _ h4
abbrev Held := List Chunk
/-- From w0 on: what is held, and that all else that was there is as it was, but for S. -/
structure St (w0 : World) (S : Nat → Prop) (w : World) (σ : Held) : Prop where
  gr : Gr S w0 w
  cont : ∀ c ∈ σ, c.holds w ∧ ∀ b ∈ c.blocks, S b ∨ w0.heap.size ≤ b
  nd : (σ.flatMap Chunk.blocks).Nodup
section
variable {w0 w w' : World} {S : Nat → Prop} {σ : Held}
theorem St.init (w : World) : St w No w [] := ⟨Gr.refl _ _, by simp, by simp⟩
theorem St.lt (H : St w0 S w σ) {c : Chunk} (hc : c ∈ σ) {b : Nat} (hb : b ∈ c.blocks) : b < w.heap.size := Chunk.lt (H.cont c hc).1 hb
theorem St.keep (H : St w0 S w σ) {S' : Nat → Prop} (L : Gr S' w w') (h1 : ∀ c ∈ σ, ∀ b ∈ c.blocks, ¬ S' b) (h2 : ∀ i, i < w0.heap.size → S' i → S i) : St w0 S w' σ :=
  ⟨H.gr.trans' L h2, fun c hc => ⟨Chunk.holds_of (H.cont c hc).1 fun b hb => L.block b (H.lt hc hb) (h1 c hc b hb), (H.cont c hc).2⟩, H.nd⟩
theorem St.ext (H : St w0 S w σ) (L : Ext w w') : St w0 S w' σ := H.keep L (fun _ _ _ _ h => h) fun _ _ h => h.elim
/-- What another call has brought. -/
theorem St.app (H : St w0 S w σ) {σ' : Held} (H' : St w No w' σ') : St w0 S w' (σ' ++ σ) := by
  have H1 := H.ext H'.gr
  refine ⟨H1.gr, fun c hc => ?_, ?_⟩
  · rcases List.mem_append.1 hc with hc | hc
    · refine ⟨(H'.cont c hc).1, fun b hb => .inr ?_⟩
      rcases (H'.cont c hc).2 b hb with h | h
      · exact h.elim
      · exact Nat.le_trans H.gr.size h
    · exact H1.cont c hc
  · rw [List.flatMap_append, List.nodup_append]
    refine ⟨H'.nd, H.nd, fun a ha b hb hab => ?_⟩
    subst hab
    obtain ⟨c, hc, hcb⟩ := List.mem_flatMap.1 ha
    obtain ⟨d, hd, hdb⟩ := List.mem_flatMap.1 hb
    have h1 := H.lt hd hdb
    rcases (H'.cont c hc).2 a hcb with h | h
    · exact h.elim
    · omega
theorem sub_flat {α β : Type} (f : α → List β) {l l' : List α} (h : l.Sublist l') : (l.flatMap f).Sublist (l'.flatMap f) := by
  induction h with
  | slnil => simp
  | cons a _ ih => rw [List.flatMap_cons]; exact ih.trans (List.sublist_append_right _ _)
  | cons_cons a _ ih => rw [List.flatMap_cons, List.flatMap_cons]; exact List.Sublist.append (List.Sublist.refl _) ih
theorem St.sub (H : St w0 S w σ) {σ' : Held} (h : σ'.Sublist σ) : St w0 S w σ' :=
  ⟨H.gr, fun c hc => H.cont c (h.subset hc), H.nd.sublist (sub_flat _ h)⟩
theorem St.perm (H : St w0 S w σ) {σ' : Held} (h : σ'.Perm σ) : St w0 S w σ' :=
  ⟨H.gr, fun c hc => H.cont c (h.subset hc), (h.flatMap_right _).nodup_iff.2 H.nd⟩
theorem St.tail {c : Chunk} (H : St w0 S w (c :: σ)) : St w0 S w σ := H.sub (List.sublist_cons_self _ _)
theorem St.done (H : St w0 S w σ) : St w0 S w [] := H.sub (List.nil_sublist _)
theorem St.alloc (H : St w0 S w σ) (cs : List Value) (t : TypeId) : St w0 S (w.alloc (.cells cs.toArray t)) (.blk w.heap.size cs t (0, 0) :: σ) := by
  have H' : St w No (w.alloc (.cells cs.toArray t)) [.blk w.heap.size cs t (0, 0)] :=
    ⟨Ext.alloc _ _, fun c hc => by
      obtain rfl := List.mem_singleton.1 hc
      exact ⟨by show (w.heap.push _)[w.heap.size]? = _; simp, fun b hb => .inr (by simp only [Chunk.blocks, List.mem_singleton] at hb; omega)⟩, by simp [Chunk.blocks]⟩
  exact H.app H'
/-- A held block's cells. -/
theorem St.blk (H : St w0 S w σ) (i : Nat) {b : Nat} {cs : List Value} {t : TypeId} {fz : Nat × Nat} (hσ : σ[i]? = some (.blk b cs t fz)) : w.heap[b]? = some (.cells cs.toArray t fz) :=
  (H.cont _ (List.mem_of_getElem? hσ)).1
theorem St.cell (H : St w0 S w σ) (i : Nat) {b : Nat} {cs : List Value} {t : TypeId} {fz : Nat × Nat} (hσ : σ[i]? = some (.blk b cs t fz)) {o : Nat} {v : Value} (ho : cs[o]? = some v) : w.cell? ⟨b, o, none⟩ = some v := by
  simp [World.cell?, H.blk i hσ, ho]
theorem add_none (b o j : Nat) : (⟨b, o, none⟩ : Addr).add j = ⟨b, o + j, none⟩ := by unfold Addr.add; split <;> simp_all
theorem St.cells (H : St w0 S w σ) (i : Nat) {b : Nat} {cs : List Value} {t : TypeId} {fz : Nat × Nat} (hσ : σ[i]? = some (.blk b cs t fz)) {o : Nat} {vs : List Value} (ho : (cs.drop o).take vs.length = vs) :
    ∀ j v, vs[j]? = some v → w.cell? ((⟨b, o, none⟩ : Addr).add j) = some v := by
  intro j v hj
  rw [add_none]
  refine H.cell i hσ ?_
  have hlt : j < vs.length := by
    rcases Nat.lt_or_ge j vs.length with h | h
    · exact h
    · rw [List.getElem?_eq_none h] at hj; cases hj
  have h2 : ((cs.drop o).take vs.length)[j]? = some v := by rw [ho]; exact hj
  rw [List.getElem?_take_of_lt hlt, List.getElem?_drop] at h2
  exact h2
/-- What is held is written. -/
theorem St.set (H : St w0 S w σ) (i : Nat) {c : Chunk} (hσ : σ[i]? = some c) (c' : Chunk) (L : Gr (fun k => k ∈ c.blocks) w w') (hh : c'.holds w') (hb : ∀ k ∈ c'.blocks, k ∈ c.blocks ∨ w.heap.size ≤ k) (hn : c'.blocks.Nodup) :
    St w0 S w' (σ.set i c') := by
  have hi : i < σ.length := by
    rcases Nat.lt_or_ge i σ.length with h | h
    · exact h
    · rw [List.getElem?_eq_none h] at hσ; cases hσ
  have hmem := List.mem_of_getElem? hσ
  have e0 : σ = σ.take i ++ c :: σ.drop (i + 1) := by
    have := List.take_append_drop i σ
    rw [List.drop_eq_getElem_cons hi] at this
    rw [List.getElem?_eq_getElem hi, Option.some.injEq] at hσ
    rw [hσ] at this
    exact this.symm
  have e1 : σ.set i c' = σ.take i ++ c' :: σ.drop (i + 1) := List.set_eq_take_append_cons_drop ▸ by simp [hi]
  have hnd := H.nd
  rw [e0, List.flatMap_append, List.flatMap_cons] at hnd
  rw [List.nodup_append, List.nodup_append] at hnd
  obtain ⟨hn1, ⟨_, hn3, hn4⟩, hn5⟩ := hnd
  have hin : ∀ d ∈ σ.take i ++ σ.drop (i + 1), d ∈ σ := fun d hd => by
    rcases List.mem_append.1 hd with h | h
    · exact List.mem_of_mem_take h
    · exact List.mem_of_mem_drop h
  have hout : ∀ d ∈ σ.take i ++ σ.drop (i + 1), ∀ k ∈ d.blocks, k ∉ c.blocks := by
    intro d hd k hk hkc
    rcases List.mem_append.1 hd with hd | hd
    · exact hn5 k (List.mem_flatMap.2 ⟨d, hd, hk⟩) k (List.mem_append_left _ hkc) rfl
    · exact hn4 k hkc k (List.mem_flatMap.2 ⟨d, hd, hk⟩) rfl
  have hout' : ∀ d ∈ σ.take i ++ σ.drop (i + 1), ∀ k ∈ d.blocks, k ∉ c'.blocks := by
    intro d hd k hk hkc
    rcases hb k hkc with h | h
    · exact hout d hd k hk h
    · have := H.lt (hin d hd) hk; omega
  refine ⟨H.gr.trans' L ?_, ?_, ?_⟩
  · intro k hk hkb
    rcases (H.cont _ hmem).2 k hkb with h | h
    · exact h
    · omega
  · rw [e1]
    intro d hd
    have hd' : d = c' ∨ d ∈ σ.take i ++ σ.drop (i + 1) := by
      simp only [List.mem_append, List.mem_cons] at hd ⊢
      rcases hd with h | h | h
      · exact .inr (.inl h)
      · exact .inl h
      · exact .inr (.inr h)
    rcases hd' with rfl | hd'
    · refine ⟨hh, fun k hk => ?_⟩
      rcases hb k hk with h | h
      · exact (H.cont _ hmem).2 k h
      · exact .inr (Nat.le_trans H.gr.size h)
    · exact ⟨Chunk.holds_of (H.cont d (hin d hd')).1 fun k hk => L.block k (H.lt (hin d hd') hk) (hout d hd' k hk), (H.cont d (hin d hd')).2⟩
  · rw [e1, List.flatMap_append, List.flatMap_cons, List.nodup_append, List.nodup_append]
    refine ⟨hn1, ⟨hn, hn3, fun a ha b hb' hab => ?_⟩, fun a ha b hb' hab => ?_⟩
    · subst hab
      obtain ⟨d, hd, hk⟩ := List.mem_flatMap.1 hb'
      exact hout' d (List.mem_append_right _ hd) a hk ha
    · subst hab
      obtain ⟨d, hd, hk⟩ := List.mem_flatMap.1 ha
      rcases List.mem_append.1 hb' with h | h
      · exact hout' d (List.mem_append_left _ hd) a hk h
      · exact hn5 a ha a (List.mem_append_right _ h) rfl
theorem St.put (H : St w0 S w σ) (i : Nat) {b : Nat} {cs : List Value} {t : TypeId} {fz : Nat × Nat} (hσ : σ[i]? = some (.blk b cs t fz)) (cs' : List Value) (L : Gr (fun k => k = b) w w') (hb : w'.heap[b]? = some (.cells cs'.toArray t fz)) :
    St w0 S w' (σ.set i (.blk b cs' t fz)) :=
  H.set i hσ _ (L.mono fun k _ h => by simp [Chunk.blocks, h]) hb (fun k hk => .inl hk) (by simp [Chunk.blocks])
end

/-! ### Facts on types -/
def szOk (P : Program) (t : TypeId) (k : Nat) : Prop := (P.info? t).map (·.size) = some k
def byOk (P : Program) (t : TypeId) (k : Nat) : Prop := (P.info? t).map (·.bytes) = some k
def zOk (P : Program) (t : TypeId) (z : Value) : Prop := (P.info? t).map (·.zero) = some (some z)
def flatB (P : Program) (t : TypeId) : Bool := match P.underlying t with
  | some (.struct _) | some (.array _ _) | none => false
  | some _ => true
def aggB (P : Program) (t : TypeId) : Bool := match P.underlying t with
  | some (.struct _) | some (.array _ _) => true
  | _ => false
def fldB (P : Program) (s i off : Nat) : Bool := match P.underlying s with
  | some (.struct fs) => match fs[i]? with
    | some f => f.offset == off && (match P.info? f.type with | some j => j.size != 0 | none => false)
    | none => false
  | _ => false
section
variable {ρ : Option Nat} {P : Program} {ops : Array Oper} {Q : Post} {ds : List Deferred} {n : Nat} {rest : List Oper} {K : Kn} {w w' : World} {ty : TypeId}
theorem run_isAgg_flat {t : TypeId} (h : flatB P t = true) (w : World) : (isAgg t).run P w = .ok false w := by
  unfold flatB at h
  cases hu : P.underlying t with
  | none => rw [hu] at h; cases h
  | some d => rw [hu] at h; cases d <;> simp at h <;> simp [isAgg, run_underlying hu]
theorem run_isAgg_agg {t : TypeId} (h : aggB P t = true) (w : World) : (isAgg t).run P w = .ok true w := by
  unfold aggB at h
  cases hu : P.underlying t with
  | none => rw [hu] at h; cases h
  | some d => rw [hu] at h; cases d <;> simp at h <;> simp [isAgg, run_underlying hu]
theorem run_sizeOf {t : TypeId} {k : Nat} (h : szOk P t k) (w : World) : (sizeOf t).run P w = .ok k w := by
  unfold szOk at h
  obtain ⟨i, hi, rfl⟩ := Option.map_eq_some_iff.1 h
  simp [sizeOf, typeInfo, hi]
theorem run_zero {t : TypeId} {z : Value} (h : zOk P t z) (w : World) : (zeroValue t).run P w = .ok z w := by
  unfold zOk at h
  obtain ⟨i, hi, hz⟩ := Option.map_eq_some_iff.1 h
  simp [zeroValue, typeInfo, hi, hz]

/-! ### Loads -/
theorem Ev.load {t : TypeId} {x : Operand} {a : Addr} {v : Value} (ht : flatB P t = true) (hx : evO K x = some (.pointer (some a))) (hc : w.cell? a = some v) : Ev P K (.load t x) ty w v w := by
  intro n ds l d pos es g hl
  simp [execOp, ev_of hl hx, Instr.loadAt, Instr.sureAddr, loadVar, run_isAgg_flat ht, hc]
theorem Ev.loadA {t : TypeId} {x : Operand} {a : Addr} {vs : List Value} (ht : aggB P t = true) (hs : szOk P t vs.length) (hx : evO K x = some (.pointer (some a))) (hc : ∀ j v, vs[j]? = some v → w.cell? (a.add j) = some v) : Ev P K (.load t x) ty w (.agg vs.toArray) w := by
  intro n ds l d pos es g hl
  simp [execOp, ev_of hl hx, Instr.loadAt, Instr.sureAddr, loadVar, run_isAgg_agg ht, run_sizeOf hs, run_loadCells_list w a vs hc]
theorem Ev.fieldAddr {s i off b o : Nat} {x : Operand} (hf : fldB P s i off = true) (hx : evO K x = some (.pointer (some ⟨b, o, none⟩))) : Ev P K (.fieldAddr s x i) ty w (.pointer (some ⟨b, o + off, none⟩)) w := by
  intro n ds l d pos es g hl
  unfold fldB at hf
  cases hu : P.underlying s with
  | none => rw [hu] at hf; cases hf
  | some de =>
    rw [hu] at hf
    cases de <;> simp at hf
    rename_i fs
    cases hfi : fs[i]? with
    | none => rw [hfi] at hf; cases hf
    | some f =>
      rw [hfi] at hf
      simp only [Bool.and_eq_true, beq_iff_eq] at hf
      obtain ⟨h1, h2⟩ := hf
      cases hj : P.info? f.type with
      | none => rw [hj] at h2; cases h2
      | some j =>
        rw [hj] at h2
        have h3 : j.size ≠ 0 := by simpa using h2
        subst h1
        simp [execOp, ev_of hl hx, Instr.fieldAt, run_underlying hu, hfi, Instr.sureAddr, fieldPlace, sizeOf, typeInfo, hj, h3, add_none]
/-- A field of a struct's value. -/
theorem Ev.field {s i off k : Nat} {x : Operand} {fs : Array Field} {f : Field} {vs us : List Value} (hu : P.underlying s = some (.struct fs)) (hf : fs[i]? = some f) (ho : f.offset = off) (ha : aggB P f.type = true) (hs : szOk P f.type k)
    (hx : evO K x = some (.agg vs.toArray)) (hv : (vs.drop off).take k = us) : Ev P K (.field s x i) ty w (.agg us.toArray) w := by
  intro n ds l d pos es g hl
  subst ho
  simp only [execOp, ev_of hl hx, Instr.field]
  simp [run_underlying hu, hf, asAgg, part, run_isAgg_agg ha, run_sizeOf hs]
  rw [← hv]
theorem Ev.field1 {s i off : Nat} {x : Operand} {fs : Array Field} {f : Field} {vs : List Value} {v : Value} (hu : P.underlying s = some (.struct fs)) (hf : fs[i]? = some f) (ho : f.offset = off) (ha : flatB P f.type = true)
    (hx : evO K x = some (.agg vs.toArray)) (hv : vs[off]? = some v) : Ev P K (.field s x i) ty w v w := by
  intro n ds l d pos es g hl
  subst ho
  simp only [execOp, ev_of hl hx, Instr.field]
  simp [run_underlying hu, hf, asAgg, part, run_isAgg_flat ha, hv]
theorem Ev.indexAddr {t e b o m c k : Nat} {x y : Operand} {i : Int} {q : IntKind} (ht : P.underlying t = some (.slice e)) (hs : szOk P e k) (hx : evO K x = some (.slice (some ⟨b, o, none⟩) m c)) (hy : evO K y = some (.int q i)) (h0 : 0 ≤ i) (h1 : i < m) :
    Ev P K (.indexAddr t x y) ty w (.pointer (some ⟨b, o + i.toNat * k, none⟩)) w := by
  intro n ds l d pos es g hl
  simp [execOp, ev_of hl hx, ev_of hl hy, Instr.indexAt, asIntOf, run_underlying ht, h0, h1, run_sizeOf hs, add_none]
theorem Ev.indexArr {t e b o m k : Nat} {x y : Operand} {i : Int} {q : IntKind} (ht : P.underlying t = some (.array m e)) (hs : szOk P e k) (hx : evO K x = some (.pointer (some ⟨b, o, none⟩))) (hy : evO K y = some (.int q i)) (h0 : 0 ≤ i) (h1 : i < m) :
    Ev P K (.indexAddr t x y) ty w (.pointer (some ⟨b, o + i.toNat * k, none⟩)) w := by
  intro n ds l d pos es g hl
  simp [execOp, ev_of hl hx, ev_of hl hy, Instr.indexAt, asIntOf, run_underlying ht, h0, h1, run_sizeOf hs, add_none, Instr.sureAddr]

/-! ### New blocks; stores -/
variable {w0 : World} {S : Nat → Prop} {σ : Held}
theorem WL.alloc {d : Nat} {t : TypeId} {pos : String} {es : Array Edge} {z : Value} {cs : List Value} (hz : zOk P t z) (hcs : z.cells = cs.toArray) (H : St w0 S w σ) (hd : Nat.blt d n = true)
    (k : ∀ b w', b = w.heap.size → St w0 S w' (.blk b cs t (0, 0) :: σ) → Ext w w' → WL ρ P ops Q ds n rest ((d, .pointer (some ⟨b, 0, none⟩)) :: K) w') :
    WL ρ P ops Q ds n (⟨some d, .alloc t, ty, pos, es, none⟩ :: rest) K w := by
  refine WL.value _ (w' := w.alloc (.cells cs.toArray t)) (fun l hl => ?_) hd (k _ _ rfl (H.alloc cs t) (Ext.alloc _ _))
  simp [execOp, Instr.alloc, run_zero hz, newVar, newRow, hcs]
theorem WL.box {d : Nat} {t : TypeId} {x : Operand} {pos : String} {es : Array Edge} {v : Value} {cs : List Value} (hx : evO K x = some v) (hcs : v.cells = cs.toArray) (H : St w0 S w σ) (hd : Nat.blt d n = true)
    (k : ∀ b w', b = w.heap.size → St w0 S w' (.blk b cs t (0, 0) :: σ) → Ext w w' → WL ρ P ops Q ds n rest ((d, .pointer (some ⟨b, 0, none⟩)) :: K) w') :
    WL ρ P ops Q ds n (⟨some d, .box t x, ty, pos, es, none⟩ :: rest) K w := by
  refine WL.value _ (w' := w.alloc (.cells cs.toArray t)) (fun l hl => ?_) hd (k _ _ rfl (H.alloc cs t) (Ext.alloc _ _))
  simp [execOp, Instr.box, ev_of hl hx, newVar, newRow, hcs]
def splice (cs : List Value) (o : Nat) (vs : List Value) : List Value := cs.take o ++ vs ++ cs.drop (o + vs.length)
def allOne : List Value → Bool
  | [] => true
  | v :: r => v.oneCell' && allOne r
theorem allOne_mem {vs : List Value} (h : allOne vs = true) : ∀ v ∈ vs, v.oneCell' = true := by
  induction vs with
  | nil => simp
  | cons x r ih =>
    simp only [allOne, Bool.and_eq_true] at h
    intro v hv
    rcases List.mem_cons.1 hv with rfl | hv
    · exact h.1
    · exact ih h.2 v hv
theorem setRow_gr (w : World) (g : Nat) (cs : Array Value) : Gr (fun k => k = g) w (w.setRow g cs) :=
  ⟨rfl, rfl, rfl, by simp [World.setRow], fun k hk hn => by simp only [World.setRow, Array.getElem?_modify]; rw [if_neg (fun e => hn e.symm)]⟩
theorem WL.store {i : Nat} {t tt b o : Nat} {x y : Operand} {pos : String} {es : Array Edge} {v : Value} {cs vs : List Value} (hx : evO K x = some (.pointer (some ⟨b, o, none⟩))) (hy : evO K y = some v) (hvs : v.cells = vs.toArray) (hs : szOk P t vs.length) (h1 : allOne vs = true)
    (H : St w0 S w σ) (hσ : σ[i]? = some (.blk b cs tt (0, 0))) (hfit : Nat.ble (o + vs.length) cs.length = true)
    (k : ∀ w', St w0 S w' (σ.set i (.blk b (splice cs o vs) tt (0, 0))) → Gr (fun k => k = b) w w' → WL ρ P ops Q ds n rest K w') :
    WL ρ P ops Q ds n (⟨none, .store t x y, ty, pos, es, none⟩ :: rest) K w := by
  have hB := H.blk i hσ
  have hf := Nat.le_of_ble_eq_true hfit
  have hrun := run_storeCells_at P b o tt vs 0 cs.toArray w hB (by simpa using hf) (allOne_mem h1)
  simp only [Nat.add_zero] at hrun
  have L := setRow_gr w b (splice cs o vs).toArray
  have hb' : (w.setRow b (splice cs o vs).toArray).heap[b]? = some (.cells (splice cs o vs).toArray tt (0, 0)) := setRow_heap w b _ _ tt _ hB
  refine WL.skip (w' := w.setRow b (splice cs o vs).toArray) (fun l hl => ?_) (k _ (H.put i hσ _ L hb') L)
  have hsz : v.cells.size = vs.length := by rw [hvs]; simp
  simp [execOp, ev_of hl hx, ev_of hl hy, Instr.storeAt, Instr.sureAddr, storeVar, run_sizeOf hs, hsz, hvs]
  rw [hrun]
  rfl

/-! ### Literals -/
def evp (K : Kn) : List (Nat × Operand) → Option (List (Nat × Value))
  | [] => some []
  | (i, x) :: r => match evO K x, evp K r with
    | some v, some vs => some ((i, v) :: vs)
    | _, _ => none
/-- 'Instr.fill' over lists. -/
def fillL (place : Nat → Option (Nat × Nat)) : List Value → List (Nat × Value) → Option (List Value)
  | cells, [] => some cells
  | cells, (i, v) :: r => match place i with
    | none => none
    | some (off, size) => bif Nat.beq v.cells.toList.length size && Nat.ble (off + v.cells.toList.length) cells.length then fillL place (splice cells off v.cells.toList) r else none
theorem set_mid (l : List Value) (p : Nat) (v : Value) (vs : List Value) (h : p + vs.length < l.length) :
    ((l.set p v).take (p + 1) ++ vs ++ (l.set p v).drop (p + 1 + vs.length)) = l.take p ++ v :: vs ++ l.drop (p + (vs.length + 1)) := by
  have e : l.set p v = l.take p ++ v :: l.drop (p + 1) := by
    rw [List.set_eq_take_append_cons_drop, if_pos (by omega)]
  have hl : (l.take p).length = p := by rw [List.length_take]; omega
  rw [e]
  simp only [List.take_append, List.drop_append, hl]
  have e1 : (l.take p).drop (p + 1 + vs.length) = [] := List.drop_eq_nil_of_le (by omega)
  have e2 : p + 1 + vs.length - p = vs.length + 1 := by omega
  have e3 : p + 1 - p = 1 := by omega
  rw [e1, e2, e3]
  simp only [List.drop_succ_cons, List.drop_drop, List.take_take, List.nil_append, List.take_succ_cons, List.take_zero]
  rw [show min (p + 1) p = p by omega, show p + 1 + vs.length = p + (vs.length + 1) by omega]
  simp
theorem foldl_set : ∀ (vs : List Value) (m off : Nat) (cells : Array Value), off + m + vs.length ≤ cells.size → (vs.zipIdx m).foldl (fun cs (c, j) => cs.setIfInBounds (off + j) c) cells = (cells.toList.take (off + m) ++ vs ++ cells.toList.drop (off + m + vs.length)).toArray
  | [], m, off, cells, h => by apply Array.toList_inj.1; simp
  | v :: vs, m, off, cells, h => by
    simp only [List.length_cons] at h
    rw [List.zipIdx_cons, List.foldl_cons, foldl_set vs (m + 1) off _ (by simp; omega)]
    apply Array.toList_inj.1
    simp only [Array.toList_setIfInBounds]
    have := set_mid cells.toList (off + m) v vs (by simp; omega)
    rw [show off + (m + 1) = off + m + 1 by omega, this]
    simp
theorem fill_fillL (place : Nat → Option (Nat × Nat)) : ∀ (ps : List (Nat × Value)) (cells : List Value) (out : List Value), fillL place cells ps = some out → Instr.fill place cells.toArray ps = some out.toArray
  | [], cells, out, h => by simp only [fillL, Option.some.injEq] at h; subst h; rfl
  | (i, v) :: r, cells, out, h => by
    unfold fillL at h
    unfold Instr.fill
    cases hp : place i with
    | none => rw [hp] at h; cases h
    | some os =>
      obtain ⟨off, size⟩ := os
      rw [hp] at h
      simp only at h ⊢
      cases hb : (Nat.beq v.cells.toList.length size && Nat.ble (off + v.cells.toList.length) cells.length) with
      | false => rw [hb] at h; cases h
      | true =>
        rw [hb] at h
        simp only [Bool.and_eq_true] at hb
        have h1 := Nat.eq_of_beq_eq_true hb.1
        have h2 := Nat.le_of_ble_eq_true hb.2
        simp only [Array.length_toList] at h1 h2
        rw [if_neg (by simp; omega)]
        have e := foldl_set v.cells.toList 0 off cells.toArray (by simp; omega)
        have e2 : v.cells.zipIdx.foldl (fun cs (c, j) => cs.setIfInBounds (off + j) c) cells.toArray = (splice cells off v.cells.toList).toArray := by
          rw [← Array.foldl_toList, Array.toList_zipIdx, e]
          simp [splice]
        rw [e2]
        exact fill_fillL place r _ _ h
def plOf (P : Program) (t : TypeId) : Option (List (Nat × Nat)) := match P.underlying t with
  | some (.struct fs) => fs.toList.mapM (fun f => (P.info? f.type).map fun j => (f.offset, j.size))
  | _ => none
theorem Ev.build {t : TypeId} {parts : Array (Nat × Operand)} {vs : List Value} {z : Value} {pl : List (Nat × Nat)} {ps : List (Nat × Value)} (hpl0 : plOf P t = some pl) (hz : zOk P t z)
    (hps : evp K parts.toList = some ps)
    (hfill : fillL (pl[·]?) z.cells.toList ps = some vs) : Ev P K (.build t parts) ty w (.agg vs.toArray) w := by
  have hfill : Instr.fill (pl.toArray[·]?) z.cells ps = some vs.toArray := by
    have h := fill_fillL (pl[·]?) ps z.cells.toList vs hfill
    simpa using h
  obtain ⟨fs, hu, hpl⟩ : ∃ fs, P.underlying t = some (.struct fs) ∧ fs.toList.mapM (fun f => (P.info? f.type).map fun j => (f.offset, j.size)) = some pl := by
    unfold plOf at hpl0
    cases hu : P.underlying t with
    | none => rw [hu] at hpl0; cases hpl0
    | some de => rw [hu] at hpl0; cases de <;> simp at hpl0; exact ⟨_, rfl, hpl0⟩
  have key : ∀ (l : List Field) (pl : List (Nat × Nat)) (w : World), l.mapM (fun f => (P.info? f.type).map fun j => (f.offset, j.size)) = some pl → (l.mapM (m := Sem) (fun f => do pure (f.offset, ← sizeOf f.type))).run P w = .ok pl w := by
    intro l
    induction l with
    | nil => intro pl w h; simp at h; subst h; simp
    | cons f l ih =>
      intro pl w h
      simp only [List.mapM_cons, Option.bind_eq_bind, Option.pure_def, Option.bind_eq_some_iff, Option.map_eq_some_iff, Option.some.injEq] at h
      obtain ⟨_, ⟨j, hj, rfl⟩, us, hus, rfl⟩ := h
      have ih' := ih us w hus
      simp only [bind_pure_comp] at ih'
      simp [List.mapM_cons, sizeOf, typeInfo, hj] at ih' ⊢
      simp [ih']
  have key2 : ∀ {n : Nat} {l : Array Value} {ds : List Deferred} (ps : List (Nat × Operand)) (vs : List (Nat × Value)), Agree n K l → evp K ps = some vs → ps.map (fun (i, x) => (i, Act.eval ⟨l, ds⟩ x)) = vs := by
    intro n l ds ps
    induction ps with
    | nil => intro vs _ h; simpa [evp, eq_comm] using h
    | cons p ps ih =>
      intro vs hl h
      obtain ⟨i, x⟩ := p
      unfold evp at h
      cases hv : evO K x with
      | none => rw [hv] at h; cases h
      | some v =>
        cases hu : evp K ps with
        | none => rw [hv, hu] at h; cases h
        | some us =>
          rw [hv, hu] at h
          simp only [Option.some.injEq] at h
          subst h
          simp [ev_of hl hv, ih us hl hu]
  intro n ds l d pos es g hl
  have e1 : (parts.map fun (i, x) => (i, Act.eval ⟨l, ds⟩ x)).toList = ps := by simpa using key2 (ds := ds) parts.toList ps hl hps
  have e2 := key fs.toList pl w hpl
  have e3 : (fs.mapM (m := Sem) (fun f => do pure (f.offset, ← sizeOf f.type))).run P w = .ok pl.toArray w := by
    rw [Array.mapM_eq_mapM_toList]
    simp only [Sem.run_map, e2]
    rfl
  simp only [execOp, Instr.build, e1, Sem.run_bind, run_zero hz, Result.andThen_ok, run_underlying hu, e3, hfill, Sem.run_pure]
theorem WL.buildSlice {d : Nat} {t e k len : Nat} {pos : String} {es : Array Edge} {parts : Array (Nat × Operand)} {z : Value} {vs : List Value} {ps : List (Nat × Value)} (hu : P.underlying t = some (.slice e)) (hs : szOk P e k) (hz : zOk P e z)
    (hps : evp K parts.toList = some ps) (hb : len * k ≤ 16777216) (h0 : 0 < len * k)
    (hzk : z.cells.toList.length = k) (hfill : fillL (fun i => some (i * k, k)) (List.replicate len z.cells.toList).flatten ps = some vs) (H : St w0 S w σ) (hd : Nat.blt d n = true)
    (kk : ∀ b w', b = w.heap.size → St w0 S w' (.blk b vs e (0, 0) :: σ) → Ext w w' → WL ρ P ops Q ds n rest ((d, .slice (some ⟨b, 0, none⟩) len len) :: K) w') :
    WL ρ P ops Q ds n (⟨some d, .buildSlice t len parts, ty, pos, es, none⟩ :: rest) K w := by
  have key2 : ∀ {n : Nat} {l : Array Value} {ds : List Deferred} (ps : List (Nat × Operand)) (vs : List (Nat × Value)), Agree n K l → evp K ps = some vs → ps.map (fun (i, x) => (i, Act.eval ⟨l, ds⟩ x)) = vs := by
    intro n l ds ps
    induction ps with
    | nil => intro vs _ h; simpa [evp, eq_comm] using h
    | cons p ps ih =>
      intro vs hl h
      obtain ⟨i, x⟩ := p
      unfold evp at h
      cases hv : evO K x with
      | none => rw [hv] at h; cases h
      | some v =>
        cases hu : evp K ps with
        | none => rw [hv, hu] at h; cases h
        | some us =>
          rw [hv, hu] at h
          simp only [Option.some.injEq] at h
          subst h
          simp [ev_of hl hv, ih us hl hu]
  have hzs : z.cells.size = k := by simpa using hzk
  have hzero : ((Array.range (len * k)).map (z.cells[· % z.cells.size]!)) = (List.replicate len z.cells.toList).flatten.toArray := by
    apply Array.toList_inj.1
    apply List.ext_getElem?
    intro m
    have hkp : 0 < k := Nat.pos_of_ne_zero (by intro h; subst h; omega)
    have hlen : ∀ n : Nat, (List.replicate n z.cells.toList).flatten.length = n * k := by
      intro n; simp [hzs]
    have hget : ∀ (n m : Nat), m < n * k → (List.replicate n z.cells.toList).flatten[m]? = z.cells[m % k]? := by
      intro n
      induction n with
      | zero => intro m hm; omega
      | succ n ih =>
        intro m hm
        rw [List.replicate_succ, List.flatten_cons]
        rcases Nat.lt_or_ge m k with h | h
        · rw [List.getElem?_append_left (by simp; omega), Nat.mod_eq_of_lt h]; simp
        · rw [List.getElem?_append_right (by simp; omega)]
          simp only [Array.length_toList, hzs]
          rw [ih (m - k) (by rw [Nat.add_mul] at hm; omega), Nat.mod_eq_sub_mod h]
    rcases Nat.lt_or_ge m (len * k) with hm | hm
    · rw [show (List.replicate len z.cells.toList).flatten.toArray.toList = (List.replicate len z.cells.toList).flatten from rfl, hget len m hm]
      have hmk : m % k < z.cells.size := by rw [hzs]; exact Nat.mod_lt _ hkp
      simp [hm, hzs, hmk]
      rw [hzs] at hmk
      simp [hzs, hmk]
    · rw [List.getElem?_eq_none (by simp; omega), List.getElem?_eq_none (by rw [hlen]; omega)]
  have hfill : Instr.fill (fun i => some (i * k, k)) ((Array.range (len * k)).map (z.cells[· % z.cells.size]!)) ps = some vs.toArray := by
    rw [hzero]; exact fill_fillL _ ps _ vs hfill
  refine WL.value _ (w' := w.alloc (.cells vs.toArray e)) (fun l hl => ?_) hd (kk _ _ rfl (H.alloc vs e) (Ext.alloc _ _))
  have e1 : (parts.map fun (i, x) => (i, Act.eval ⟨l, ds⟩ x)).toList = ps := by simpa using key2 (ds := ds) parts.toList ps hl hps
  have h2 : ¬ len * k > 2 ^ 24 := by omega
  have h3 : ¬ len * k = 0 := by omega
  simp only [execOp, Instr.buildSlice, e1, Sem.run_bind, run_underlying hu, Result.andThen_ok, run_sizeOf hs, if_neg h2, if_neg h3, Sem.run_pure, run_zero hz, hfill, newRow, run_newObj]
  rfl
end
end Go.BK
