/- A range over a function; an iterator's call of yield: this file names no program. -/
import Derived.Test.YtodappgiadelaaaDoorByt
import Derived.RangeFuncNested
import Derived.RangeFuncLeaves
set_option linter.unusedVariables false
set_option linter.unusedSimpArgs false
namespace Go.BK
open Go.RowKit
theorem wpIn_any {ρ : Option Nat} {n m : Nat} {P : Program} {c : Code} {Q : Post} {a : Act} {w : World} (h : c.wpIn (FF ρ) n P Q a w) : c.wpIn (FF ρ) m P Q a w :=
  fun b k cs h1 h2 _ => h b k cs h1 h2 (room_FF _ _)
/-- The blocks of what is held. -/
def Bk (σ : Held) : Nat → Prop := fun b => b ∈ σ.flatMap Chunk.blocks
theorem Chunk.cells_of {w : World} {c : Chunk} (h : c.holds w) {b : Nat} (hb : b ∈ c.blocks) : ∃ cs t fz, w.heap[b]? = some (.cells cs t fz) := by
  cases c with
  | blk b' cs t fz => obtain rfl : b = b' := by simpa [Chunk.blocks] using hb
                      exact ⟨_, _, _, h⟩
  | row e sz A n cc xs =>
    obtain ⟨h1, h2⟩ := h
    rcases h2 with ⟨h2, _⟩ | ⟨g, cap, cur, he, h3, h4, h5⟩
    · injection h2 with e1; subst e1; simp [Chunk.blocks] at hb
    · injection he with e1; subst e1
      obtain rfl : b = g := by simpa [Chunk.blocks] using hb
      exact ⟨_, _, _, h4⟩
section
variable {w0 w w' : World} {S : Nat → Prop} {σ σ' : Held}
theorem St.mem (H : St w0 S w σ) {c : Chunk} (hc : c ∈ σ) {b : Nat} (hb : b ∈ c.blocks) : S b ∨ w0.heap.size ≤ b := (H.cont c hc).2 b hb
theorem St.geI (H : St w0 No w σ) (i : Nat) {b : Nat} {cs : List Value} {t : TypeId} {fz : Nat × Nat} (hσ : σ[i]? = some (.blk b cs t fz)) : w0.heap.size ≤ b :=
  (H.mem (List.mem_of_getElem? hσ) (b := b) (by simp [Chunk.blocks])).resolve_left fun h => h
theorem St.ltI (H : St w0 S w σ) (i : Nat) {b : Nat} {cs : List Value} {t : TypeId} {fz : Nat × Nat} (hσ : σ[i]? = some (.blk b cs t fz)) : b < w.heap.size :=
  H.lt (List.mem_of_getElem? hσ) (b := b) (by simp [Chunk.blocks])
theorem St.local (H : St w0 S w σ) : St w (Bk σ) w σ := ⟨Gr.refl _ _, fun c hc => ⟨(H.cont c hc).1, fun b hb => .inl (List.mem_flatMap.2 ⟨c, hc, hb⟩)⟩, H.nd⟩
theorem St.join (H : St w0 S w σ) (H' : St w (Bk σ) w' σ') : St w0 S w' σ' :=
  ⟨H.gr.trans' H'.gr fun i hi hb => by
      obtain ⟨c, hc, hcb⟩ := List.mem_flatMap.1 hb
      rcases H.mem hc hcb with h | h
      · exact h
      · omega,
    fun c hc => ⟨(H'.cont c hc).1, fun b hb => by
      rcases (H'.cont c hc).2 b hb with h | h
      · obtain ⟨d, hd, hdb⟩ := List.mem_flatMap.1 h
        exact H.mem hd hdb
      · exact .inr (Nat.le_trans H.gr.size h)⟩, H'.nd⟩
theorem Held.apart {a b : Held} (h : ((a ++ b).flatMap Chunk.blocks).Nodup) {c d : Chunk} (hc : c ∈ a) (hd : d ∈ b) {k : Nat} (h1 : k ∈ c.blocks) (h2 : k ∈ d.blocks) : False := by
  rw [List.flatMap_append, List.nodup_append] at h
  exact h.2.2 k (List.mem_flatMap.2 ⟨c, hc, h1⟩) k (List.mem_flatMap.2 ⟨d, hd, h2⟩) rfl
/-- A call that turns a part of what is held. -/
theorem St.frame {σ1 σ1' σ2 : Held} (H : St w0 S w (σ1 ++ σ2)) (H' : St w (Bk σ1) w' σ1') : St w0 S w' (σ1' ++ σ2) := by
  have hb1 : ∀ b, Bk σ1 b → S b ∨ w0.heap.size ≤ b := fun b hb => by
    obtain ⟨c, hc, hcb⟩ := List.mem_flatMap.1 hb
    exact H.mem (List.mem_append_left _ hc) hcb
  refine ⟨H.gr.trans' H'.gr fun i hi hb => ?_, fun c hc => ?_, ?_⟩
  · rcases hb1 i hb with h | h
    · exact h
    · omega
  · rcases List.mem_append.1 hc with hc | hc
    · refine ⟨(H'.cont c hc).1, fun b hb => ?_⟩
      rcases (H'.cont c hc).2 b hb with h | h
      · exact hb1 b h
      · exact .inr (Nat.le_trans H.gr.size h)
    · have h0 := H.cont c (List.mem_append_right _ hc)
      refine ⟨Chunk.holds_of h0.1 fun b hb => H'.gr.block b (Chunk.lt h0.1 hb) fun hh => ?_, h0.2⟩
      obtain ⟨d, hd, hdb⟩ := List.mem_flatMap.1 hh
      exact Held.apart H.nd hd hc hdb hb
  · rw [List.flatMap_append, List.nodup_append]
    have hn := H.nd
    rw [List.flatMap_append, List.nodup_append] at hn
    refine ⟨H'.nd, hn.2.1, fun a ha b hb hab => ?_⟩
    subst hab
    obtain ⟨c, hc, hcb⟩ := List.mem_flatMap.1 ha
    obtain ⟨d, hd, hdb⟩ := List.mem_flatMap.1 hb
    rcases (H'.cont c hc).2 a hcb with h | h
    · obtain ⟨e, he, heb⟩ := List.mem_flatMap.1 h
      exact Held.apart H.nd he hd heb hdb
    · have := H.lt (List.mem_append_right _ hd) hdb
      omega
theorem St.frame1 {c : Chunk} {σ1' σ2 : Held} (H : St w0 S w (c :: σ2)) (H' : St w (Bk [c]) w' σ1') : St w0 S w' (σ1' ++ σ2) := St.frame (σ1 := [c]) H H'
theorem St.local1 {c : Chunk} {σ2 : Held} (H : St w0 S w (c :: σ2)) : St w (Bk [c]) w [c] := (H.sub (σ' := [c]) (List.Sublist.cons_cons _ (List.nil_sublist _))).local
theorem Held.apart' : ∀ (σ : Held), (σ.flatMap Chunk.blocks).Nodup → ∀ i j : Nat, i < j → ∀ (c d : Chunk), σ[i]? = some c → σ[j]? = some d → ∀ k, k ∈ c.blocks → k ∈ d.blocks → False := by
  intro σ
  induction σ with
  | nil => intro _ i j _ c d h; simp at h
  | cons x r ih =>
    intro hn i j hlt c d hc hd k h1 h2
    rw [List.flatMap_cons, List.nodup_append] at hn
    cases j with
    | zero => omega
    | succ j =>
      simp only [List.getElem?_cons_succ] at hd
      cases i with
      | zero =>
        obtain rfl : x = c := by simpa using hc
        exact hn.2.2 k h1 k (List.mem_flatMap.2 ⟨d, List.mem_of_getElem? hd, h2⟩) rfl
      | succ i =>
        simp only [List.getElem?_cons_succ] at hc
        exact ih hn.2.1 i j (by omega) c d hc hd k h1 h2
/-- A held block is none of another chunk's. -/
theorem St.notin (H : St w0 S w σ) (i j : Nat) {b : Nat} {cs : List Value} {t : TypeId} {fz : Nat × Nat} {d : Chunk} (hi : σ[i]? = some (.blk b cs t fz)) (hj : σ[j]? = some d) (hij : Nat.beq i j = false) : b ∉ d.blocks := fun hb => by
  have hij : i ≠ j := fun e => by subst e; simp at hij
  rcases Nat.lt_or_ge i j with h | h
  · exact Held.apart' σ H.nd i j h _ _ hi hj b (by simp [Chunk.blocks]) hb
  · exact Held.apart' σ H.nd j i (by omega) _ _ hj hi b hb (by simp [Chunk.blocks])
/-- Two held blocks are two. -/
theorem St.ne (H : St w0 S w σ) (i j : Nat) {b b' : Nat} {cs cs' : List Value} {t t' : TypeId} {fz fz' : Nat × Nat} (hi : σ[i]? = some (.blk b cs t fz)) (hj : σ[j]? = some (.blk b' cs' t' fz')) (hij : Nat.beq i j = false) : b ≠ b' := fun e => H.notin i j hi hj hij (by simp [Chunk.blocks, e])
/-- A block, held as a row. -/
theorem St.toRow (H : St w0 S w σ) (i : Nat) {b e k m : Nat} {vs : List Value} (hσ : σ[i]? = some (.blk b vs e (0, 0))) (hl : vs.length = m * k) (hm : m ≤ maxLen) : St w0 S w (σ.set i (.row e k (some ⟨b, 0, none⟩) m m vs)) :=
  H.set i hσ _ (Gr.refl _ _) ⟨hl, .inr ⟨b, m, vs.toArray, rfl, Nat.zero_le _, H.blk i hσ, Nat.le_refl _, hm, by simp [hl], by rw [← hl]; simp⟩⟩ (fun k hk => .inl (by simpa [Chunk.blocks] using hk)) (by simp [Chunk.blocks])
/-- A block that is no cells turns, or a new one is laid. -/
theorem St.grown (H : St w0 S w σ) {row : Option Nat} (hg : w.grownBy w' row) (hr : ∀ r, row = some r → w0.heap.size ≤ r ∧ ∃ o : Obj, w.heap[r]? = some o ∧ o.isCells = false) : St w0 S w' σ := by
  refine H.keep (Gr.of_grownBy hg) (fun c hc b hb e => ?_) fun i hi e => ?_
  · obtain ⟨cs, t, fz, hh⟩ := Chunk.cells_of (H.cont c hc).1 hb
    obtain ⟨_, o, ho, hn⟩ := hr b e.symm
    rw [ho] at hh
    cases hh
    cases hn
  · have := (hr i e.symm).1
    omega
theorem St.putD (H : St w0 S w σ) {D : Nat} {o o' : Obj} (hD : w0.heap.size ≤ D) (ho : w.heap[D]? = some o) (hn : o.isCells = false) : St w0 S (w.putObj D o') σ :=
  H.grown (grownBy_putObj' w D o') fun r e => by cases e; exact ⟨hD, o, ho, hn⟩
end
section
variable {ρ : Option Nat} {P : Program} {ops : Array Oper} {Q : Post} {ds : List Deferred} {n : Nat} {rest : List Oper} {K : Kn} {w w' w0 : World} {ty : TypeId} {S : Nat → Prop} {σ : Held}
/-- A call of yield. -/
theorem exec_yield {l : Nat} {x : Operand} {args : Array Operand} {ts : Array TypeId} {vs : List Value} (hx : evO K x = some (.func (.yield l) #[] #[])) (ha : evs K args.toList = some vs) {f : Nat} {tm : Array Value} {as bd : Code}
    (hy : (Instr.yield l vs.toArray).run P w = .ok (.round l f tm as bd) w) {t : Array Value} (hl : Agree n K t) (d : Option Tmp) (pos : String) (es : Array Edge) (g : Option (Nat × Bool)) :
    (execOp (Act.eval ⟨t, ds⟩) ⟨d, .call ⟨.value x, args, ts⟩, ty, pos, es, g⟩).run P w = .ok (.round l f tm as bd) w := by
  have e1 : args.map (Act.eval ⟨t, ds⟩) = vs.toArray := by apply Array.toList_inj.1; simpa using evs_map hl args.toList vs ha
  simp [execOp, resolve, e1, ev_of hl hx, Deferred.ofValue, invoke]
  exact hy
theorem WL.yield {d l m : Nat} {x : Operand} {args : Array Operand} {ts : Array TypeId} {pos : String} {es : Array Edge} {vs : List Value} {T : Bool → World → Prop} (hx : evO K x = some (.func (.yield l) #[] #[])) (ha : evs K args.toList = some vs) (hd : Nat.blt d n = true)
    (hy : YieldAt (FF none) m P l vs.toArray w fun e w' => ∃ r, e = .returned (.bool r) ∧ T r w') (k : ∀ r w', T r w' → WL ρ P ops Q ds n rest ((d, .bool r) :: K) w') :
    WL ρ P ops Q ds n (⟨some d, .call ⟨.value x, args, ts⟩, ty, pos, es, none⟩ :: rest) K w := fun t hl => by
  obtain ⟨f, tm, as, bd, h1, h2⟩ := hy
  refine wpListIn_plain rfl fun K' hK => ⟨fun _ _ => trivial, ?_⟩
  rw [semAt_run rfl (exec_yield hx ha h1 hl _ _ _ _)]
  refine ⟨fun h => by simp [FF] at h, ?_⟩
  refine RoundIn.mono (F := FF ρ) (n := 0) (show RoundIn (FF ρ) 0 P l f tm as bd w _ from ⟨trivial, fun c cs _ => h2.2 c cs (room_FF _ _)⟩) ?_
  rintro e w2 ⟨r, rfl, hT⟩
  exact hK _ _ (k r w2 hT _ (hl.put hd _))
theorem WL.gyield {d j l m : Nat} {b g : Bool} {x : Operand} {args : Array Operand} {ts : Array TypeId} {pos : String} {es : Array Edge} {vs : List Value} {T : Bool → World → Prop} (hm : Met ops K j b g) (hx : g = true → evO K x = some (.func (.yield l) #[] #[])) (ha : g = true → evs K args.toList = some vs) (hd : Nat.blt d n = true)
    (hy : g = true → YieldAt (FF none) m P l vs.toArray w fun e w' => ∃ r, e = .returned (.bool r) ∧ T r w') (k : ∀ r w', (g = true → T r w') → (g = false → w' = w) → WL ρ P ops Q ds n rest ((d, gv g (.bool r)) :: K) w') :
    WL ρ P ops Q ds n (⟨some d, .call ⟨.value x, args, ts⟩, ty, pos, es, some (j, b)⟩ :: rest) K w := fun t hl => by
  unfold wpListIn
  rw [hm.wanted hl rfl]
  cases g with
  | true =>
    rw [if_pos rfl]
    obtain ⟨f, tm, as, bd, h1, h2⟩ := hy rfl
    refine ⟨fun _ _ => trivial, ?_⟩
    rw [semAt_run rfl (exec_yield (hx rfl) (ha rfl) h1 hl _ _ _ _)]
    refine ⟨fun h => by simp [FF] at h, ?_⟩
    refine RoundIn.mono (F := FF ρ) (n := 0) (show RoundIn (FF ρ) 0 P l f tm as bd w _ from ⟨trivial, fun c cs _ => h2.2 c cs (room_FF _ _)⟩) ?_
    rintro e w2 ⟨r, rfl, hT⟩
    exact k r w2 (fun _ => hT) (fun h => by cases h) _ (hl.put hd _)
  | false =>
    rw [if_neg (by simp)]
    exact ⟨fun _ _ => trivial, k true w (fun h => by cases h) (fun _ => rfl) _ (hl.put hd undef)⟩
theorem yield_of {m l : Nat} {args : Array Value} {A B : World → Prop} (h : YieldAt (FF none) m P l args w fun e W' => (e = .returned (.bool true) ∧ A W') ∨ (e = .returned (.bool false) ∧ B W')) :
    YieldAt (FF none) m P l args w fun e W' => ∃ r, e = .returned (.bool r) ∧ (bif r then A W' else B W') := by
  obtain ⟨f, tm, as, bd, h1, h2⟩ := h
  refine ⟨f, tm, as, bd, h1, h2.mono ?_⟩
  rintro e W' (⟨rfl, h⟩ | ⟨rfl, h⟩)
  · exact ⟨true, rfl, h⟩
  · exact ⟨false, rfl, h⟩
theorem block_ext {o : Obj} {D : Nat} (h : w.heap[D]? = some o) (L : Ext w w') : w'.heap[D]? = some o := (L.block D (Array.getElem?_eq_some_iff.1 h).1 (fun h => h)).trans h
theorem Ext.grownBy {a b : World} (h : Ext a b) : a.grownBy b none := ⟨h.os, h.tape, h.output, h.size, fun k hk _ => h.block k hk (fun h => h)⟩
theorem Rd.grT {α : Type} {k : Kd α} {G T : Nat → Prop} {A : Option Addr} {c : Nat} {xs : List α} (h : Rd k G w A c xs) (L : Gr (fun b => T b ∨ w.heap.size ≤ b) w w') (hG : ∀ b, G b → ¬ T b) : Rd k G w' A c xs :=
  ⟨h.1, fun hp => by
    obtain ⟨b, o, h1, h2, h3⟩ := h.2 hp
    refine ⟨b, o, h1, h2, fun j x hx i v hv => ?_⟩
    have hc := h3 j x hx i v hv
    refine L.cell (a := ⟨b, o + j * k.sz + i, none⟩) (fun hh => ?_) hc
    rcases hh with hh | hh
    · exact hG b h2 hh
    · have := World.block_lt_of_cell? w _ hc
      simp only at this hh
      omega⟩
theorem Rd.lt {α : Type} {k : Kd α} {G : Nat → Prop} {A : Option Addr} {c : Nat} {xs : List α} (h : Rd k G w A c xs) : Rd k (fun b => b < w.heap.size) w A c xs :=
  ⟨h.1, fun hp => by
    obtain ⟨b, o, h1, h2, h3⟩ := h.2 hp
    refine ⟨b, o, h1, ?_, h3⟩
    have hk : 0 < (k.enc xs[0]).length := by rw [k.len]; exact k.pos
    exact World.block_lt_of_cell? w _ (h3 0 xs[0] (List.getElem?_eq_getElem hp) 0 (k.enc xs[0])[0] (List.getElem?_eq_getElem hk))⟩
theorem cell_grT {T : Nat → Prop} {a : Addr} {v : Value} (L : Gr (fun b => T b ∨ w.heap.size ≤ b) w w') (hT : ¬ T a.block) (h : w.cell? a = some v) : w'.cell? a = some v :=
  L.cell (fun hh => by
    rcases hh with hh | hh
    · exact hT hh
    · have := World.block_lt_of_cell? w _ h; omega) h
/-- What an iterator is held to: what a round leaves alone is all but the blocks of T and whatever is new. -/
def Iter {α : Type} (P : Program) (gf : Nat) (lb : List Value) (encs : α → Array Value) (T : Nat → Prop) (Sq : List α → Prop) (N : Nat) (w : World) : Prop :=
  SeqStopsK (FF none) 1 P gf lb.toArray encs (Gr (fun k => T k ∨ w.heap.size ≤ k)) Sq (fun _ => True) N w
theorem agree_fold : ∀ (l : List (Nat × Value)) (K : Kn) (t : Array Value), (∀ p ∈ l, p.1 < n) → Agree n K t → Agree n (l.reverse ++ K) (l.foldl (fun t p => t.setIfInBounds p.1 p.2) t)
  | [], K, t, _, h => h
  | p :: r, K, t, hp, h => by
    have := agree_fold r (p :: K) (t.setIfInBounds p.1 p.2) (fun q hq => hp q (by simp [hq])) (h.put (by simpa [Nat.blt_eq] using hp p (by simp)) p.2)
    simpa using this
/-- How a round's body may be left: off its end. -/
def RB {α γ : Type} (B : Nat) (T : Nat → Prop) (σf : γ → Held) (φ : List α → γ → Prop) (σ : Held) (xs : List α) (W : World) : Post
  | .normal, _, W' => ∃ g', φ xs g' ∧ St W (Bk σ) W' (σf g')
  | _, _, _ => False
theorem WQ.round {α γ : Type} {B : Nat} {T : Nat → Prop} {σf : γ → Held} {φ : List α → γ → Prop} {σ : Held} {xs : List α} {W : World} (g' : γ) (hφ : φ xs g') (H : St W (Bk σ) w (σf g')) : WQ (RB B T σf φ σ xs W) .normal ds n K w := fun l hl => ⟨g', hφ, H⟩
theorem WC.rangeFunc {α γ : Type} {gop : Operand} {ps : List Nat} {assign body : Code} {gf : Nat} {lb : List Value} (hg : evO K gop = some (.func (.func gf) #[] lb.toArray)) (hcb : callB P gf = true)
    {encs : α → List Value} {Sq : List α → Prop} {N : Nat} (H : St w0 S w σ) (hseq : Iter P gf lb (fun x => (encs x).toArray) (Bk σ) Sq N w) (hps : ∀ x, (encs x).length = ps.length) (hpn : ps.all (Nat.blt · n) = true)
    (σf : γ → Held) (φ : List α → γ → Prop) (g0 : γ) (h0 : φ [] g0) (hσ : σf g0 = σ) (Kx Kb : α → Kn) (hKx : ∀ x, Sub (Kx x) ((ps.zip (encs x)).reverse ++ K))
    (hassign : ∀ (l : Nat) (x : α) (W : World), WC (some l) P assign (MP (fun _ : Unit => Kb x) (fun _ W' => W' = W) [] n (fun _ _ _ => False)) [] n (Kx x) W)
    (hbody : ∀ (l : Nat) (pre : List α) (x : α) (g : γ) (W : World), φ pre g → pre.length < N → St w (Bk σ) W (σf g) → St W (Bk (σf g)) W (σf g) → WC (some l) P body (RB w.heap.size (Bk σ) σf φ (σf g) (pre ++ [x]) W) [] n (Kb x) W)
    (hdone : ∀ (D : Nat) (xs : List α) (g : γ) (W : World), Sq xs → φ xs g → St w0 S W (σf g) → w0.heap.size ≤ D → W.heap[D]? = some (.deferred (some [])) → WQ Q .normal ({ target := .collected D, args := #[] } :: ds) n K W) :
    WC none P (.rangeFunc gop ps.toArray assign body) Q ds n K w := by
  intro l hl
  refine wpIn_any (n := 2) ?_
  have hfold : ∀ x, Agree n (Kx x) ((ps.toArray.zip (encs x).toArray).foldl (fun t (p, v) => t.setIfInBounds p v) l) := fun x => by
    have h := agree_fold (ps.zip (encs x)) K l (fun p hp => by
      have h1 := List.all_eq_true.1 hpn p.1 (List.of_mem_zip hp).1
      simpa [Nat.blt_eq] using h1) hl
    have e : (ps.toArray.zip (encs x).toArray).foldl (fun t (p, v) => t.setIfInBounds p v) l = (ps.zip (encs x)).foldl (fun t p => t.setIfInBounds p.1 p.2) l := by
      rw [← Array.foldl_toList]; simp
    rw [e]
    exact h.sub (hKx x)
  let I : List α → World → Prop := fun pre W => ∃ g, φ pre g ∧ St w (Bk σ) W (σf g)
  have hI : OwnFrom w.heap.size I := fun s W W' row ⟨g, h1, h2⟩ hg hr => ⟨g, h1, h2.grown hg hr⟩
  refine wpIn_rangeFunc_ownH (F := FF none) (n := 2) rfl (by omega) (lb := lb.toArray) (by rw [ev_of hl hg]) trivial (fun args w => run_callFunc hcb args w) hseq (fun h k => h.trans k) ?_ (Below.refl _ _) (fun x => by simp [hps])
    I (fun _ _ _ => False) hI (fun c s W W' row h => h.elim) ⟨g0, h0, by rw [hσ]; exact H.local⟩ (fun x a' _ => a'.defers = [] ∧ Agree n (Kb x) a'.tmps) (fun x a' _ _ _ _ h _ _ => h) ?_ ?_ ?_ ?_
  · intro W l o o' h1 h2 h3 _
    exact (Gr.of_grownBy (grownBy_putObj' W l o')).mono fun i _ e => by cases e; exact .inr h1
  · intro l pre x W K' hi hK
    refine wpIn_any (n := 0) (wpIn_mono (hassign l x W _ (hfold x)) fun e a W' hq => ?_)
    cases e with
    | normal =>
      obtain ⟨_, rfl, h1, h2⟩ := hq
      exact hK a W' (KeepsFrom.refl _ _) (Gr.refl _ _) hi ⟨h1, h2⟩
    | exit _ => exact hq
    | goto _ => exact hq
    | ret => exact hq
    | panic _ => exact hq
    | outgrown => exact hq
  · rintro l pre x ⟨tm, dd⟩ W hl2 _ ⟨g, hφ, hS⟩ ⟨h1, h2⟩ hlt
    simp only at h1 h2
    subst h1
    refine wpIn_any (n := 0) (wpIn_mono (hbody l pre x g W hφ hlt hS hS.local tm h2) fun e a W' hq => ?_)
    cases e with
    | normal =>
      obtain ⟨g', h3, h4⟩ := hq
      have hin : ∀ i, Bk (σf g) i → Bk σ i ∨ w.heap.size ≤ i := fun i hb => by
        obtain ⟨c, hc, hcb⟩ := List.mem_flatMap.1 hb
        exact hS.mem hc hcb
      refine ⟨⟨h4.gr.size, fun k o _ ho hn => ?_⟩, h4.gr.mono fun i _ hb => hin i hb, g', h3, ?_⟩
      · by_cases hb : Bk (σf g) k
        · obtain ⟨c, hc, hcb⟩ := List.mem_flatMap.1 hb
          obtain ⟨cs, t, fz, hh⟩ := Chunk.cells_of (hS.cont c hc).1 hcb
          rw [ho] at hh
          cases hh
          cases hn
        · rw [h4.gr.block k (Array.getElem?_eq_some_iff.1 ho).1 hb]; exact ho
      · exact hS.join h4
    | exit _ => exact hq.elim
    | goto _ => exact hq.elim
    | ret => exact hq.elim
    | panic _ => exact hq.elim
    | outgrown => exact hq.elim
  · rintro D xs W hD hS ⟨g, h1, h2⟩ hk
    exact hdone D xs g W hS h1 (H.join h2) (Nat.le_trans H.gr.size hD) hk l hl
  · rintro D c pre W _ _ h _
    exact h.elim
/-! ### Results that lie in a cell -/
theorem run_loadVarA {t : TypeId} {a : Addr} {vs : List Value} (ha : aggB P t = true) (hs : szOk P t vs.length) (hc : ∀ j v, vs[j]? = some v → w.cell? (a.add j) = some v) : (loadVar t a).run P w = .ok (.agg vs.toArray) w := by
  simp [loadVar, run_isAgg_agg ha, run_sizeOf hs, run_loadCells_list w a vs hc]
theorem WQ.retC1 {fn : Func} {R : Ending → World → Prop} {t : Nat} {ty : TypeId} {a : Addr} {vs : List Value} (hr : fn.results = #[.cell t ty]) (ht : look K t = some (.pointer (some a))) (ha : aggB P ty = true) (hs : szOk P ty vs.length) (hc : ∀ j v, vs[j]? = some v → w.cell? (a.add j) = some v)
    (h : R (.returned (.agg vs.toArray)) w) : WQ (bodyPost P fn R) .ret [] n K w := fun l hl => by
  have h1 := hl.2 _ _ ht
  have e1 : l.getD t undef = .pointer (some a) := by simp [Array.getD_eq_getD_getElem?, h1]
  refine bodyPost_ret (v := .agg vs.toArray) ?_ rfl h
  simp [results, hr, h1, asAddr, run_loadVarA ha hs hc]
theorem WQ.retC2 {fn : Func} {R : Ending → World → Prop} {t u : Nat} {ty : TypeId} {a : Addr} {vs : List Value} {v' : Value} (hr : fn.results = #[.cell t ty, .tmp u]) (ht : look K t = some (.pointer (some a))) (hv' : look K u = some v') (ha : aggB P ty = true) (hs : szOk P ty vs.length) (hc : ∀ j v, vs[j]? = some v → w.cell? (a.add j) = some v)
    (h : R (.returned (.tuple #[.agg vs.toArray, v'])) w) : WQ (bodyPost P fn R) .ret [] n K w := fun l hl => by
  have h1 := hl.2 _ _ ht
  have h2 := hl.2 _ _ hv'
  have e1 : l.getD t undef = .pointer (some a) := by simp [Array.getD_eq_getD_getElem?, h1]
  have e2 : l.getD u undef = v' := by simp [Array.getD_eq_getD_getElem?, h2]
  refine bodyPost_ret (v := .tuple #[.agg vs.toArray, v']) ?_ rfl h
  simp [results, hr, h1, h2, asAddr, run_loadVarA ha hs hc]
/-! ### A function that holds one -/
theorem calls_ofM {f : FuncId} {fn : Func} {c : Code} {args : Array Value} {R : Ending → World → Prop} (hf : P.funcs[f]? = some fn) (hb : fn.body = some c) {m : Nat} (hm : fn.ntmps = m) (ha : Nat.ble args.size m = true)
    {K0 : Kn} (hK : Sub K0 (args.toList.zipIdx.map fun p => (p.2, p.1))) (h : WC none P c (bodyPostM (FF none) 0 P fn R) [] m K0 w) : Calls P f args w R :=
  callsIn_FF.1 (callsIn_of_wp_marks hf hb trivial (h _ (agree_args hm ha hK)))
theorem WQ.mark1 {fn : Func} {R : Ending → World → Prop} {t D : Nat} {v : Value} (hr : fn.results = #[.tmp t]) (hv : look K t = some v) (hD : w.heap[D]? = some (.deferred (some []))) (h : R (.returned v) (w.putObj D (.deferred none))) :
    WQ (bodyPostM (FF none) 0 P fn R) .ret [{ target := .collected D, args := #[] }] n K w := fun l hl => by
  refine ⟨by simp, .inl ⟨_, _, rfl, run_takeDeferred hD, ?_⟩⟩
  have := hl.2 _ _ hv
  exact ⟨_, results_tmp hr _ _ _, by simpa [Array.getD_eq_getD_getElem?, this] using h⟩
theorem WQ.mark2 {fn : Func} {R : Ending → World → Prop} {t u D : Nat} {v v' : Value} (hr : fn.results = #[.tmp t, .tmp u]) (hv : look K t = some v) (hv' : look K u = some v') (hD : w.heap[D]? = some (.deferred (some []))) (h : R (.returned (.tuple #[v, v'])) (w.putObj D (.deferred none))) :
    WQ (bodyPostM (FF none) 0 P fn R) .ret [{ target := .collected D, args := #[] }] n K w := fun l hl => by
  refine ⟨by simp, .inl ⟨_, _, rfl, run_takeDeferred hD, ?_⟩⟩
  have h1 := hl.2 _ _ hv
  have h2 := hl.2 _ _ hv'
  exact ⟨_, results_tmp2 hr _ _ _, by simpa [Array.getD_eq_getD_getElem?, h1, h2] using h⟩
end
end Go.BK
