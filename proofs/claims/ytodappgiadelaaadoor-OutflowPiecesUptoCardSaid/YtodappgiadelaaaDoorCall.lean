/- Calls, slices that are read, slices that grow: this file names no program. -/
import Derived.Test.YtodappgiadelaaaDoorDraw
import Derived.Maps.OwnIn
set_option linter.unusedVariables false
set_option linter.unusedSimpArgs false
namespace Go.BK
open Go.RowKit

/-! ### Slices that are read -/
structure Kd (α : Type) where
  sz : Nat
  enc : α → List Value
  len : ∀ x, (enc x).length = sz
  pos : 0 < sz
  one : ∀ x, ∀ v ∈ enc x, v.oneCell' = true
def Rd {α : Type} (k : Kd α) (G : Nat → Prop) (w : World) (A : Option Addr) (c : Nat) (xs : List α) : Prop :=
  xs.length ≤ c ∧ (0 < xs.length → ∃ b o, A = some ⟨b, o, none⟩ ∧ G b ∧ ∀ j x, xs[j]? = some x → ∀ i v, (k.enc x)[i]? = some v → w.cell? ⟨b, o + j * k.sz + i, none⟩ = some v)
section
variable {α : Type} {k : Kd α} {G S : Nat → Prop} {w w' w0 : World} {A : Option Addr} {c : Nat} {xs : List α} {σ : Held}
theorem Rd.gr (h : Rd k G w A c xs) (L : Gr S w w') (hG : ∀ b, G b → ¬ S b) : Rd k G w' A c xs :=
  ⟨h.1, fun hp => by
    obtain ⟨b, o, h1, h2, h3⟩ := h.2 hp
    exact ⟨b, o, h1, h2, fun j x hx i v hv => L.cell (a := ⟨b, o + j * k.sz + i, none⟩) (hG b h2) (h3 j x hx i v hv)⟩⟩
theorem Rd.ext (h : Rd k G w A c xs) (L : Ext w w') : Rd k G w' A c xs := h.gr L fun _ _ h => h
theorem Rd.st (h : Rd k G w0 A c xs) (H : St w0 No w σ) : Rd k G w A c xs := h.ext H.gr
theorem Rd.mono {G' : Nat → Prop} (h : Rd k G w A c xs) (hG : ∀ b, G b → G' b) : Rd k G' w A c xs :=
  ⟨h.1, fun hp => by
    obtain ⟨b, o, h1, h2, h3⟩ := h.2 hp
    exact ⟨b, o, h1, hG b h2, h3⟩⟩
theorem Rd.nil (k : Kd α) (G : Nat → Prop) (w : World) (A : Option Addr) (c : Nat) : Rd k G w A c [] := ⟨Nat.zero_le _, fun h => by simp at h⟩
theorem Rd.at (h : Rd k G w A c xs) {j : Nat} (hj : j < xs.length) : ∃ b o, A = some ⟨b, o, none⟩ ∧ G b ∧ ∀ j x, xs[j]? = some x → ∀ i v, (k.enc x)[i]? = some v → w.cell? ⟨b, o + j * k.sz + i, none⟩ = some v := h.2 (by omega)
/-- The cells of all elements, in a row. -/
theorem flat_get {k : Kd α} : ∀ (xs : List α) (j : Nat) (x : α), xs[j]? = some x → ∀ i v, (k.enc x)[i]? = some v → (xs.flatMap k.enc)[j * k.sz + i]? = some v
  | [], j, x, h, _, _, _ => by simp at h
  | y :: ys, 0, x, h, i, v, hv => by
    obtain rfl : y = x := by simpa using h
    have hlt : i < (k.enc y).length := by
      rcases Nat.lt_or_ge i (k.enc y).length with h | h
      · exact h
      · rw [List.getElem?_eq_none h] at hv; cases hv
    simp [List.getElem?_append_left hlt, hv]
  | y :: ys, j + 1, x, h, i, v, hv => by
    have ih := flat_get ys j x (by simpa using h) i v hv
    have e : (j + 1) * k.sz + i = (k.enc y).length + (j * k.sz + i) := by rw [k.len, Nat.add_mul]; omega
    rw [List.flatMap_cons, e, List.getElem?_append_right (by omega)]
    simpa using ih
theorem flat_len (k : Kd α) : ∀ xs : List α, (xs.flatMap k.enc).length = xs.length * k.sz
  | [] => by simp
  | x :: xs => by rw [List.flatMap_cons, List.length_append, k.len, flat_len k xs, List.length_cons, Nat.add_mul]; omega
theorem flat_one (k : Kd α) (xs : List α) : ∀ v ∈ xs.flatMap k.enc, v.oneCell' = true := fun v hv => by
  obtain ⟨x, _, hx⟩ := List.mem_flatMap.1 hv
  exact k.one x v hx
theorem flat_inv {k : Kd α} (xs : List α) (m : Nat) (v : Value) (h : (xs.flatMap k.enc)[m]? = some v) : ∃ j x i, xs[j]? = some x ∧ (k.enc x)[i]? = some v ∧ m = j * k.sz + i := by
  induction xs generalizing m with
  | nil => simp at h
  | cons y ys ih =>
    rw [List.flatMap_cons] at h
    rcases Nat.lt_or_ge m (k.enc y).length with hm | hm
    · rw [List.getElem?_append_left hm] at h
      exact ⟨0, y, m, by simp, h, by omega⟩
    · rw [List.getElem?_append_right hm] at h
      obtain ⟨j, x, i, h1, h2, h3⟩ := ih _ h
      refine ⟨j + 1, x, i, by simpa using h1, h2, ?_⟩
      rw [k.len] at h3 hm
      rw [Nat.add_mul]; omega
/-- A row that is held is read. -/
theorem St.rd (k : Kd α) (H : St w0 S w σ) (i : Nat) {e n : Nat} (hσ : σ[i]? = some (.row e k.sz A n c (xs.flatMap k.enc))) : Rd k (fun b => ∀ a, A = some a → b = a.block) w A c xs ∧ n = xs.length := by
  have hm := (H.cont _ (List.mem_of_getElem? hσ)).1
  obtain ⟨h1, h2⟩ := hm
  rw [flat_len] at h1
  have hn : n = xs.length := (Nat.mul_right_cancel k.pos h1).symm
  subst hn
  refine ⟨?_, rfl⟩
  rcases h2 with ⟨h2, h3⟩ | ⟨g, cap, cur, he, _, h4, h5, _, h7, h8⟩
  · injection h2 with e1 e2 e3
    obtain rfl : xs = [] := List.eq_nil_of_length_eq_zero h3
    exact Rd.nil _ _ _ _ _
  · injection he with e1 e2 e3
    subst e1; subst e3
    refine ⟨h5, fun _ => ⟨g, 0, rfl, fun a ha => by injection ha with ha; subst ha; rfl, fun j x hx i v hv => ?_⟩⟩
    have h9 := flat_get xs j x hx i v hv
    rw [← h8] at h9
    have hlt : j * k.sz + i < xs.length * k.sz := by
      rcases Nat.lt_or_ge (j * k.sz + i) (xs.length * k.sz) with h | h
      · exact h
      · rw [List.getElem?_eq_none (by simp; omega)] at h9; cases h9
    rw [List.getElem?_take_of_lt hlt] at h9
    have h10 : cur[j * k.sz + i]? = some v := by simpa using h9
    simp [World.cell?, h4, h10]
theorem St.nilrow (H : St w0 S w σ) (e sz : Nat) : St w0 S w (.row e sz none 0 0 [] :: σ) :=
  ⟨H.gr, fun d hd => by
    rcases List.mem_cons.1 hd with rfl | hd
    · exact ⟨⟨by simp, .inl ⟨rfl, rfl⟩⟩, by simp [Chunk.blocks]⟩
    · exact H.cont d hd, by simpa [Chunk.blocks] using H.nd⟩
end

/-! ### Calls -/
def evs (K : Kn) : List Operand → Option (List Value)
  | [] => some []
  | x :: r => match evO K x, evs K r with
    | some v, some vs => some (v :: vs)
    | _, _ => none
theorem evs_map {n : Nat} {K : Kn} {l : Array Value} {ds : List Deferred} (hl : Agree n K l) : ∀ (xs : List Operand) (vs : List Value), evs K xs = some vs → xs.map (Act.eval ⟨l, ds⟩) = vs
  | [], vs, h => by simpa [evs, eq_comm] using h
  | x :: r, vs, h => by
    unfold evs at h
    cases hx : evO K x with
    | none => rw [hx] at h; cases h
    | some v =>
      cases hr : evs K r with
      | none => rw [hx, hr] at h; cases h
      | some us =>
        rw [hx, hr] at h
        obtain rfl : v :: us = vs := by simpa using h
        simp [ev_of hl hx, evs_map hl r us hr]
def callB (P : Program) (f : FuncId) : Bool := match P.funcs[f]? with
  | some fn => !(fn.name == "runtime.NumGoroutine") && fn.body.isSome
  | none => false
section
variable {ρ : Option Nat} {P : Program} {ops : Array Oper} {Q : Post} {ds : List Deferred} {n : Nat} {rest : List Oper} {K : Kn} {w w' : World} {ty : TypeId}
theorem run_callFunc {f : FuncId} (h : callB P f = true) (args : Array Value) (w : World) : (callFunc f args).run P w = .ok (.enter f args) w := by
  unfold callB at h
  cases hf : P.funcs[f]? with
  | none => rw [hf] at h; cases h
  | some fn =>
    rw [hf] at h
    simp only [Bool.and_eq_true, Bool.not_eq_true'] at h
    have h2 : fn.body.isNone = false := by cases hb : fn.body <;> simp [hb] at h ⊢
    have h1 : ¬ fn.name = "runtime.NumGoroutine" := by simpa using h.1
    have h3 : ¬ fn.body = none := by intro hh; rw [hh] at h2; cases h2
    simp [callFunc, hf, h1, h3]
/-- What an argument list comes to. -/
theorem exec_call {f : FuncId} {x : Operand} {args : Array Operand} {ts : Array TypeId} {first caps vs : List Value} (hx : evO K x = some (.func (.func f) first.toArray caps.toArray)) (ha : evs K args.toList = some vs) (hf : callB P f = true)
    {l : Array Value} (hl : Agree n K l) (d : Option Tmp) (pos : String) (es : Array Edge) (g : Option (Nat × Bool)) (w : World) :
    (execOp (Act.eval ⟨l, ds⟩) ⟨d, .call ⟨.value x, args, ts⟩, ty, pos, es, g⟩).run P w = .ok (.enter f (first ++ vs ++ caps).toArray) w := by
  have e1 : args.map (Act.eval ⟨l, ds⟩) = vs.toArray := by apply Array.toList_inj.1; simpa using evs_map hl args.toList vs ha
  simp [execOp, resolve, e1, ev_of hl hx, Deferred.ofValue, invoke, run_callFunc hf]
theorem WL.callv {d : Nat} {f : FuncId} {x : Operand} {args : Array Operand} {ts : Array TypeId} {pos : String} {es : Array Edge} {first caps vs : List Value} {R : Ending → World → Prop} (hx : evO K x = some (.func (.func f) first.toArray caps.toArray)) (ha : evs K args.toList = some vs) (hf : callB P f = true) (hd : Nat.blt d n = true)
    (hc : Calls P f (first ++ vs ++ caps).toArray w R) (k : ∀ e w', R e w' → ∃ v, e = .returned v ∧ WL ρ P ops Q ds n rest ((d, v) :: K) w') : WL ρ P ops Q ds n (⟨some d, .call ⟨.value x, args, ts⟩, ty, pos, es, none⟩ :: rest) K w :=
  WL.enter (fun l hl => exec_call hx ha hf hl _ _ _ _ _) hd (hc.mono k)
theorem WL.call {d : Nat} {f : FuncId} {args : Array Operand} {ts : Array TypeId} {pos : String} {es : Array Edge} {vs : List Value} {R : Ending → World → Prop} (ha : evs K args.toList = some vs) (hf : callB P f = true) (hd : Nat.blt d n = true)
    (hc : Calls P f vs.toArray w R) (k : ∀ e w', R e w' → ∃ v, e = .returned v ∧ WL ρ P ops Q ds n rest ((d, v) :: K) w') : WL ρ P ops Q ds n (⟨some d, .call ⟨.value (.func f), args, ts⟩, ty, pos, es, none⟩ :: rest) K w :=
  WL.callv (first := []) (caps := []) (x := .func f) rfl ha hf hd (by simpa using hc) k
/-- Under a guard. -/
theorem WL.gcall {d j : Nat} {b g : Bool} {f : FuncId} {args : Array Operand} {ts : Array TypeId} {pos : String} {es : Array Edge} {vs : List Value} (v : Value) (R : World → Prop) (hm : Met ops K j b g) (ha : g = true → evs K args.toList = some vs) (hf : callB P f = true) (hd : Nat.blt d n = true) (h0 : R w)
    (hc : g = true → Calls P f vs.toArray w fun e w' => e = .returned v ∧ R w') (k : ∀ w', R w' → WL ρ P ops Q ds n rest ((d, gv g v) :: K) w') : WL ρ P ops Q ds n (⟨some d, .call ⟨.value (.func f), args, ts⟩, ty, pos, es, some (j, b)⟩ :: rest) K w :=
  WL.genter v R hm (fun hg l hl => by simpa using exec_call (first := []) (caps := []) (x := .func f) rfl (ha hg) hf hl _ _ _ _ _) hd h0 hc k
/-- Arguments that lie under the guard. -/
theorem evs_cons {x : Operand} {r : List Operand} {v : Value} {vs : List Value} (h : evO K x = some v) (h' : evs K r = some vs) : evs K (x :: r) = some (v :: vs) := by simp [evs, h, h']
/-- A method of what an interface holds. -/
theorem WL.invoke {d : Nat} {f : FuncId} {t : TypeId} {name : String} {x : Operand} {args : Array Operand} {ts : Array TypeId} {pos : String} {es : Array Edge} {u r : Value} {vs : List Value} {R : Ending → World → Prop} (hx : evO K x = some (.iface t u)) (ha : evs K args.toList = some vs)
    (hm : ∀ w, (method (P.types.size + Made.depth) t u name).run P w = .ok (f, r) w) (hf : callB P f = true) (hd : Nat.blt d n = true)
    (hc : Calls P f (r :: vs).toArray w R) (k : ∀ e w', R e w' → ∃ v, e = .returned v ∧ WL ρ P ops Q ds n rest ((d, v) :: K) w') : WL ρ P ops Q ds n (⟨some d, .call ⟨.invoke x name, args, ts⟩, ty, pos, es, none⟩ :: rest) K w :=
  WL.enter (f := f) (args := (r :: vs).toArray) (fun l hl => by
    have e1 : args.map (Act.eval ⟨l, ds⟩) = vs.toArray := by apply Array.toList_inj.1; simpa using evs_map hl args.toList vs ha
    have e2 : (Value.iface t u :: vs).toArray.extract 1 (Value.iface t u :: vs).toArray.size = vs.toArray := by
      apply Array.toList_inj.1; simp
    have e3 : (Value.iface t u :: vs).toArray[0]? = some (Value.iface t u) := by simp
    have e4 : (Go.invoke (Target.fn (Fn.method name) #[]) (Value.iface t u :: vs).toArray).run P w = .ok (.enter f (r :: vs).toArray) w := by
      unfold Go.invoke
      rw [e3]
      simp only [callMethod, e2, Sem.run_bind, run_program, Result.andThen_ok, hm, run_callFunc hf]
      simp
    simp [execOp, resolve, e1, ev_of hl hx]
    exact e4) hd (hc.mono k)
variable {w0 : World} {S : Nat → Prop} {σ : Held}
/-! ### append -/
theorem WL.append {i d : Nat} {t e kk by_ m nn cc c2 : Nat} {s x : Operand} {pos : String} {es : Array Edge} {A : Option Addr} {a : Addr} {z : Value} {xs news : List Value} (ht : P.underlying t = some (.slice e)) (hsz : szOk P e kk) (hby : byOk P e by_) (hz : zOk P e z) (hzk : z.cells.size = kk) (h0 : 0 < kk)
    (hs : evO K s = some (.slice A nn cc)) (hx : evO K x = some (.slice (some a) m c2)) (H : St w0 S w σ) (hσ : σ[i]? = some (.row e kk A nn cc xs)) (hl : news.length = m * kk) (hnews : ∀ j u, news[j]? = some u → w.cell? (a.add j) = some u)
    (h1 : ∀ u ∈ news, u.oneCell' = true) (hb0 : 0 < by_) (hb : (nn + m) * by_ ≤ 140737488355328) (hd : Nat.blt d n = true)
    (k : ∀ A' c' w', St w0 S w' (σ.set i (.row e kk A' (nn + m) c' (xs ++ news))) → Gr (fun k => k ∈ (Chunk.row e kk A nn cc xs).blocks) w w' → ((A = none → ∀ a, A' = some a → w.heap.size ≤ a.block)) → (∀ a a', A = some a → A' = some a' → a'.block = a.block ∨ w.heap.size ≤ a'.block) → WL ρ P ops Q ds n rest ((d, .slice A' (nn + m) c') :: K) w') :
    WL ρ P ops Q ds n (⟨some d, .call ⟨.builtin .append, #[s, x], #[t, t]⟩, ty, pos, es, none⟩ :: rest) K w := by
  intro l hl0
  obtain ⟨i0, hi0, hz0⟩ := Option.map_eq_some_iff.1 hz
  have hs0 : i0.size = kk := by
    unfold szOk at hsz; rw [hi0] at hsz; simpa using hsz
  have hb0' : i0.bytes = by_ := by
    unfold byOk at hby; rw [hi0] at hby; simpa using hby
  have hrow := (H.cont _ (List.mem_of_getElem? hσ)).1
  have hm63 : nn + m ≤ maxLen := by
    have h2 : nn + m ≤ (nn + m) * by_ := Nat.le_mul_of_pos_right _ hb0
    simp only [maxLen]; omega
  refine wpListIn_append_own_at w rfl s x t rfl 0 e i0 z kk by_ ht hi0 hz0 hs0 hb0' hzk h0 (.slice A nn cc) nn xs (ev_of hl0 hs) hrow a m c2 news (ev_of hl0 hx) hl hnews h1 hm63 hb (Nat.zero_le _) ?_
  intro v' w1 hown hg _ hat
  have hsl : ∃ A' c', v' = .slice A' (nn + m) c' := by
    rcases hown.2 with ⟨h2, h3⟩ | ⟨g, cap, cur, h2, _⟩
    · exact ⟨none, 0, by rw [h2, h3]⟩
    · exact ⟨_, _, h2⟩
  obtain ⟨A', c', rfl⟩ := hsl
  have hL : Gr (fun k => k ∈ (Chunk.row e kk A nn cc xs).blocks) w w1 := (Gr.of_grownBy hg).mono fun k _ h => by
    cases A with
    | none => simp [Value.ownBlock] at h
    | some a => simp only [Value.ownBlock, Option.some.injEq] at h; simp [Chunk.blocks, h]
  have hbk : ∀ k ∈ (Chunk.row e kk A' (nn + m) c' (xs ++ news)).blocks, k ∈ (Chunk.row e kk A nn cc xs).blocks ∨ w.heap.size ≤ k := by
    intro k hk
    cases A' with
    | none => simp [Chunk.blocks] at hk
    | some a' =>
      obtain rfl : k = a'.block := by simpa [Chunk.blocks] using hk
      rcases hat with hat | hat
      · cases A with
        | none => simp [Value.ownBlock] at hat
        | some a0 => simp only [Value.ownBlock, Option.some.injEq] at hat; exact .inl (by simp [Chunk.blocks, hat])
      · simp only [Value.ownBlock, Option.some.injEq] at hat; exact .inr (by omega)
  refine k A' c' w1 (H.set i hσ _ hL hown hbk (by cases A' <;> simp [Chunk.blocks])) hL ?_ ?_ _ (hl0.put hd _)
  · intro hA a' ha'
    subst hA; subst ha'
    rcases hbk a'.block (by simp [Chunk.blocks]) with h | h
    · simp [Chunk.blocks] at h
    · exact h
  · intro a0 a' ha ha'
    subst ha; subst ha'
    rcases hbk a'.block (by simp [Chunk.blocks]) with h | h
    · exact .inl (by simpa [Chunk.blocks] using h)
    · exact .inr h
/-- Nothing is appended. -/
theorem Ev.append0 {t e c2 : Nat} {s x : Operand} {A A2 : Option Addr} {nn cc kk : Nat} (ht : P.underlying t = some (.slice e)) (hsz : szOk P e kk) (hs : evO K s = some (.slice A nn cc)) (hx : evO K x = some (.slice A2 0 c2)) (hc : nn ≤ cc) :
    Ev P K (.call ⟨.builtin .append, #[s, x], #[t, t]⟩) ty w (.slice A nn cc) w := by
  intro n ds l d pos es g hl
  have hfc : (Builtin.firstCells kk 0 (.slice A2 0 c2)).run P w = .ok #[] w := by
    cases A2 <;> simp [Builtin.firstCells, loadCells, loadCellsFrom]
  have hst : ∀ b : Addr, (storeCells b [] 0).run P w = .ok () w := fun b => by simp [storeCells]
  cases A <;> simp [execOp, resolve, invoke, builtin, ev_of hl hs, ev_of hl hx, Builtin.append_, run_underlying ht, run_sizeOf hsz, Builtin.lenOf, hc, hfc, hst]

/-! ### Indices as natural numbers -/
section
variable {t ty' e : TypeId} {x y : Operand}
theorem Ev.idx {b o m c k j : Nat} {q : IntKind} (ht : P.underlying t = some (.slice e)) (hs : szOk P e k) (hx : evO K x = some (.slice (some ⟨b, o, none⟩) m c)) (hy : evO K y = some (.int q (j : Nat))) (h1 : j < m) :
    Ev P K (.indexAddr t x y) ty w (.pointer (some ⟨b, o + j * k, none⟩)) w := by
  have h := Ev.indexAddr (P := P) (ty := ty) (w := w) ht hs hx hy (Int.natCast_nonneg j) (by omega)
  simpa using h
theorem Ev.idxA {b o m k j : Nat} {q : IntKind} (ht : P.underlying t = some (.array m e)) (hs : szOk P e k) (hx : evO K x = some (.pointer (some ⟨b, o, none⟩))) (hy : evO K y = some (.int q (j : Nat))) (h1 : j < m) :
    Ev P K (.indexAddr t x y) ty w (.pointer (some ⟨b, o + j * k, none⟩)) w := by
  have h := Ev.indexArr (P := P) (ty := ty) (w := w) ht hs hx hy (Int.natCast_nonneg j) (by omega)
  simpa using h
theorem Ev.ch {a : Bs} {j : Nat} {q : IntKind} (ht : P.underlying t = some .string) (hx : evO K x = some (str a)) (hy : evO K y = some (.int q (j : Nat))) (h1 : j < a.length) : Ev P K (.index t x y) ty w (.int .u8 (byteAt a j)) w := by
  have h := Ev.index (P := P) (ty := ty) (w := w) ht hx hy (Int.natCast_nonneg j) (by omega)
  simpa using h
theorem Ev.addN {a b : Nat} (hx : evO K x = some (.int .i64 (a : Nat))) (hy : evO K y = some (.int .i64 (b : Nat))) (hb : a + b ≤ 9223372036854775807) : Ev P K (.binOp .add t x y ty') ty w (.int .i64 ((a + b : Nat) : Int)) w := by
  have h := Ev.add (P := P) (w := w) (t := t) (ty := ty) (ty' := ty') hx hy ⟨by omega, by omega⟩
  simpa using h
theorem Ev.subN {a b : Nat} (hx : evO K x = some (.int .i64 (a : Nat))) (hy : evO K y = some (.int .i64 (b : Nat))) (hb : b ≤ a) (ha : a ≤ 9223372036854775807) : Ev P K (.binOp .sub t x y ty') ty w (.int .i64 ((a - b : Nat) : Int)) w := by
  have h := Ev.sub (P := P) (w := w) (t := t) (ty := ty) (ty' := ty') hx hy ⟨by omega, by omega⟩
  have e : ((a - b : Nat) : Int) = (a : Int) - (b : Int) := by omega
  rw [e]; exact h
theorem Ev.lssN {a b : Nat} {q : IntKind} (hx : evO K x = some (.int q (a : Nat))) (hy : evO K y = some (.int q (b : Nat))) : Ev P K (.binOp .lss t x y ty') ty w (.bool (decide (a < b))) w := by
  have h := Ev.lss (P := P) (w := w) (t := t) (ty := ty) (ty' := ty') hx hy
  simpa using h
theorem Ev.leqN {a b : Nat} {q : IntKind} (hx : evO K x = some (.int q (a : Nat))) (hy : evO K y = some (.int q (b : Nat))) : Ev P K (.binOp .leq t x y ty') ty w (.bool (decide (a ≤ b))) w := by
  have h := Ev.leq (P := P) (w := w) (t := t) (ty := ty) (ty' := ty') hx hy
  simpa using h
theorem Ev.eqN {a b : Nat} {q : IntKind} (hx : evO K x = some (.int q (a : Nat))) (hy : evO K y = some (.int q (b : Nat))) : Ev P K (.binOp .eql t x y ty') ty w (.bool (decide (a = b))) w := by
  have h := Ev.eqi (P := P) (w := w) (t := t) (ty := ty) (ty' := ty') hx hy
  simpa [Int.natCast_inj] using h
theorem Ev.neN {a b : Nat} {q : IntKind} (hx : evO K x = some (.int q (a : Nat))) (hy : evO K y = some (.int q (b : Nat))) : Ev P K (.binOp .neq t x y ty') ty w (.bool (decide (a ≠ b))) w := by
  have h := Ev.nei (P := P) (w := w) (t := t) (ty := ty) (ty' := ty') hx hy
  simpa [Int.natCast_inj] using h
theorem Ev.subN' {a : Bs} {lo hi : Option Operand} {i j : Nat} (ht : P.underlying t = some .string) (hx : evO K x = some (str a))
    (hlo : match lo with | none => i = 0 | some o => evO K o = some (.int .i64 (i : Nat))) (hhi : match hi with | none => j = a.length | some o => evO K o = some (.int .i64 (j : Nat))) (h1 : i ≤ j) (h2 : j ≤ a.length) :
    Ev P K (.slice t x lo hi none) ty w (str ((a.drop i).take (j - i))) w := by
  have h := Ev.subs (P := P) (K := K) (ty := ty) (w := w) (lo := lo) (hi := hi) (i := (i : Nat)) (j := (j : Nat)) ht hx (by cases lo with | none => simpa using hlo | some o => exact ⟨_, hlo⟩) (by cases hi with | none => (simp only at hhi; subst hhi; rfl) | some o => exact ⟨_, hhi⟩) (by omega) (by omega) (by omega)
  simpa using h
end
end
end Go.BK
