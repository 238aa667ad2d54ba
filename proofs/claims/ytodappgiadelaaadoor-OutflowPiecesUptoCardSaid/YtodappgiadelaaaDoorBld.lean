/- What strings.Builder's methods do with memory: this file names no program. -/
import Derived.Test.YtodappgiadelaaaDoorOff
import Derived.Test.YtodappgiadelaaaDoorRow
import Derived.Test.YtodappgiadelaaaDoorStr
import Derived.Test.YtodappgiadelaaaDoorSpec
import Derived.Lib.UnsafeStr
import Derived.Lib.Builder
import Derived.Laws.Externs
set_option linter.unusedVariables false
set_option linter.unusedSimpArgs false
namespace Go.BK
open Go.RowKit
section
variable {P : Program} {K : Kn} {w0 w w' : World} {S : Nat → Prop} {σ : Held} {ty : TypeId}
theorem St.shape (H : St w0 S w σ) (i : Nat) {b : Nat} {cs : List Value} {t : TypeId} {fz : Nat × Nat} (hσ : σ[i]? = some (.blk b cs t fz)) : w.shape? b = some (t, cs.length) := by
  simp [World.shape?, H.blk i hσ]
theorem St.bkNot {σ1 σ2 : Held} {c : Chunk} (H : St w0 S w (σ1 ++ σ2)) (hc : c ∈ σ2) {b : Nat} (hb : b ∈ c.blocks) : ¬ Bk σ1 b := fun h => by
  obtain ⟨d, hd, hdb⟩ := List.mem_flatMap.1 h
  exact Held.apart H.nd hd hc hdb hb
theorem St.cast0 {a b : Chunk} (H : St w0 S w (a :: σ)) (e : a = b) : St w0 S w (b :: σ) := e ▸ H
theorem Met.off {ops : Array Oper} {j s : Nat} {p : Bool} (hp : p = false) (hs : guardSlot ops j = some s := by rfl) (hv : look K s = some (.bool p) := by rfl) : Met ops K j false true := ⟨s, _, hs, hv, by rw [hp]; rfl⟩
theorem Ev.minN {a b : Nat} {ts : Array TypeId} {q : IntKind} {x y : Operand} (hx : evO K x = some (.int q (a : Nat))) (hy : evO K y = some (.int q (b : Nat))) : Ev P K (.call ⟨.builtin .min, #[x, y], ts⟩) ty w (.int q ((min a b : Nat) : Int)) w := by
  have e : ((min a b : Nat) : Int) = min (a : Int) (b : Int) := by omega
  rw [e]
  exact Ev.min2 hx hy
theorem Ev.toUnsafe {src dst t e : TypeId} {k cells b o : Nat} {x : Operand} (hs : P.underlying src = some (.pointer t)) (hd : P.underlying dst = some .unsafePointer) (hk : szOk P t k) (hk0 : Nat.beq k 0 = false) (hx : evO K x = some (.pointer (some ⟨b, o, none⟩)))
    (hsh : w.shape? b = some (e, cells)) (hoff : o < cells) : Ev P K (.convert src dst x) ty w (.pointer (some ⟨b, o, none⟩)) w := by
  intro n ds l d pos es g hl
  obtain ⟨j, hj, hjs⟩ := Option.map_eq_some_iff.1 hk
  have h := Lib.run_to_unsafe w ⟨b, o, none⟩ hs hd hj (by rw [hjs]; intro h; subst h; simp at hk0) hsh hoff
  simp [execOp, ev_of hl hx, Sem.run_bind, h, Result.andThen]
theorem Ev.fromUnsafe {src dst u e : TypeId} {k cells b o : Nat} {x : Operand} (hs : P.underlying src = some .unsafePointer) (hd : P.underlying dst = some (.pointer u)) (hk : szOk P u k) (hx : evO K x = some (.pointer (some ⟨b, o, none⟩)))
    (hsh : w.shape? b = some (e, cells)) (hlies : liesAt P P.depth e (cells / P.cellsOf e) o u 1 = true) : Ev P K (.convert src dst x) ty w (.pointer (some ⟨b, o, none⟩)) w := by
  intro n ds l d pos es g hl
  obtain ⟨j, hj, hjs⟩ := Option.map_eq_some_iff.1 hk
  have h := Lib.run_from_unsafe w ⟨b, o, none⟩ hs hd hj hsh hlies
  simp [execOp, ev_of hl hx, Sem.run_bind, h, Result.andThen]
/-- A call of a function that has no body here: what stands for it. -/
def extB (P : Program) (f : FuncId) (e : Array Value → Sem Value) : Prop := ∃ fn, P.funcs[f]? = some fn ∧ (fn.name == "runtime.NumGoroutine") = false ∧ fn.body.isNone = true ∧ Extern.findNext fn = none ∧ Extern.find fn = some e
theorem Ev.noEsc {f : FuncId} {x : Operand} {ts : Array TypeId} {v : Value} (hf : extB P f Extern.AbiNoEscape.same) (hx : evO K x = some v) : Ev P K (.call ⟨.value (.func f), #[x], ts⟩) ty w v w := by
  intro n ds l d pos es g hl
  obtain ⟨fn, h1, h2, h3, h4, h5⟩ := hf
  have h := run_callFunc_extern h1 h2 h3 h4 h5 #[v] w
  rw [Lib.run_noEscape] at h
  simp only [Result.andThen] at h
  have e1 : Act.eval ⟨l, ds⟩ (.func f) = .func (.func f) #[] #[] := rfl
  simp [execOp, resolve, ev_of hl hx, e1, Deferred.ofValue, Go.invoke, h]
theorem Ev.neSame {e : TypeId} {k : Nat} {a : Addr} {t ty' : TypeId} {x y : Operand} (ht : P.underlying t = some (.pointer e)) (hk : szOk P e k) (hx : evO K x = some (.pointer (some a))) (hy : evO K y = some (.pointer (some a))) : Ev P K (.binOp .neq t x y ty') ty w (.bool false) w := by
  obtain ⟨j, hj, _⟩ := Option.map_eq_some_iff.1 hk
  exact Ev.bin hx hy (eqGuard_ptr _ _ _ _ _ _) (Lib.run_neq_ptr_same w a ht hj)
end
theorem results4 {fn : Func} {t u v z : Tmp} (h : fn.results = #[.tmp t, .tmp u, .tmp v, .tmp z]) (tmps : Array Value) (P : Program) (w : World) : (results fn tmps).run P w = .ok (.tuple #[tmps.getD t undef, tmps.getD u undef, tmps.getD v undef, tmps.getD z undef]) w := by simp [results, h]
theorem WQ.ret4 {P : Program} {n : Nat} {K : Kn} {w : World} {fn : Func} {R : Ending → World → Prop} {t u s r : Nat} {v v' v'' v3 : Value} (hr : fn.results = #[.tmp t, .tmp u, .tmp s, .tmp r]) (hv : look K t = some v) (hv' : look K u = some v') (hv'' : look K s = some v'') (hv3 : look K r = some v3) (h : R (.returned (.tuple #[v, v', v'', v3])) w) : WQ (bodyPost P fn R) .ret [] n K w := fun l hl => by
  refine bodyPost_ret (results4 hr _ _ _) rfl ?_
  have h1 := hl.2 _ _ hv
  have h2 := hl.2 _ _ hv'
  have h3 := hl.2 _ _ hv''
  have h4 := hl.2 _ _ hv3
  simpa [Array.getD_eq_getD_getElem?, h1, h2, h3, h4] using h
theorem results5 {fn : Func} {t u v z y : Tmp} (h : fn.results = #[.tmp t, .tmp u, .tmp v, .tmp z, .tmp y]) (tmps : Array Value) (P : Program) (w : World) : (results fn tmps).run P w = .ok (.tuple #[tmps.getD t undef, tmps.getD u undef, tmps.getD v undef, tmps.getD z undef, tmps.getD y undef]) w := by simp [results, h]
theorem WQ.ret5 {P : Program} {n : Nat} {K : Kn} {w : World} {fn : Func} {R : Ending → World → Prop} {t u s r q : Nat} {v v' v'' v3 v4 : Value} (hr : fn.results = #[.tmp t, .tmp u, .tmp s, .tmp r, .tmp q]) (hv : look K t = some v) (hv' : look K u = some v') (hv'' : look K s = some v'') (hv3 : look K r = some v3) (hv4 : look K q = some v4) (h : R (.returned (.tuple #[v, v', v'', v3, v4])) w) : WQ (bodyPost P fn R) .ret [] n K w := fun l hl => by
  refine bodyPost_ret (results5 hr _ _ _) rfl ?_
  have h1 := hl.2 _ _ hv
  have h2 := hl.2 _ _ hv'
  have h3 := hl.2 _ _ hv''
  have h4 := hl.2 _ _ hv3
  have h5 := hl.2 _ _ hv4
  simpa [Array.getD_eq_getD_getElem?, h1, h2, h3, h4, h5] using h
section
variable {ρ : Option Nat} {P : Program} {ops : Array Oper} {Q : Post} {ds : List Deferred} {n : Nat} {rest : List Oper} {K : Kn} {w0 w : World} {S : Nat → Prop} {σ : Held} {ty : TypeId}
theorem strCells_ch (s : Bs) : Lib.strCells ⟨s.toArray⟩ = s.flatMap kCh.enc := by rw [flat_ch]; rfl
/-- A string's bytes behind a held row of bytes. -/
theorem WL.appendStr {i d : Nat} {t u e nn cc : Nat} {sl x : Operand} {pos : String} {es : Array Edge} {A : Option Addr} {s : Bs} {xs : List Value} (ht : P.underlying t = some (.slice e)) (hu : P.underlying u = some .string) (hsz : szOk P e 1) (hby : byOk P e 1) (hz : zOk P e (.int .u8 0))
    (hs : evO K sl = some (.slice A nn cc)) (hx : evO K x = some (str s)) (H : St w0 S w σ) (hσ : σ[i]? = some (.row e 1 A nn cc xs)) (hb : nn + s.length ≤ 140737488355328) (hd : Nat.blt d n = true)
    (k : ∀ A' c' w', St w0 S w' (σ.set i (.row e 1 A' (nn + s.length) c' (xs ++ s.flatMap kCh.enc))) → Gr (fun k => k ∈ (Chunk.row e 1 A nn cc xs).blocks) w w' → (A = none → s = [] → A' = none) → WL ρ P ops Q ds n rest ((d, .slice A' (nn + s.length) c') :: K) w') :
    WL ρ P ops Q ds n (⟨some d, .call ⟨.builtin .append, #[sl, x], #[t, u]⟩, ty, pos, es, none⟩ :: rest) K w := by
  obtain ⟨i0, hi0, hz0⟩ := Option.map_eq_some_iff.1 hz
  have hs0 : i0.size = 1 := by
    unfold szOk at hsz; rw [hi0] at hsz; simpa using hsz
  have hb0' : i0.bytes = 1 := by
    unfold byOk at hby; rw [hi0] at hby; simpa using hby
  have hrow := (H.cont _ (List.mem_of_getElem? hσ)).1
  have hsl : (⟨s.toArray⟩ : ByteArray).size = s.length := by simp [ByteArray.size]
  have h63 : nn + (⟨s.toArray⟩ : ByteArray).size ≤ maxLen := by rw [hsl]; simp only [maxLen]; omega
  obtain ⟨v', w1, hr, hown, hg, hnil⟩ := Lib.run_append_own_string (P := P) w 0 t u ty e i0 ht hu hi0 hz0 hs0 hb0' (.slice A nn cc) nn xs hrow ⟨s.toArray⟩ h63 (by rw [hsl]; exact hb) (Nat.zero_le _)
  have hat : ∀ a c m, v' = .slice (some a) m c → (Chunk.row e 1 A nn cc xs).blocks = [a.block] ∨ w.heap.size ≤ a.block := by
    intro a c m hv
    rcases hrow.2 with ⟨h1, h2⟩ | ⟨g, cap, cur, h1, _, hgb, hnc, hcm, hcs, htk⟩
    · injection h1 with e1 e2 e3
      subst e1; subst e3; subst h2
      obtain ⟨v2, w2, hr2, hown2, _, _⟩ := Lib.run_append_own_string (P := P) w w.heap.size t u ty e i0 ht hu hi0 hz0 hs0 hb0' (.slice none 0 0) 0 xs ⟨hrow.1, .inl ⟨rfl, rfl⟩⟩ ⟨s.toArray⟩ h63 (by rw [hsl]; exact hb) (Nat.le_refl _)
      rw [hr] at hr2
      injection hr2 with e4 e5
      subst e4
      rcases hown2.2 with ⟨h3, _⟩ | ⟨g, _, _, h3, h4, _⟩
      · rw [hv] at h3; cases h3
      · rw [hv] at h3
        injection h3 with e6
        injection e6 with e7
        subst e7
        exact .inr h4
    · injection h1 with e1 e2 e3
      subst e1; subst e3
      by_cases hroom : nn + (⟨s.toArray⟩ : ByteArray).size ≤ cc
      · have hr3 := Lib.run_append_room_string (P := P) w t u ty e i0 ht hu hi0 hs0 g nn cc cur hgb ⟨s.toArray⟩ hroom (by rw [hcs]; omega)
        rw [hr] at hr3
        injection hr3 with e4 e5
        rw [hv] at e4
        injection e4 with e6
        injection e6 with e7
        subst e7
        exact .inl rfl
      · have hxl : xs.length = nn := by simpa using hrow.1
        have hr3 := Lib.run_append_grow_string (P := P) w t u ty e i0 (.int .u8 0) ht hu hi0 hz0 ⟨g, 0, none⟩ nn cc xs (by rw [hs0]; simpa using hxl) (hrow.cells (g := g) rfl) ⟨s.toArray⟩ (by omega) (by rw [hsl]; omega) (by rw [hb0']; exact growslice_fits (by rw [hsl]; omega) (by omega))
        rw [hr] at hr3
        injection hr3 with e4 e5
        rw [hv] at e4
        injection e4 with e6
        injection e6 with e7
        subst e7
        exact .inr (Nat.le_refl _)
  have hsl' : ∃ A' c', v' = .slice A' (nn + s.length) c' := by
    rcases hown.2 with ⟨h2, h3⟩ | ⟨g, cap, cur, h2, _⟩
    · refine ⟨none, 0, ?_⟩
      rw [hsl] at h3
      rw [h2, h3]
    · rw [hsl] at h2
      exact ⟨_, _, h2⟩
  obtain ⟨A', c', rfl⟩ := hsl'
  rw [hsl, strCells_ch] at hown
  have hL : Gr (fun k => k ∈ (Chunk.row e 1 A nn cc xs).blocks) w w1 := (Gr.of_grownBy hg).mono fun k _ h => by
    cases A with
    | none => simp [Value.ownBlock] at h
    | some a => simp only [Value.ownBlock, Option.some.injEq] at h; simp [Chunk.blocks, h]
  refine WL.v (v := .slice A' (nn + s.length) c') (w' := w1) (fun n ds l d pos es g hl => ?_) hd (k A' c' w1 (H.set i hσ _ hL hown ?_ (by cases A' <;> simp [Chunk.blocks])) hL ?_)
  · simp [execOp, resolve, ev_of hl hs, ev_of hl hx, Go.invoke, Go.builtin, str, hr, Result.andThen]
  · intro b hb
    cases A' with
    | none => simp [Chunk.blocks] at hb
    | some a =>
      obtain rfl : b = a.block := by simpa [Chunk.blocks] using hb
      rcases hat a c' _ rfl with h | h
      · exact .inl (by rw [h]; simp)
      · exact .inr h
  · intro hA hs0'
    subst hs0'
    subst hA
    rcases hrow.2 with ⟨h1, _⟩ | ⟨g, cap, cur, h1, _⟩
    · have h2 := hnil.2 ⟨h1, rfl⟩
      injection h2
    · injection h1 with e1; cases e1
/-- unsafe.SliceData of a held row. -/
theorem Ev.sliceData {t p nn cc e sz i : Nat} {x : Operand} {A : Option Addr} {xs : List Value} (hx : evO K x = some (.slice A nn cc)) (H : St w0 S w σ) (hσ : σ[i]? = some (.row e sz A nn cc xs)) (h0 : nn = 0 → A = none) : Ev P K (.call ⟨.builtin .unsafeSliceData, #[x], #[t]⟩) p w (.pointer A) w := by
  intro n ds l d pos es g hl
  have hrow := (H.cont _ (List.mem_of_getElem? hσ)).1
  have hr : (Builtin.unsafeSliceData_ #[t] p #[.slice A nn cc]).run P w = .ok (.pointer A) w := by
    rcases hrow.2 with ⟨h1, h2⟩ | ⟨g, cap, cur, h1, _, hgb, hnc, hcm, hcs, htk⟩
    · injection h1 with e1; subst e1; rfl
    · injection h1 with e1 e2 e3
      subst e1; subst e3
      exact Lib.run_unsafeSliceData_row _ _ _ _ _ _ (fun hc => by have := h0 (by omega); cases this)
  simp [execOp, resolve, ev_of hl hx, Go.invoke, Go.builtin, hr, Result.andThen]
/-- unsafe.String over all of a held row: the row is given up. -/
theorem WL.unsafeStr {i d : Nat} {p t nn cc e : Nat} {x y : Operand} {pos : String} {es : Array Edge} {A : Option Addr} {s : Bs} (hp : P.underlying p = some (.pointer e)) (hc : P.cellsOf e = 1) (hx : evO K x = some (.pointer A)) (hy : evO K y = some (.int .i64 (nn : Nat)))
    (H : St w0 S w σ) (hσ : σ[i]? = some (.row e 1 A nn cc (s.flatMap kCh.enc))) (hd : Nat.blt d n = true)
    (k : ∀ w', St w0 S w' (σ.set i (.row e 1 none 0 0 [])) → Gr (fun k => k ∈ (Chunk.row e 1 A nn cc (s.flatMap kCh.enc)).blocks) w w' → WL ρ P ops Q ds n rest ((d, str s) :: K) w') :
    WL ρ P ops Q ds n (⟨some d, .call ⟨.builtin .unsafeString, #[x, y], #[p, t]⟩, ty, pos, es, none⟩ :: rest) K w := by
  have hrow := (H.cont _ (List.mem_of_getElem? hσ)).1
  have hlen : s.length = nn := by
    have := hrow.1
    rw [flat_len, show kCh.sz = 1 from rfl] at this
    omega
  have hend : ∀ w', (Builtin.unsafeString_ #[p, t] ty #[.pointer A, .int .i64 (nn : Nat)]).run P w = .ok (str s) w' → Gr (fun k => k ∈ (Chunk.row e 1 A nn cc (s.flatMap kCh.enc)).blocks) w w' → WL ρ P ops Q ds n (⟨some d, .call ⟨.builtin .unsafeString, #[x, y], #[p, t]⟩, ty, pos, es, none⟩ :: rest) K w := by
    intro w' hr hL
    refine WL.v (v := str s) (w' := w') (fun n ds l d pos es g hl => ?_) hd (k w' (H.set i hσ _ hL (World.ownsRow_nil w' 0 e 1) (fun b hb => by simp [Chunk.blocks] at hb) (by simp [Chunk.blocks])) hL)
    simp [execOp, resolve, ev_of hl hx, ev_of hl hy, Go.invoke, Go.builtin, hr, Result.andThen]
  by_cases h0 : s = []
  · subst h0
    obtain rfl : nn = 0 := hlen.symm
    exact hend w (Lib.run_unsafeString_none w p t ty A) (Gr.refl _ _)
  · rcases hrow.2 with ⟨h1, h2⟩ | ⟨g, cap, cur, h1, _, hgb, hnc, hcm, hcs, htk⟩
    · exact absurd (List.eq_nil_of_length_eq_zero (hlen.trans h2)) h0
    · injection h1 with e1 e2 e3
      subst e1; subst e3
      refine hend (w.freeze ⟨g, 0, none⟩ s.length) ?_ ?_
      · have := Lib.run_unsafeString_row (P := P) w p t ty e hp hc g cur.size (by simp [World.shape?, hgb]) s h0 (by omega) (by unfold maxLen at hcm; omega) (fun j x hj => by
          have h9 := hrow.cells (g := g) rfl j (.int .u8 x.toNat) (by rw [flat_ch]; simp [hj])
          exact h9)
        rw [← hlen]
        exact this
      · unfold World.freeze
        split
        · exact Gr.refl _ _
        · exact ⟨rfl, rfl, rfl, by simp, fun k hk hn => by
            simp only [Array.getElem?_modify]
            rw [if_neg (fun h => hn (by simp [Chunk.blocks, ← h]))]⟩
end
end Go.BK
