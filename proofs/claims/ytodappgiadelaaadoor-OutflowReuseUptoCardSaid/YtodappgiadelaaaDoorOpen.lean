/- Arguments, opened: slices of flat structs, texts, integers; and the row's post, once for all laws: this file names no program. -/
import Derived.Test.YtodappgiadelaaaDoorGlue
import Derived.Deep.Slices
import Derived.WideKeyArgs
set_option linter.unusedVariables false
set_option linter.unusedSimpArgs false
namespace Go.BK
open Go.RowKit Go.ChangeShapes Go.WideShapes Go.ChangeAt
section
variable {H : Type} {enc : TypeId × Value → H} {P : Program} {w W W' : World} {held : Bool}
theorem trodAll_ext (hl : laidOutB P = true) (hL : Ext W W') {sp : Nat → Bool} : ∀ {ts : List TypeId} {vs : List Value} {ds : List (DataW H)} {ps : List MemPlace}, (∀ t ∈ ts, P.readableRec t = true ∧ t < P.types.size) → (∀ p ∈ ps, p.block < W.heap.size) → (∀ p ∈ ps, sp p.block = true) →
    DataW.TrodAll enc P W 0 (fun _ => true) true ts vs ds ps → DataW.TrodAll enc P W' 0 sp true ts vs ds ps
  | [], [], [], _, _, _, _, h => h
  | t :: ts, v :: vs, d :: ds, ps, hr, hlt, hs, h => by
    obtain ⟨p, q, h1, h2, rfl⟩ := h
    exact ⟨p, q, WideElems.Trod_stays hl (hr t (by simp)).1 (hr t (by simp)).2 h1 (fun x hx => hL.below.same (hlt x (by simp [hx]))) (fun x hx => hs x (by simp [hx])),
      trodAll_ext hl hL (fun u hu => hr u (by simp [hu])) (fun x hx => hlt x (by simp [hx])) (fun x hx => hs x (by simp [hx])) h2, rfl⟩
  | [], _ :: _, _, _, _, _, _, h => by simp [DataW.TrodAll] at h
  | [], [], _ :: _, _, _, _, _, h => by simp [DataW.TrodAll] at h
  | _ :: _, [], _, _, _, _, _, h => by simp [DataW.TrodAll] at h
  | _ :: _, _ :: _, [], _, _, _, _, h => by simp [DataW.TrodAll] at h
/-- A law that returns true and leaves the old memory alone. -/
theorem law_post {f : FuncId} {fn : Func} {s : ChangeSpec} {args : Array Value} {ds gs : List (DataW H)} {before : List MemPlace} {tb : TypeId} (hl : laidOutB P = true) (hb : P.underlying tb = some .bool)
    (hr : ∀ t ∈ fn.params.toList, P.readableRec t = true ∧ t < P.types.size) (hrt : fn.resultTypes = #[tb]) (hv : s.vars = []) (hW : DataW.Whole enc P fn.params.toList s.vars false W args.toList ds gs before)
    (hs : s.fn H (ds ++ gs) = { results := [.lit (.bool true)], args := ds })
    (hc : Calls P f args W fun e w' => e = .returned (.bool true) ∧ St W No w' []) : Calls P f args W fun e W' => ∃ v, e = .returned v ∧ s.post enc P fn false true false false W args v W' := by
  refine hc.mono ?_
  rintro e W' ⟨rfl, hg⟩
  have hlt := hW.lt
  have hW' := hW
  obtain ⟨p, q, hA, hV, rfl, hfz, hnd⟩ := hW
  rw [hv] at hV
  obtain ⟨rfl, rfl⟩ := trodVars_none hV
  refine ⟨_, rfl, post_of_ext (pa := p) (pv := []) hg.gr hW' (fun b sp hd => ?_) (fun sp hsp => ?_) (fun sp _ => ?_) rfl ?_⟩
  · rw [hs, hrt]
    exact trodAll_cons_mk (shut_bool hb _) trodAll_mk0
  · rw [hs]
    exact trodAll_ext hl hg.gr hr (fun x hx => hlt x (by simp [hx])) (fun x hx => hsp x (by simp [hx])) hA
  · rw [hs, hv]; rfl
  · exact ok_one hrt rfl (okWide_bool_mk hb _)
/-- A slice whose elements lie flat. -/
theorem open_rows {α : Type} (k : Kd α) (Q : α → DataW H → Prop) {t e : TypeId} (ht : P.underlying t = some (.slice e)) (hc : P.cellsOf e = k.sz)
    (hel : ∀ (n : Nat) (cs : List Value) (y : DataW H × List MemPlace), DataW.trod enc P w 0 (fun _ => true) held n e cs = some y → ∃ a : α, cs = k.enc a ∧ Q a y.1)
    {fuel : Nat} {cs : List Value} {x : DataW H × List MemPlace} (h : DataW.trod enc P w 0 (fun _ => true) held fuel t cs = some x) :
    ∃ (A : Option Addr) (c : Nat) (xs : List α), cs = [.slice A xs.length c] ∧ Rd k (fun _ => True) w A c xs ∧ ((x.1 = .nil ∧ xs = []) ∨ ∃ Ds rest, x.1 = .slice Ds rest ∧ Ds.length = xs.length ∧ ∀ (i : Nat) (a : α), xs[i]? = some a → ∃ d, Ds[i]? = some d ∧ Q a d) := by
  rcases Go.Deep.open_slice ht h with ⟨rfl, rfl⟩ | ⟨a, len, cap, m, n, D, Pl, rfl, _, hlc, _, hm, rfl, hx⟩
  · exact ⟨none, 0, [], rfl, Rd.nil _ _ _ _ _, .inl ⟨rfl, rfl⟩⟩
  · have hlm : len ≤ m := by rw [hm]; simp; exact hlc
    have hch : ∀ i, i < len → ∃ b : α, w.cells? 0 (a.add (i * P.cellsOf e)) (P.cellsOf e) = some (k.enc b) ∧ Q b (D i) := by
      intro i hi
      obtain ⟨cs', h1, h2⟩ := hx i (by omega)
      obtain ⟨b, rfl, hb⟩ := hel n cs' _ h2
      exact ⟨b, h1, hb⟩
    have key : ∀ j, j ≤ len → ∃ xs : List α, xs.length = j ∧ ∀ i b, xs[i]? = some b → w.cells? 0 (a.add (i * P.cellsOf e)) (P.cellsOf e) = some (k.enc b) ∧ Q b (D i) := by
      intro j
      induction j with
      | zero => intro _; exact ⟨[], rfl, fun i b hb => by simp at hb⟩
      | succ j ih =>
        intro hj
        obtain ⟨xs, h1, h2⟩ := ih (by omega)
        obtain ⟨b, h3, h4⟩ := hch j (by omega)
        refine ⟨xs ++ [b], by simp [h1], fun i c hc => ?_⟩
        rcases Nat.lt_or_ge i xs.length with hi | hi
        · rw [List.getElem?_append_left hi] at hc; exact h2 i c hc
        · rw [List.getElem?_append_right hi] at hc
          have : i - xs.length = 0 := by
            rcases Nat.eq_zero_or_pos (i - xs.length) with h | h
            · exact h
            · rw [List.getElem?_eq_none (by simp; omega)] at hc; cases hc
          rw [this] at hc
          obtain rfl : b = c := by simpa using hc
          obtain rfl : i = j := by omega
          exact ⟨h3, h4⟩
    obtain ⟨xs, h1, h2⟩ := key len (Nat.le_refl _)
    refine ⟨some a, cap, xs, by rw [h1], ⟨by omega, fun hp => ?_⟩, .inr ⟨_, _, rfl, by simp [h1], fun i b hb => ⟨D i, ?_, (h2 i b hb).2⟩⟩⟩
    · have hspot : a.spot = none := by
        have h0 := (h2 0 xs[0] (List.getElem?_eq_getElem hp)).1
        obtain ⟨_, hlen, hcell⟩ := World.cells?_some h0
        have hk : 0 < P.cellsOf e := by rw [hc]; exact k.pos
        have hh := hcell 0 (by omega)
        have h9 : (k.enc xs[0])[0]? = some ((k.enc xs[0])[0]'(by rw [k.len]; exact k.pos)) := List.getElem?_eq_getElem _
        rw [h9] at hh
        have := World.cell?_spot hh
        unfold Addr.add at this
        split at this <;> simp_all
      obtain ⟨b, o, sp⟩ := a
      simp only at hspot
      subst hspot
      refine ⟨b, o, rfl, trivial, fun j x hx i v hv => ?_⟩
      obtain ⟨_, hlen, hcell⟩ := World.cells?_some (h2 j x hx).1
      have hi : i < P.cellsOf e := by
        rw [hc, ← k.len x]
        rcases Nat.lt_or_ge i (k.enc x).length with h | h
        · exact h
        · rw [List.getElem?_eq_none h] at hv; cases hv
      have := hcell i hi
      rw [hv, add_none, add_none, hc] at this
      exact this
    · have hi : i < xs.length := by
        rcases Nat.lt_or_ge i xs.length with h | h
        · exact h
        · rw [List.getElem?_eq_none h] at hb; cases hb
      rw [List.getElem?_map, List.getElem?_range (by omega)]
      rfl
end
end Go.BK
