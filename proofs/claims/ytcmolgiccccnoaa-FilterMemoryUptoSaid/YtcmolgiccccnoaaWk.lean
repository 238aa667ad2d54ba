/- The walks of functions: what each comes to. -/
import Derived.Test.YtcmolgiccccnoaaWj
import Derived.Test.YtcmolgiccccnoaaProg
set_option linter.unusedVariables false
set_option linter.unusedSimpArgs false
namespace Go.Proofs.Ytcmolgiccccnoaa
open Go.RowKit Go.BK

theorem tok_char {c : UInt8} (h : tokc (c.toNat : Int) = true) : c ≠ 44 ∧ isBlank c = false := by
  refine ⟨fun e => ?_, ?_⟩
  · subst e; revert h; decide
  · rw [isBlank_int]
    by_cases h1 : (c.toNat : Int) = 32
    · rw [h1] at h; exact absurd h (by decide)
    · by_cases h2 : (c.toNat : Int) = 9
      · rw [h2] at h; exact absurd h (by decide)
      · simp [h1, h2]
theorem splitC_tok : ∀ (t : Bs) (s : Bs), (∀ c ∈ t, c ≠ 44) → splitC 44 (t ++ 44 :: s) = t :: splitC 44 s
  | [], s, _ => by rw [List.nil_append, splitC, if_pos rfl]
  | c :: t, s, h => by
    rw [List.cons_append, splitC, if_neg (h c (by simp)), splitC_tok t s (fun d hd => h d (by simp [hd]))]
theorem splitC_one : ∀ (t : Bs), (∀ c ∈ t, c ≠ 44) → splitC 44 t = [t]
  | [], _ => rfl
  | c :: t, h => by rw [splitC, if_neg (h c (by simp)), splitC_one t (fun d hd => h d (by simp [hd]))]
theorem splitC_join : ∀ (r : List Bs) (t : Bs), (∀ x ∈ t :: r, ∀ c ∈ x, c ≠ 44) → splitC 44 (t ++ joinS r) = t :: r
  | [], t, h => by rw [joinS, List.flatMap_nil, List.append_nil, splitC_one t (h t (by simp))]
  | u :: r, t, h => by
    have e : joinS (u :: r) = 44 :: (u ++ joinS r) := by simp [joinS]
    rw [e, splitC_tok t _ (h t (by simp)), splitC_join r u (fun x hx => h x (by simp at hx ⊢; right; exact hx))]
theorem trim_tok {t : Bs} (h : ∀ c ∈ t, isBlank c = false) : trim t = t := by
  have key : ∀ t : Bs, (∀ c ∈ t, isBlank c = false) → trimL t = t := fun t h => by
    unfold trimL
    cases t with
    | nil => rfl
    | cons c t => rw [List.dropWhile_cons_of_neg (by rw [h c (by simp)]; simp)]
  unfold trim
  rw [key t h, key t.reverse (fun c hc => h c (by simpa using hc)), List.reverse_reverse]
theorem elements_join {r : List Bs} (h : ∀ t ∈ r, token t = true) : elements (joinS r) = r := by
  have hc : ∀ t ∈ r, t ≠ [] ∧ (∀ c ∈ t, c ≠ 44) ∧ (∀ c ∈ t, isBlank c = false) := fun t ht => by
    have h1 := h t ht
    unfold token at h1
    simp only [bsimp] at h1
    exact ⟨h1.1, fun c hc => (tok_char (List.all_eq_true.1 h1.2 c hc)).1, fun c hc => (tok_char (List.all_eq_true.1 h1.2 c hc)).2⟩
  cases r with
  | nil => rfl
  | cons t r =>
    have e : joinS (t :: r) = 44 :: (t ++ joinS r) := by simp [joinS]
    have e2 : splitC 44 (44 :: (t ++ joinS r)) = [] :: splitC 44 (t ++ joinS r) := by rw [splitC, if_pos rfl]
    unfold elements
    rw [e, e2, splitC_join r t (fun x hx => (hc x hx).2.1)]
    have e3 : ((t :: r).map trim) = t :: r := by
      conv => rhs; rw [← List.map_id (t :: r)]
      exact List.map_congr_left fun x hx => trim_tok (hc x hx).2.2
    rw [List.map_cons, e3]
    have e4 : trim [] = [] := rfl
    rw [e4, List.filter_cons_of_neg (by simp), List.filter_eq_self]
    intro x hx
    simpa using (hc x hx).1
theorem alike_refl (a : Bs) : alike a a = true := by simp [alike]
theorem alike_symm (a b : Bs) : alike a b = alike b a := by unfold alike; rw [decide_eq_decide]; exact eq_comm
theorem alike_trans {a b c : Bs} (h1 : alike a b = true) (h2 : alike b c = true) : alike a c = true := by
  unfold alike at *
  simp only [decide_eq_true_eq] at *
  exact h1.trans h2
theorem has_join {r : List Bs} (h : ∀ t ∈ r, token t = true) (l e : Bs) : hasF [(l, joinS r)] l e = r.any (fun x => alike x e) := by
  unfold hasF elemsF
  rw [List.filter_cons_of_pos (by exact alike_refl l), List.filter_nil, List.flatMap_cons, List.flatMap_nil, List.append_nil, elements_join h]
/-- A field that has just been set. -/
theorem getF_set (l : List Fld) (nm v : Bs) : getF (setF l nm v) nm = (v, 1) := by
  have e : (setF l nm v).filter (fun f => alike f.1 nm) = [(nm, v)] := by
    unfold setF removeF
    rw [List.filter_append, List.filter_filter]
    have : l.filter (fun a => alike a.1 nm && !alike a.1 nm) = [] := by
      rw [List.filter_eq_nil_iff]; intro a _; simp
    rw [this, List.nil_append, List.filter_cons_of_pos (by exact alike_refl nm)]; rfl
  unfold getF
  rw [e]; rfl
theorem getF_set_other {l : List Fld} {nm nm' v : Bs} (h : alike nm' nm = false) : getF (setF l nm' v) nm = getF l nm := by
  have e : (setF l nm' v).filter (fun f => alike f.1 nm) = l.filter (fun f => alike f.1 nm) := by
    unfold setF removeF
    rw [List.filter_append, List.filter_filter, List.filter_cons_of_neg (by rw [h]; simp), List.filter_nil, List.append_nil]
    apply List.filter_congr
    intro a _
    by_cases h1 : alike a.1 nm = true
    · have : alike a.1 nm' = false := by
        cases h2 : alike a.1 nm' with
        | false => rfl
        | true =>
          have h3 := alike_trans (by rw [alike_symm]; exact h2) h1
          rw [h] at h3; cases h3
      rw [this, h1]; rfl
    · have : alike a.1 nm = false := by simpa using h1
      rw [this]; rfl
  unfold getF
  rw [e]
/-- The name of the field that a filter sets on the way back. -/
def setNm (f : Flt) : Bs := if f.kind = 5 then litAllowOrigin else f.name
def isSet (f : Flt) : Bool := decide (f.kind = 5) || decide (f.kind = 8)
theorem backR_set {x : Fx} (h : isSet x.f = true) (l : List Fld) : backR l x = setF l (setNm x.f) x.f.value := by
  unfold isSet at h
  simp only [bsimp] at h
  unfold backR setNm
  rcases h with h | h
  · rw [if_pos h, if_pos h]
  · rw [if_neg (by omega), if_pos h, if_neg (by omega)]
theorem backR_no {x : Fx} (h : isSet x.f = false) (l : List Fld) : backR l x = l := by
  unfold isSet at h
  simp only [bsimp] at h
  unfold backR
  rw [if_neg h.1, if_neg h.2]
theorem backL_rev (l : List Fld) (xs : List Fx) (x : Fx) : backL l (x :: xs).reverse = backR (backL l xs.reverse) x := by
  rw [List.reverse_cons, backL_snoc]
/-- The first filter that sets a name has the last word. -/
theorem back_first {l : List Fld} : ∀ (xs : List Fx) (i : Nat) (x : Fx), xs[i]? = some x → isSet x.f = true → (∀ y ∈ xs.take i, isSet y.f = true → alike (setNm y.f) (setNm x.f) = false) → getF (backL l xs.reverse) (setNm x.f) = (x.f.value, 1)
  | [], i, x, h, _, _ => by simp at h
  | z :: xs, 0, x, h, hs, _ => by
    obtain rfl : z = x := by simpa using h
    rw [backL_rev, backR_set hs, getF_set]
  | z :: xs, i + 1, x, h, hs, ha => by
    have ih := back_first (l := l) xs i x (by simpa using h) hs (fun y hy => ha y (by simp [hy]))
    rw [backL_rev]
    cases hz : isSet z.f with
    | false => rw [backR_no hz]; exact ih
    | true => rw [backR_set hz, getF_set_other (ha z (by simp) hz)]; exact ih
theorem back_none {l : List Fld} : ∀ (xs : List Fx), (∀ x ∈ xs, isSet x.f = false) → backL l xs.reverse = l
  | [], _ => rfl
  | z :: xs, h => by rw [backL_rev, backR_no (h z (by simp)), back_none xs (fun x hx => h x (by simp [hx]))]
end Go.Proofs.Ytcmolgiccccnoaa
