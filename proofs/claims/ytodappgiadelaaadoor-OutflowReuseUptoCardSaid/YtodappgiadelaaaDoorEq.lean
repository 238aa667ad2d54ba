/- Structs of numbers, texts and bools held against each other; a row that is appended whole: this file names no program. -/
import Derived.Test.YtodappgiadelaaaDoorSpec
import Derived.Laws.StructEq
set_option linter.unusedVariables false
set_option linter.unusedSimpArgs false
namespace Go.BK
open Go.RowKit
/-- Texts (0), numbers (1), bools (2). -/
inductive EqL : List Nat → List Value → List Value → Bool → Prop
  | nil : EqL [] [] [] true
  | str {κ : List Nat} {a b : Bs} {us vs : List Value} {r : Bool} (h : EqL κ us vs r) : EqL (0 :: κ) (str a :: us) (str b :: vs) (decide (a = b) && r)
  | int {κ : List Nat} {k : IntKind} {a b : Int} {us vs : List Value} {r : Bool} (h : EqL κ us vs r) : EqL (1 :: κ) (.int k a :: us) (.int k b :: vs) (decide (a = b) && r)
  | bool {κ : List Nat} {a b : Bool} {us vs : List Value} {r : Bool} (h : EqL κ us vs r) : EqL (2 :: κ) (.bool a :: us) (.bool b :: vs) (decide (a = b) && r)
def knd : Option TypeDesc → Option Nat
  | some .string => some 0
  | some (.int _) => some 1
  | some .bool => some 2
  | _ => none
def cmpF (P : Program) : List Nat → List Field → Nat → Bool
  | [], [], _ => true
  | q :: κ, f :: fs, i => f.offset == i && f.name != "_" && knd (P.underlying f.type) == some q && cmpF P κ fs (i + 1)
  | _, _, _ => false
def cmpB (P : Program) (t : TypeId) (κ : List Nat) : Bool := match P.underlying t with
  | some (.struct fs) => !P.stoodInHeld t && !P.eqGuardType P.depth t && cmpF P κ fs.toList 0
  | _ => false
section
variable {ρ : Option Nat} {P : Program} {K : Kn} {w w0 : World} {ty : TypeId}
theorem knd_flat {t : TypeId} {q : Nat} (h : knd (P.underlying t) = some q) (w : World) : (isAgg t).run P w = .ok false w := by
  apply run_isAgg_flat
  unfold flatB
  cases hu : P.underlying t with
  | none => rw [hu] at h; cases h
  | some de => rw [hu] at h; cases de <;> simp [knd] at h <;> rfl
theorem run_eqFields (d : Nat) : ∀ (fs : List Field) (κ : List Nat) (i : Nat) (pu pv us vs : List Value) (r : Bool) (w : World), cmpF P κ fs i = true → pu.length = i → pv.length = i → EqL κ us vs r →
    (Op.eqFields (d + 1) (pu ++ us).toArray (pv ++ vs).toArray fs).run P w = .ok r w
  | [], κ, i, pu, pv, us, vs, r, w, hc, _, _, h => by
    cases h with
    | nil => simp [Op.eqFields]
    | _ => simp [cmpF] at hc
  | f :: fs, κ, i, pu, pv, us, vs, r, w, hc, hu, hv, h => by
    have go : ∀ (q : Nat) (κ' : List Nat) (x y : Value) (us' vs' : List Value) (b r' : Bool), κ = q :: κ' → us = x :: us' → vs = y :: vs' → r = (b && r') → EqL κ' us' vs' r' → (knd (P.underlying f.type) = some q → ∀ w, (Op.equalIn (d + 1) f.type x y).run P w = .ok b w) →
        (Op.eqFields (d + 1) (pu ++ us).toArray (pv ++ vs).toArray (f :: fs)).run P w = .ok r w := by
      intro q κ' x y us' vs' b r' e0 e1 e2 e3 h' heq
      subst e0 e1 e2 e3
      simp only [cmpF, Bool.and_eq_true, beq_iff_eq, bne_iff_ne] at hc
      obtain ⟨⟨⟨ho, hn⟩, ht⟩, hc'⟩ := hc
      have ih := run_eqFields d fs κ' (i + 1) (pu ++ [x]) (pv ++ [y]) us' vs' r' w hc' (by simp [hu]) (by simp [hv]) h'
      simp only [List.append_assoc, List.singleton_append] at ih
      have hagg := knd_flat ht
      have p1 : (part f.type (pu ++ x :: us').toArray f.offset).run P w = .ok x w := by
        have hx : (pu ++ x :: us')[i]? = some x := by rw [List.getElem?_append_right (by omega)]; simp [hu]
        simp [part, hagg, ho, hx]
      have p2 : (part f.type (pv ++ y :: vs').toArray f.offset).run P w = .ok y w := by
        have hx : (pv ++ y :: vs')[i]? = some y := by rw [List.getElem?_append_right (by omega)]; simp [hv]
        simp [part, hagg, ho, hx]
      simp only [Op.eqFields, if_pos hn, Sem.run_bind, p1, p2, Result.andThen_ok, heq ht]
      cases b
      · simp
      · simpa using ih
    cases h with
    | nil => simp [cmpF] at hc
    | @str κ' a b us' vs' r' h =>
      refine go 0 _ _ _ _ _ _ _ rfl rfl rfl rfl h fun hk w => ?_
      cases hu : P.underlying f.type with
      | none => rw [hu] at hk; cases hk
      | some de =>
        rw [hu] at hk
        cases de <;> simp [knd] at hk
        rw [run_equalIn_string w d f.type _ _ hu, str_toList, str_toList, beq_dec]
    | @int κ' k a b us' vs' r' h =>
      refine go 1 _ _ _ _ _ _ _ rfl rfl rfl rfl h fun hk w => ?_
      cases hu : P.underlying f.type with
      | none => rw [hu] at hk; cases hk
      | some de =>
        rw [hu] at hk
        cases de <;> simp [knd] at hk
        rw [run_equalIn_int w d f.type _ _ _ _ hu, beq_dec]
    | @bool κ' a b us' vs' r' h =>
      refine go 2 _ _ _ _ _ _ _ rfl rfl rfl rfl h fun hk w => ?_
      cases hu : P.underlying f.type with
      | none => rw [hu] at hk; cases hk
      | some de =>
        rw [hu] at hk
        cases de <;> simp [knd] at hk
        rw [run_equalIn_bool' w d f.type _ _ hu, beq_dec]
theorem run_eqAgg {t : TypeId} {κ : List Nat} {us vs : List Value} {r : Bool} (hc : cmpB P t κ = true) (h : EqL κ us vs r) (w : World) : (Op.equalIn (9998 + 1 + 1) t (.agg us.toArray) (.agg vs.toArray)).run P w = .ok r w ∧ P.eqGuardType P.depth t = false := by
  unfold cmpB at hc
  cases hu : P.underlying t with
  | none => rw [hu] at hc; cases hc
  | some de =>
    rw [hu] at hc
    cases de <;> simp at hc
    rename_i fs
    obtain ⟨⟨h1, h2⟩, h3⟩ := hc
    have hf : P.fieldsOf t = fs := by unfold Program.fieldsOf; rw [hu]
    refine ⟨?_, h2⟩
    rw [run_equalIn_struct w (9998 + 1) t _ _ (by rw [hf]; exact hu) h1, hf]
    have := run_eqFields (P := P) 9998 fs.toList κ 0 [] [] us vs r w h3 rfl rfl h
    simpa using this
theorem Ev.eqA {t ty' : TypeId} {x y : Operand} {κ : List Nat} {us vs : List Value} {r : Bool} (hc : cmpB P t κ = true) (hx : evO K x = some (.agg us.toArray)) (hy : evO K y = some (.agg vs.toArray)) (h : EqL κ us vs r) : Ev P K (.binOp .eql t x y ty') ty w (.bool r) w := by
  obtain ⟨h1, h2⟩ := run_eqAgg hc h w
  refine Ev.bin hx hy (fun w => run_eqGuard_agg w _ _ _ _ _ _ h2) ?_
  rw [run_eql_struct]
  have h1' : (Op.equalIn 10000 t (.agg us.toArray) (.agg vs.toArray)).run P w = .ok r w := h1
  rw [h1']; rfl
theorem Ev.neA {t ty' : TypeId} {x y : Operand} {κ : List Nat} {us vs : List Value} {r : Bool} (hc : cmpB P t κ = true) (hx : evO K x = some (.agg us.toArray)) (hy : evO K y = some (.agg vs.toArray)) (h : EqL κ us vs r) : Ev P K (.binOp .neq t x y ty') ty w (.bool (!r)) w := by
  obtain ⟨h1, h2⟩ := run_eqAgg hc h w
  refine Ev.bin hx hy (fun w => run_eqGuard_agg w _ _ _ _ _ _ h2) ?_
  rw [run_neq_struct]
  have h1' : (Op.equalIn 10000 t (.agg us.toArray) (.agg vs.toArray)).run P w = .ok r w := h1
  rw [h1']; rfl
/-- A slice that is read is appended to a row, whatever it holds. -/
theorem WL.appendRd {ops : Array Oper} {Q : Post} {ds : List Deferred} {n : Nat} {rest : List Oper} {S : Nat → Prop} {σ : Held} {α : Type} {k : Kd α} {G : Nat → Prop} {ys : List α} {i d : Nat} {t e by_ nn cc c2 : Nat} {s x : Operand} {pos : String} {es : Array Edge} {A A2 : Option Addr} {z : Value} {xs : List Value}
    (ht : P.underlying t = some (.slice e)) (hsz : szOk P e k.sz) (hby : byOk P e by_) (hz : zOk P e z) (hzk : z.cells.size = k.sz)
    (hs : evO K s = some (.slice A nn cc)) (hx : evO K x = some (.slice A2 ys.length c2)) (R : Rd k G w A2 c2 ys) (H : St w0 S w σ) (hσ : σ[i]? = some (.row e k.sz A nn cc xs)) (hb0 : 0 < by_) (hb : (nn + ys.length) * by_ ≤ 140737488355328) (hd : Nat.blt d n = true)
    (kk : ∀ A' c' w', St w0 S w' (σ.set i (.row e k.sz A' (nn + ys.length) c' (xs ++ ys.flatMap k.enc))) → Gr (fun b => b ∈ (Chunk.row e k.sz A nn cc xs).blocks) w w' → WL ρ P ops Q ds n rest ((d, .slice A' (nn + ys.length) c') :: K) w') :
    WL ρ P ops Q ds n (⟨some d, .call ⟨.builtin .append, #[s, x], #[t, t]⟩, ty, pos, es, none⟩ :: rest) K w := by
  cases ys with
  | nil =>
    have hrow := (H.cont _ (List.mem_of_getElem? hσ)).1
    have hcc : nn ≤ cc := by
      rcases hrow.2 with ⟨h2, h3⟩ | ⟨g, cap, cur, h2, _, _, h5, _⟩
      · omega
      · injection h2 with _ _ h2; omega
    have e0 : σ.set i (.row e k.sz A (nn + ([] : List α).length) cc (xs ++ ([] : List α).flatMap k.enc)) = σ := by
      simp only [List.length_nil, Nat.add_zero, List.flatMap_nil, List.append_nil]
      apply List.ext_getElem?
      intro j
      rw [List.getElem?_set]
      split
      · rename_i h; subst h; split
        · exact hσ.symm
        · rename_i h; rw [List.getElem?_eq_none (by omega)]
      · rfl
    exact WL.v (Ev.append0 ht hsz hs hx hcc) hd (kk A cc w (by rw [e0]; exact H) (Gr.refl _ _))
  | cons y ys =>
    obtain ⟨b, o, rfl, _, hc⟩ := R.2 (by simp)
    refine WL.append (i := i) (news := (y :: ys).flatMap k.enc) ht hsz hby hz hzk k.pos hs hx H hσ (flat_len k _) (fun j u hj => ?_) (flat_one k _) hb0 hb hd fun A' c' w' H' L _ _ => kk A' c' w' H' L
    obtain ⟨j', x', i', h1, h2, rfl⟩ := flat_inv _ j u hj
    rw [add_none, ← Nat.add_assoc]
    exact hc j' x' h1 i' u h2
end
end Go.BK
