/- A small set of rules for walking a function's operations with what is known of its frame as a list: this file names no program. -/
import Derived.WalkKit
import Derived.Deep.Quiet
import Derived.StillTail
import Derived.TacticsIn
import Derived.LoopNIn
import Derived.OrdersIn
import Derived.RangeFuncCalls
import Derived.Lib.ConvBytes
import Derived.KernelRfl
set_option linter.unusedVariables false
set_option linter.unusedSimpArgs false
namespace Go.BK
open Go.RowKit

/-! ### What is known of a frame -/
abbrev Kn := List (Nat × Value)
def look : Kn → Nat → Option Value
  | [], _ => none
  | (j, v) :: r, i => bif Nat.beq j i then some v else look r i
def Agree (n : Nat) (K : Kn) (l : Array Value) : Prop := l.size = n ∧ ∀ i v, look K i = some v → l[i]? = some v
def evO (K : Kn) : Operand → Option Value
  | .tmp t => look K t
  | .const v => some v
  | .global g => some (.pointer (some ⟨g, 0, none⟩))
  | .func f => some (.func (.func f) #[] #[])
theorem ev_of {n : Nat} {K : Kn} {l : Array Value} {ds : List Deferred} {x : Operand} {v : Value} (h : Agree n K l) (hx : evO K x = some v) : Act.eval ⟨l, ds⟩ x = v := by
  cases x <;> simp only [evO, Option.some.injEq] at hx
  case tmp t => have := h.2 _ _ hx; simp [Act.eval, Array.getD_eq_getD_getElem?, this]
  all_goals simpa [Act.eval] using hx
theorem Agree.put {n : Nat} {K : Kn} {l : Array Value} (h : Agree n K l) {d : Nat} (hd : Nat.blt d n = true) (v : Value) : Agree n ((d, v) :: K) (l.setIfInBounds d v) := by
  have hd' : d < n := by simpa [Nat.blt_eq] using hd
  refine ⟨by simp [h.1], fun i u hu => ?_⟩
  simp only [look] at hu
  by_cases e : d = i
  · subst e
    have : u = v := by simpa [eq_comm] using hu
    subst this
    simp [Array.getElem?_setIfInBounds, h.1, hd']
  · have hb : Nat.beq d i = false := by
      cases hh : Nat.beq d i with
      | false => rfl
      | true => exact absurd (Nat.eq_of_beq_eq_true hh) e
    rw [hb] at hu
    rw [Array.getElem?_setIfInBounds, if_neg e]
    exact h.2 _ _ hu
/-- Part of what is known. -/
def Sub : Kn → Kn → Prop
  | [], _ => True
  | (i, v) :: r, K => look K i = some v ∧ Sub r K
theorem Agree.sub {n : Nat} {l : Array Value} {K : Kn} (h : Agree n K l) : ∀ {K' : Kn}, Sub K' K → Agree n K' l
  | [], _ => ⟨h.1, fun _ _ hh => by simp [look] at hh⟩
  | (i, v) :: r, hs => by
    have ih := Agree.sub h hs.2
    refine ⟨h.1, fun j u hu => ?_⟩
    simp only [look] at hu
    cases hb : Nat.beq i j with
    | true =>
      rw [hb] at hu
      have := Nat.eq_of_beq_eq_true hb
      subst this
      have : u = v := by simpa [eq_comm] using hu
      subst this
      exact h.2 _ _ hs.1
    | false => rw [hb] at hu; exact ih.2 _ _ hu

/-! ### The judgements -/
/-- The frames spoken of: those of no round, or of a round of a loop. -/
def FF (ρ : Option Nat) : Fence := { fn := fun _ => True, depth := none, alive := false, round := ρ }
theorem room_FF (ρ : Option Nat) (n : Nat) : (FF ρ).room n := fun _ h => by simp [FF] at h
theorem callsIn_FF {ρ : Option Nat} {n : Nat} {P : Program} {f : FuncId} {args : Array Value} {w : World} {R : Ending → World → Prop} : CallsIn (FF ρ) n P f args w R ↔ Calls P f args w R :=
  (Iff.rfl : CallsIn (FF ρ) n P f args w R ↔ CallsIn Fence.wide n P f args w R).trans callsIn_wide
section
variable (ρ : Option Nat) (P : Program)
abbrev Post := Exit → Act → World → Prop
/-- The rest of a region. -/
def WL (ops : Array Oper) (Q : Post) (ds : List Deferred) (n : Nat) (rest : List Oper) (K : Kn) (w : World) : Prop :=
  ∀ l, Agree n K l → wpListIn (FF ρ) 0 P ops Q rest ⟨l, ds⟩ w
/-- Code. -/
def WC (c : Code) (Q : Post) (ds : List Deferred) (n : Nat) (K : Kn) (w : World) : Prop :=
  ∀ l, Agree n K l → c.wpIn (FF ρ) 0 P Q ⟨l, ds⟩ w
end
/-- A way out. -/
def WQ (Q : Post) (e : Exit) (ds : List Deferred) (n : Nat) (K : Kn) (w : World) : Prop :=
  ∀ l, Agree n K l → Q e ⟨l, ds⟩ w
def thn (ρ : Option Nat) (P : Program) (d : Code) (Q : Post) : Post := Exit.then (d.wpIn (FF ρ) 0 P Q) Q

section
variable {ρ : Option Nat} {P : Program} {ops : Array Oper} {Q : Post} {ds : List Deferred} {n : Nat} {rest : List Oper} {K : Kn} {w : World}

theorem WC.sub {c : Code} {K' : Kn} (hs : Sub K' K) (h : WC ρ P c Q ds n K' w) : WC ρ P c Q ds n K w := fun l hl => h l (hl.sub hs)
theorem WL.sub {K' : Kn} (hs : Sub K' K) (h : WL ρ P ops Q ds n rest K' w) : WL ρ P ops Q ds n rest K w := fun l hl => h l (hl.sub hs)
theorem WQ.sub {e : Exit} {K' : Kn} (hs : Sub K' K) (h : WQ Q e ds n K' w) : WQ Q e ds n K w := fun l hl => h l (hl.sub hs)

/-! ### Code -/
theorem WC.seq {c d : Code} (h : WC ρ P c (thn ρ P d Q) ds n K w) : WC ρ P (.seq c d) Q ds n K w := fun l hl => wpIn_seq (h l hl)
theorem WC.skip (h : WQ Q .normal ds n K w) : WC ρ P .skip Q ds n K w := fun l hl => wpIn_skip (h l hl)
theorem WC.ret (h : WQ Q .ret ds n K w) : WC ρ P .ret Q ds n K w := fun l hl => wpIn_ret (h l hl)
theorem WC.exit {i : Nat} (h : WQ Q (.exit i) ds n K w) : WC ρ P (.exit i) Q ds n K w := fun l hl => wpIn_exit (h l hl)
theorem WC.block {i : Nat} {c : Code} (h : WC ρ P c (Exit.inBlock i Q) ds n K w) : WC ρ P (.block i c) Q ds n K w := fun l hl => wpIn_block (h l hl)
theorem WC.cond {x : Operand} {c d : Code} {b : Bool} (hx : evO K x = some (.bool b)) (ht : b = true → WC ρ P c Q ds n K w) (hf : b = false → WC ρ P d Q ds n K w) : WC ρ P (.cond x c d) Q ds n K w :=
  fun l hl => wpIn_cond_split (ev_of hl hx) (fun h => ht h l hl) (fun h => hf h l hl)
theorem WC.reg {i : Nat} {l : List Oper} (h : WL ρ P l.toArray Q ds n l K w) : WC ρ P (.region i l.toArray false) Q ds n K w := fun f hf => wpIn_region_lit (h f hf)
/-- What a round of a loop comes to. -/
def LP {γ : Type} (Kf : γ → Kn) (I : γ → World → Prop) (m : γ → Nat) (g : γ) (ds : List Deferred) (n : Nat) (Q : Post) : Post :=
  Exit.then (fun a' w' => ∃ g', I g' w' ∧ (a'.defers = ds ∧ Agree n (Kf g') a'.tmps) ∧ m g' < m g) Q
/-- A loop. 'g': what the rounds are told apart by. -/
theorem WC.loop {c : Code} {γ : Type} (Kf : γ → Kn) (I : γ → World → Prop) (m : γ → Nat) (g0 : γ) (h0 : I g0 w) (hs : Sub (Kf g0) K)
    (round : ∀ g w, I g w → WC ρ P c (LP Kf I m g ds n Q) ds n (Kf g) w) : WC ρ P (.loop c) Q ds n K w := by
  intro l hl
  have key : ∀ (k : Nat) (g : γ) (w : World) (l : Array Value), m g ≤ k → I g w → Agree n (Kf g) l → Code.roundsIn (FF ρ) 0 P c Q (k + 1) ⟨l, ds⟩ w := by
    intro k
    induction k with
    | zero =>
      intro g w l hm hI hA
      rw [roundsIn_succ]
      refine wpIn_mono (round g w hI l hA) fun e a w1 hq => ?_
      cases e with
      | normal =>
        obtain ⟨g', _, _, hlt⟩ := hq
        omega
      | exit _ => exact hq
      | goto _ => exact hq
      | ret => exact hq
      | panic _ => exact hq
      | outgrown => exact hq
    | succ k ih =>
      intro g w l hm hI hA
      rw [roundsIn_succ]
      refine wpIn_mono (round g w hI l hA) fun e a w1 hq => ?_
      cases e with
      | normal =>
        obtain ⟨g', hI', ⟨hd, hA'⟩, hlt⟩ := hq
        obtain ⟨tm, dd⟩ := a
        simp only at hd hA'
        subst hd
        exact ih g' w1 tm (by omega) hI' hA'
      | exit _ => exact hq
      | goto _ => exact hq
      | ret => exact hq
      | panic _ => exact hq
      | outgrown => exact hq
  exact wpIn_loop_rounds _ (key _ g0 w l (Nat.le_refl _) h0 (hl.sub hs))

/-! ### Ways out -/
theorem WQ.tn {d : Code} (h : WC ρ P d Q ds n K w) : WQ (thn ρ P d Q) .normal ds n K w := fun l hl => h l hl
theorem WQ.tn_ret {d : Code} (h : WQ Q .ret ds n K w) : WQ (thn ρ P d Q) .ret ds n K w := fun l hl => h l hl
theorem WQ.tn_exit {d : Code} {i : Nat} (h : WQ Q (.exit i) ds n K w) : WQ (thn ρ P d Q) (.exit i) ds n K w := fun l hl => h l hl
theorem WQ.blk {i : Nat} (h : WQ Q .normal ds n K w) : WQ (Exit.inBlock i Q) .normal ds n K w := fun l hl => h l hl
theorem WQ.blk_ret {i : Nat} (h : WQ Q .ret ds n K w) : WQ (Exit.inBlock i Q) .ret ds n K w := fun l hl => h l hl
theorem WQ.blk_here {i j : Nat} (e : Nat.beq j i = true) (h : WQ Q .normal ds n K w) : WQ (Exit.inBlock i Q) (.exit j) ds n K w := fun l hl => by
  have := Nat.eq_of_beq_eq_true e
  subst this
  simpa [Exit.inBlock] using h l hl
theorem WQ.blk_on {i j : Nat} (e : Nat.beq j i = false) (h : WQ Q (.exit j) ds n K w) : WQ (Exit.inBlock i Q) (.exit j) ds n K w := fun l hl => by
  have : j ≠ i := fun hh => by subst hh; simp at e
  simpa [Exit.inBlock, this] using h l hl
theorem WQ.again {γ : Type} {Kf : γ → Kn} {I : γ → World → Prop} {m : γ → Nat} {g : γ} (g' : γ) (hI : I g' w) (hs : Sub (Kf g') K) (hm : m g' < m g) : WQ (LP Kf I m g ds n Q) .normal ds n K w := fun l hl => ⟨g', hI, ⟨rfl, hl.sub hs⟩, hm⟩
theorem WQ.loop_exit {γ : Type} {Kf : γ → Kn} {I : γ → World → Prop} {m : γ → Nat} {g : γ} {i : Nat} (h : WQ Q (.exit i) ds n K w) : WQ (LP Kf I m g ds n Q) (.exit i) ds n K w := fun l hl => h l hl
theorem WQ.loop_ret {γ : Type} {Kf : γ → Kn} {I : γ → World → Prop} {m : γ → Nat} {g : γ} (h : WQ Q .ret ds n K w) : WQ (LP Kf I m g ds n Q) .ret ds n K w := fun l hl => h l hl

/-! ### A function -/
theorem agree_args {fn : Func} {args : Array Value} {m : Nat} (hm : fn.ntmps = m) (ha : Nat.ble args.size m = true) {K0 : Kn} (hK : Sub K0 (args.toList.zipIdx.map fun p => (p.2, p.1))) : Agree m K0 (args ++ Array.replicate (fn.ntmps - args.size) undef) := by
  refine Agree.sub (K := args.toList.zipIdx.map fun p => (p.2, p.1)) ⟨?_, ?_⟩ hK
  · have := Nat.le_of_ble_eq_true ha
    subst hm
    simp; omega
  · have key : ∀ (vs : List Value) (s : Nat) (i : Nat) (v : Value), look ((vs.zipIdx s).map fun p => (p.2, p.1)) i = some v → s ≤ i ∧ vs[i - s]? = some v := by
      intro vs
      induction vs with
      | nil => intro s i v h; simp [look] at h
      | cons x vs ih =>
        intro s i v h
        simp only [List.zipIdx_cons, List.map_cons, look] at h
        cases hb : Nat.beq s i with
        | true =>
          rw [hb] at h
          have := Nat.eq_of_beq_eq_true hb
          subst this
          exact ⟨Nat.le_refl _, by simpa using h⟩
        | false =>
          rw [hb] at h
          obtain ⟨h1, h2⟩ := ih (s + 1) i v h
          refine ⟨by omega, ?_⟩
          have : i - s = (i - (s + 1)) + 1 := by omega
          rw [this]; simpa using h2
    intro i v hv
    have hv' := (key args.toList 0 i v hv).2
    simp only [Nat.sub_zero, Array.getElem?_toList] at hv'
    have hlt : i < args.size := by
      rcases Nat.lt_or_ge i args.size with h' | h'
      · exact h'
      · rw [Array.getElem?_eq_none h'] at hv'; cases hv'
    simp only [Array.getElem?_append, hlt, if_true]
    exact hv'
theorem calls_of {f : FuncId} {fn : Func} {c : Code} {args : Array Value} {R : Ending → World → Prop} (hf : P.funcs[f]? = some fn) (hb : fn.body = some c) {m : Nat} (hm : fn.ntmps = m) (ha : Nat.ble args.size m = true)
    {K0 : Kn} (hK : Sub K0 (args.toList.zipIdx.map fun p => (p.2, p.1))) (h : WC none P c (bodyPost P fn R) [] m K0 w) : Calls P f args w R :=
  calls_of_wp hf hb ((wpIn_wide (n := 0)).1 (h _ (agree_args hm ha hK)))
theorem WQ.ret1 {fn : Func} {R : Ending → World → Prop} {t : Nat} {v : Value} (hr : fn.results = #[.tmp t]) (hv : look K t = some v) (h : R (.returned v) w) : WQ (bodyPost P fn R) .ret [] n K w := fun l hl => by
  refine bodyPost_ret (results_tmp hr _ _ _) rfl ?_
  have := hl.2 _ _ hv
  simpa [Array.getD_eq_getD_getElem?, this] using h
theorem WQ.ret2 {fn : Func} {R : Ending → World → Prop} {t u : Nat} {v v' : Value} (hr : fn.results = #[.tmp t, .tmp u]) (hv : look K t = some v) (hv' : look K u = some v') (h : R (.returned (.tuple #[v, v'])) w) : WQ (bodyPost P fn R) .ret [] n K w := fun l hl => by
  refine bodyPost_ret (results_tmp2 hr _ _ _) rfl ?_
  have h1 := hl.2 _ _ hv
  have h2 := hl.2 _ _ hv'
  simpa [Array.getD_eq_getD_getElem?, h1, h2] using h
theorem WQ.ret3 {fn : Func} {R : Ending → World → Prop} {t u s : Nat} {v v' v'' : Value} (hr : fn.results = #[.tmp t, .tmp u, .tmp s]) (hv : look K t = some v) (hv' : look K u = some v') (hv'' : look K s = some v'') (h : R (.returned (.tuple #[v, v', v''])) w) : WQ (bodyPost P fn R) .ret [] n K w := fun l hl => by
  refine bodyPost_ret (results_tmp3 hr _ _ _) rfl ?_
  have h1 := hl.2 _ _ hv
  have h2 := hl.2 _ _ hv'
  have h3 := hl.2 _ _ hv''
  simpa [Array.getD_eq_getD_getElem?, h1, h2, h3] using h
theorem WQ.end0 {fn : Func} {R : Ending → World → Prop} (hr : fn.results = #[]) (h : R (.returned (.tuple #[])) w) : WQ (bodyPost P fn R) .normal [] n K w := fun l hl => bodyPost_end (results_none hr _ _ _) rfl h
theorem WQ.ret0 {fn : Func} {R : Ending → World → Prop} (hr : fn.results = #[]) (h : R (.returned (.tuple #[])) w) : WQ (bodyPost P fn R) .ret [] n K w := fun l hl => bodyPost_ret (results_none hr _ _ _) rfl h

/-! ### Operations: the general rules -/
def notDefer : Next → Bool
  | .defer _ => false
  | _ => true
theorem semAt_run {r : Option Nat} {ev : Operand → Value} {o : Oper} {x : Next} {w' : World} (hx : notDefer x = true) (h : (execOp ev o).run P w = .ok x w') : (Oper.semAt r ev o).run P w = .ok x w' := by
  by_cases hd : ∃ c, o.op = .defer c
  · exfalso
    obtain ⟨c, hc⟩ := hd
    simp only [execOp, hc, Sem.run_bind] at h
    cases hr : (resolve ev c o.type).run P w with
    | ok d w2 =>
      rw [hr] at h
      simp [Result.andThen] at h
      rw [← h.1] at hx
      cases hx
    | halt a b => rw [hr] at h; simp [Result.andThen] at h
  · rw [Oper.semAt_eq r ev o (fun c hc => hd ⟨c, hc⟩)]; exact h
theorem WL.nil (h : WQ Q .normal ds n K w) : WL ρ P ops Q ds n [] K w := fun l hl => h l hl
/-- An operation that yields a value. -/
theorem WL.value {d : Nat} {op : Op} {t : TypeId} {pos : String} {es : Array Edge} (v : Value) {w' : World}
    (hrun : ∀ l, Agree n K l → (execOp (Act.eval ⟨l, ds⟩) ⟨some d, op, t, pos, es, none⟩).run P w = .ok (.value v) w') (hd : Nat.blt d n = true) (k : WL ρ P ops Q ds n rest ((d, v) :: K) w') :
    WL ρ P ops Q ds n (⟨some d, op, t, pos, es, none⟩ :: rest) K w := fun l hl =>
  wpListIn_plain rfl fun K' hK => ⟨fun _ _ => trivial, by
    rw [semAt_run rfl (hrun l hl)]
    exact hK _ _ (k _ (hl.put hd v))⟩
theorem WL.skip {op : Op} {t : TypeId} {pos : String} {es : Array Edge} {w' : World}
    (hrun : ∀ l, Agree n K l → (execOp (Act.eval ⟨l, ds⟩) ⟨none, op, t, pos, es, none⟩).run P w = .ok .skip w') (k : WL ρ P ops Q ds n rest K w') :
    WL ρ P ops Q ds n (⟨none, op, t, pos, es, none⟩ :: rest) K w := fun l hl =>
  wpListIn_plain rfl fun K' hK => ⟨fun _ _ => trivial, by
    rw [semAt_run rfl (hrun l hl)]
    exact hK _ _ (k _ hl)⟩
/-- A call. -/
theorem WL.enter {d : Nat} {op : Op} {t : TypeId} {pos : String} {es : Array Edge} {f : FuncId} {args : Array Value}
    (hrun : ∀ l, Agree n K l → (execOp (Act.eval ⟨l, ds⟩) ⟨some d, op, t, pos, es, none⟩).run P w = .ok (.enter f args) w) (hd : Nat.blt d n = true)
    (hc : Calls P f args w fun e w' => ∃ v, e = .returned v ∧ WL ρ P ops Q ds n rest ((d, v) :: K) w') :
    WL ρ P ops Q ds n (⟨some d, op, t, pos, es, none⟩ :: rest) K w := fun l hl =>
  wpListIn_plain rfl fun K' hK => ⟨fun _ _ => trivial, by
    rw [semAt_run rfl (hrun l hl)]
    refine ⟨fun h => by simp [FF] at h, callsIn_FF.2 (hc.mono ?_)⟩
    rintro e w' ⟨v, rfl, hk⟩
    exact hK _ _ (hk _ (hl.put hd v))⟩

/-! ### Values that lie under a guard -/
/-- The value of an operation that is carried out just where p holds. -/
def gv (p : Bool) (v : Value) : Value := bif p then v else undef
/-- What a guard reads off a slot. -/
def yv : Value → Option Bool
  | .bool b => some b
  | _ => none
def guardSlot (ops : Array Oper) (j : Nat) : Option Nat := (ops[j]?).bind (·.dst)
/-- The guard (j, b) is met just where g holds. -/
def Met (ops : Array Oper) (K : Kn) (j : Nat) (b : Bool) (g : Bool) : Prop := ∃ s v, guardSlot ops j = some s ∧ look K s = some v ∧ (yv v == some b) = g
theorem Met.yes {j s : Nat} {p : Bool} (hs : guardSlot ops j = some s) (hv : look K s = some (.bool p)) : Met ops K j true p := ⟨s, _, hs, hv, by cases p <;> rfl⟩
theorem Met.no {j s : Nat} {p : Bool} (hs : guardSlot ops j = some s) (hv : look K s = some (.bool p)) : Met ops K j false (!p) := ⟨s, _, hs, hv, by cases p <;> rfl⟩
theorem Met.gyes {j s : Nat} {p q : Bool} (hs : guardSlot ops j = some s) (hv : look K s = some (gv p (.bool q))) : Met ops K j true (p && q) := ⟨s, _, hs, hv, by cases p <;> cases q <;> rfl⟩
theorem Met.gno {j s : Nat} {p q : Bool} (hs : guardSlot ops j = some s) (hv : look K s = some (gv p (.bool q))) : Met ops K j false (p && !q) := ⟨s, _, hs, hv, by cases p <;> cases q <;> rfl⟩
theorem Met.wanted {j : Nat} {b g : Bool} {l : Array Value} {o : Oper} (h : Met ops K j b g) (hl : Agree n K l) (ho : o.guard = some (j, b)) : Region.wanted o (yielded ops l) = g := by
  obtain ⟨s, v, hs, hv, hg⟩ := h
  have h1 := hl.2 _ _ hv
  unfold Region.wanted yielded
  rw [ho]
  unfold guardSlot at hs
  simp only [hs, Option.bind_some, h1]
  rw [← hg]
  cases v <;> rfl
/-- A guarded operation that yields a value and leaves the world alone. -/
theorem WL.gvalue {d j : Nat} {b g : Bool} {op : Op} {t : TypeId} {pos : String} {es : Array Edge} (v : Value) (hm : Met ops K j b g)
    (hrun : g = true → ∀ l, Agree n K l → (execOp (Act.eval ⟨l, ds⟩) ⟨some d, op, t, pos, es, some (j, b)⟩).run P w = .ok (.value v) w) (hd : Nat.blt d n = true) (k : WL ρ P ops Q ds n rest ((d, gv g v) :: K) w) :
    WL ρ P ops Q ds n (⟨some d, op, t, pos, es, some (j, b)⟩ :: rest) K w := fun l hl => by
  unfold wpListIn
  rw [hm.wanted hl rfl]
  cases g with
  | true =>
    rw [if_pos rfl]
    refine ⟨fun _ _ => trivial, ?_⟩
    rw [semAt_run rfl (hrun rfl l hl)]
    exact k _ (hl.put hd v)
  | false =>
    rw [if_neg (by simp)]
    exact ⟨fun _ _ => trivial, k _ (hl.put hd undef)⟩
/-- A guarded call: the world behind it, too, hangs on the guard. -/
theorem WL.genter {d j : Nat} {b g : Bool} {op : Op} {t : TypeId} {pos : String} {es : Array Edge} {f : FuncId} {args : Array Value} (v : Value) (R : World → Prop) (hm : Met ops K j b g)
    (hrun : g = true → ∀ l, Agree n K l → (execOp (Act.eval ⟨l, ds⟩) ⟨some d, op, t, pos, es, some (j, b)⟩).run P w = .ok (.enter f args) w) (hd : Nat.blt d n = true) (h0 : R w)
    (hc : g = true → Calls P f args w fun e w' => e = .returned v ∧ R w') (k : ∀ w', R w' → WL ρ P ops Q ds n rest ((d, gv g v) :: K) w') :
    WL ρ P ops Q ds n (⟨some d, op, t, pos, es, some (j, b)⟩ :: rest) K w := fun l hl => by
  unfold wpListIn
  rw [hm.wanted hl rfl]
  cases g with
  | true =>
    rw [if_pos rfl]
    refine ⟨fun _ _ => trivial, ?_⟩
    rw [semAt_run rfl (hrun rfl l hl)]
    refine ⟨fun h => by simp [FF] at h, callsIn_FF.2 ((hc rfl).mono ?_)⟩
    rintro e w' ⟨rfl, hR⟩
    exact k w' hR _ (hl.put hd v)
  | false =>
    rw [if_neg (by simp)]
    exact ⟨fun _ _ => trivial, k w h0 _ (hl.put hd undef)⟩
/-- An operand's value where g holds. -/
def evG (K : Kn) (g : Bool) (x : Operand) (v : Value) : Prop := ∃ u, evO K x = some u ∧ (g = true → u = v)
theorem evG.of {g : Bool} {x : Operand} {v : Value} (h : evO K x = some v) : evG K g x v := ⟨v, h, fun _ => rfl⟩
theorem evG.un {g : Bool} {x : Operand} {v : Value} (h : evO K x = some (gv g v)) : evG K g x v := ⟨_, h, fun e => by subst e; rfl⟩
theorem evG.ev {g : Bool} {x : Operand} {v : Value} (h : evG K g x v) (hg : g = true) : evO K x = some v := by
  obtain ⟨u, h1, h2⟩ := h
  rw [h1, h2 hg]
end
end Go.BK
