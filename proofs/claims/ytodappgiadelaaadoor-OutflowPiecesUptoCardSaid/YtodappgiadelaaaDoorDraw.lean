/- A region whose order is drawn, walked in one order: what yields the same in every world of a class may come anywhere; what turns the world comes alone. This file names no program. -/
import Derived.Test.YtodappgiadelaaaDoorMem
set_option linter.unusedVariables false
set_option linter.unusedSimpArgs false
namespace Go.BK
open Go.RowKit
section
variable {ρ : Option Nat} {P : Program} {ops : Array Oper} {md : Region.Mode} {C : World → Prop} {Q : Post} {s : Nat}
/-- The ways on that a walk takes: no panic, nothing outgrown. -/
def upV (ρ : Option Nat) (P : Program) (o : Oper) (a : Act) (K : Act → World → Prop) : Result Next → Prop
  | .ok (.value v) w' => K (a.put o.dst v) w'
  | .ok .skip w' => K (a.put o.dst undef) w'
  | .ok (.enter f args) w' => Calls P f args w' fun e w'' => ∃ v, e = .returned v ∧ K (a.put o.dst v) w''
  | .ok (.defer d) w' => K ({ a with defers := d :: a.defers }.put o.dst undef) w'
  | .ok (.row row args) w' => RowsIn (FF ρ) 0 P row args w' fun v w'' => K (a.put o.dst v) w''
  | .ok (.round l f tmps assign body) w' => RoundIn (FF ρ) 0 P l f tmps assign body w' fun e w'' => ∃ v, e = .returned v ∧ K (a.put o.dst v) w''
  | _ => False
def opV (ρ : Option Nat) (P : Program) (ops : Array Oper) (i : Nat) (K : Act → World → Prop) (a : Act) (w : World) : Prop :=
  match ops[i]? with
  | none => K a w
  | some o => if Region.wanted o (yielded ops a.tmps) then upV ρ P o a K ((execOp a.eval o).run P w) else K (a.put o.dst undef) w
theorem upV_mono {o : Oper} {a : Act} {K K' : Act → World → Prop} {r : Result Next} (h : ∀ a w, K a w → K' a w) (hh : upV ρ P o a K r) : upV ρ P o a K' r := by
  cases r with
  | ok x w' =>
    cases x <;> simp only [upV] at hh ⊢
    case value v => exact h _ _ hh
    case skip => exact h _ _ hh
    case enter f args => exact hh.mono fun e w'' ⟨v, he, hk⟩ => ⟨v, he, h _ _ hk⟩
    case defer d => exact h _ _ hh
    case row row args => exact RowsIn.mono hh fun _ _ hk => h _ _ hk
    case round l f tmps assign body => exact RoundIn.mono hh fun e w'' ⟨v, he, hk⟩ => ⟨v, he, h _ _ hk⟩
  | halt x w' => exact hh.elim
theorem opV_mono {i : Nat} {a : Act} {w : World} {K K' : Act → World → Prop} (h : ∀ a w, K a w → K' a w) (hh : opV ρ P ops i K a w) : opV ρ P ops i K' a w := by
  unfold opV at *
  split
  · exact h _ _ (by simpa [*] using hh)
  · rename_i o ho
    simp only [ho] at hh
    split
    · rename_i hw; simp only [hw, if_true] at hh; exact upV_mono h hh
    · rename_i hw; simp only [hw] at hh; exact h _ _ hh
def ndOp : Op → Bool
  | .defer _ => false
  | _ => true
theorem semAt_nd {r : Option Nat} {ev : Operand → Value} {o : Oper} (h : ndOp o.op = true) : Oper.semAt r ev o = execOp ev o := Oper.semAt_eq r ev o fun c hc => by rw [hc] at h; cases h
theorem wpOp_of_opV (hnd : ∀ (i : Nat) o, ops[i]? = some o → ndOp o.op = true) {i : Nat} {a : Act} {w : World} {K : Act → World → Prop} (hh : opV ρ P ops i K a w) : wpOpIn (FF ρ) 0 P ops Q i K a w := by
  unfold opV at hh
  unfold wpOpIn
  split
  · rename_i ho; simpa [ho] using hh
  · rename_i o ho
    simp only [ho] at hh
    split
    · rename_i hw
      simp only [hw, if_true] at hh
      refine ⟨fun _ _ => trivial, ?_⟩
      rw [semAt_nd (hnd _ _ ho)]
      generalize (execOp a.eval o).run P w = r at *
      have hdp : (FF ρ).depth.isSome = true → 1 ≤ 0 := fun h => by simp [FF] at h
      cases r with
      | ok x w' =>
        cases x <;> simp only [upV] at hh <;> simp only [Oper.uponIn]
        case value v => exact hh
        case skip => exact hh
        case enter f args => exact ⟨hdp, callsIn_FF.2 (hh.mono fun e w'' ⟨v, he, hk⟩ => by subst he; exact hk)⟩
        case defer d => exact hh
        case row row args => exact ⟨hdp, hh⟩
        case round l f tmps assign body => exact ⟨hdp, hh.mono fun e w'' ⟨v, he, hk⟩ => by subst he; exact hk⟩
      | halt x w' => exact hh.elim
    · rename_i hw; simp only [hw] at hh; exact ⟨fun _ _ => trivial, hh⟩
/-- In every world of the class the operation yields v and leaves the world alone. -/
def Yv (P : Program) (ops : Array Oper) (C : World → Prop) (o : Oper) (v : Value) (a : Act) : Prop :=
  (Region.wanted o (yielded ops a.tmps) = true ∧ ∀ w, C w → (execOp a.eval o).run P w = .ok (.value v) w) ∨
  (Region.wanted o (yielded ops a.tmps) = false ∧ v = undef)
theorem Yv.of_same {o : Oper} {v : Value} {a a' : Act} (hy : Yv P ops C o v a) (he : execOp a'.eval o = execOp a.eval o)
    (hw : Region.wanted o (yielded ops a'.tmps) = Region.wanted o (yielded ops a.tmps)) : Yv P ops C o v a' := by
  unfold Yv at *
  rw [he, hw]
  exact hy
theorem Yv.opV {i : Nat} {o : Oper} {v : Value} {a : Act} {w : World} (hi : ops[i]? = some o) (hw : C w) (hy : Yv P ops C o v a) {K : Act → World → Prop} (h : K (a.put o.dst v) w) : opV ρ P ops i K a w := by
  unfold BK.opV
  simp only [hi]
  rcases hy with ⟨h1, h2⟩ | ⟨h1, rfl⟩
  · simp only [h1, if_true, h2 w hw, upV]; exact h
  · simp only [h1, Bool.false_eq_true, if_false]; exact h
theorem opV_put {j : Nat} {oi oj : Oper} {v : Value} (hj : ops[j]? = some oj) (hap : oi.apart ops oj = true) (hsi : ∀ cs b, oi.op ≠ .select cs b) (hsj : ∀ cs b, oj.op ≠ .select cs b) {K : Act → World → Prop} {a : Act} {w : World}
    (hy : Yv P ops C oi v a) (h : opV ρ P ops j K (a.put oi.dst v) w) : opV ρ P ops j (fun a' w' => Yv P ops C oi v a' ∧ K (a'.put oi.dst v) w') a w := by
  obtain ⟨h1, h2, h3⟩ := Oper.apart_spec hap
  have keep : ∀ (a : Act), Yv P ops C oi v a → ∀ u, Yv P ops C oi v (a.put oj.dst u) := fun a hy u =>
    hy.of_same (execOp_put oi hsi a oj.dst u h3) (wanted_put oi a oj.dst u h3)
  unfold opV at *
  simp only [hj] at *
  rw [wanted_put oj a oi.dst v h1] at h
  split
  · rename_i hw
    simp only [hw, if_true] at h
    rw [execOp_put oj hsj a oi.dst v h1] at h
    generalize (execOp a.eval oj).run P w = r at *
    cases r with
    | ok x w' =>
      cases x <;> simp only [upV] at h ⊢
      case value u => exact ⟨keep a hy u, by rw [← Act.put_comm a v u h2]; exact h⟩
      case skip => exact ⟨keep a hy _, by rw [← Act.put_comm a v undef h2]; exact h⟩
      case enter f args => exact h.mono fun e w'' ⟨u, he, hk⟩ => ⟨u, he, keep a hy u, by rw [← Act.put_comm a v u h2]; exact hk⟩
      case defer d =>
        have hy' : Yv P ops C oi v { a with defers := d :: a.defers } := hy.of_same rfl rfl
        refine ⟨keep _ hy' _, ?_⟩
        rw [← Act.put_comm _ v undef h2, ← Act.put_defers]
        exact h
      case row row args => exact RowsIn.mono h fun u _ hk => ⟨keep a hy u, by rw [← Act.put_comm a v u h2]; exact hk⟩
      case round l f tmps assign body => exact RoundIn.mono h fun e w'' ⟨u, he, hk⟩ => ⟨u, he, keep a hy u, by rw [← Act.put_comm a v u h2]; exact hk⟩
    | halt x w' => exact h.elim
  · rename_i hw
    simp only [hw] at h
    exact ⟨keep a hy _, by rw [← Act.put_comm a v undef h2]; exact h⟩
/-- Whatever order; s: what comes behind all others. -/
def wpAnyV (ρ : Option Nat) (P : Program) (md : Region.Mode) (ops : Array Oper) (C : World → Prop) (s : Nat) (Q : Post) : Nat → Array Bool → Act → World → Prop
  | 0, listed, a, w => Region.ready md ops listed = [] ∧ Q .normal a w
  | f + 1, listed, a, w => (Region.ready md ops listed = [] → Q .normal a w) ∧
    ∀ i ∈ Region.ready md ops listed, opV ρ P ops i (fun a' w' => (i ≠ s → C w') ∧ wpAnyV ρ P md ops C s Q f (listed.setIfInBounds i true) a' w') a w
theorem wpAny_of_wpAnyV (hnd : ∀ (i : Nat) o, ops[i]? = some o → ndOp o.op = true) : ∀ (f : Nat) (listed : Array Bool) (a : Act) (w : World), wpAnyV ρ P md ops C s Q f listed a w → wpAnyIn (FF ρ) 0 P md ops Q f listed a w
  | 0, _, _, _, h => h
  | f + 1, _, _, _, h => ⟨h.1, fun i hi => wpOp_of_opV hnd (opV_mono (fun a' w' hh => wpAny_of_wpAnyV hnd f _ a' w' hh.2) (h.2 i hi))⟩
/-- What is listed has all ahead of it listed. -/
def Down (md : Region.Mode) (ops : Array Oper) (listed : Array Bool) : Prop := ∀ j oj, ops[j]? = some oj → listed.getD j true = true → j < listed.size → ∀ e ∈ oj.after, Region.binds md e = true → listed.getD e.on false = true
def reach (md : Region.Mode) (ops : Array Oper) : Nat → Nat → Nat → Bool
  | 0, _, _ => false
  | f + 1, j, i => match ops[j]? with
    | none => false
    | some o => o.after.any fun e => Region.binds md e && (e.on == i || reach md ops f e.on i)
theorem reach_listed {listed : Array Bool} (hd : Down md ops listed) (hsz : listed.size = ops.size) {i : Nat} : ∀ (f j : Nat), reach md ops f j i = true → (∀ o, ops[j]? = some o → ∀ e ∈ o.after, Region.binds md e = true → listed.getD e.on false = true) → listed.getD i false = true
  | 0, _, h, _ => by simp [reach] at h
  | f + 1, j, h, hj => by
    unfold reach at h
    cases ho : ops[j]? with
    | none => rw [ho] at h; cases h
    | some o =>
      rw [ho] at h
      obtain ⟨e, he, hb⟩ := Array.any_eq_true'.1 h
      simp only [Bool.and_eq_true, Bool.or_eq_true, beq_iff_eq] at hb
      have h1 := hj o ho e he hb.1
      rcases hb.2 with h2 | h2
      · rw [← h2]; exact h1
      · refine reach_listed hd hsz f e.on h2 fun o' ho' e' he' hb' => ?_
        have hlt : e.on < listed.size := by
          rcases Nat.lt_or_ge e.on listed.size with h' | h'
          · exact h'
          · simp [h'] at h1
        exact hd e.on o' ho' (by simp [hlt] at h1 ⊢; exact h1) hlt e' he' hb'
def sinkOk (md : Region.Mode) (ops : Array Oper) (s : Nat) : Bool := Nat.ble ops.size s || (List.range ops.size).all fun i => i == s || reach md ops ops.size s i
theorem Down.set {listed : Array Bool} (hd : Down md ops listed) (hsz : listed.size = ops.size) {i : Nat} (hi : i ∈ Region.ready md ops listed) : Down md ops (listed.setIfInBounds i true) := by
  obtain ⟨hun, oi, hoi, hall⟩ := mem_ready.1 hi
  intro j oj hoj hl hj e he hb
  have grow : ∀ k, listed.getD k false = true → (listed.setIfInBounds i true).getD k false = true := by
    intro k hk
    by_cases hik : i = k
    · subst hik
      have hlt : i < listed.size := by rw [hsz]; exact (Array.getElem?_eq_some_iff.1 hoi).1
      simp [hlt]
    · rw [getD_set_ne false hik]; exact hk
  by_cases hij : i = j
  · subst hij
    have : oj = oi := Option.some.inj (hoj.symm.trans hoi)
    subst this
    exact grow _ (hall e he hb)
  · rw [getD_set_ne true hij] at hl
    exact grow _ (hd j oj hoj hl (by simpa using hj) e he hb)
theorem sink_last {listed : Array Bool} (hs : sinkOk md ops s = true) (hd : Down md ops listed) (hsz : listed.size = ops.size) (hr : s ∈ Region.ready md ops listed) {i : Nat} (hi : i ∈ Region.ready md ops listed) : i = s := by
  obtain ⟨hun, oi, hoi, hall⟩ := mem_ready.1 hi
  obtain ⟨hun', os, hos, hall'⟩ := mem_ready.1 hr
  have hlt : s < ops.size := (Array.getElem?_eq_some_iff.1 hos).1
  have hlti : i < ops.size := (Array.getElem?_eq_some_iff.1 hoi).1
  unfold sinkOk at hs
  rw [Bool.or_eq_true] at hs
  rcases hs with hs | hs
  · have := Nat.le_of_ble_eq_true hs; omega
  · rw [List.all_eq_true] at hs
    have h1 := hs i (by simpa using hlti)
    simp only [Bool.or_eq_true, beq_iff_eq] at h1
    rcases h1 with h1 | h1
    · exact h1
    · have h2 := reach_listed hd hsz _ _ h1 fun o ho e he hb => by
        have : o = os := Option.some.inj (ho.symm.trans hos)
        subst this
        exact hall' e he hb
      have hl : i < listed.size := by rw [hsz]; exact hlti
      simp [hl] at h2 hun
      rw [h2] at hun; cases hun
theorem wpAnyV_first {i : Nat} {oi : Oper} {v : Value} (hi : ops[i]? = some oi) (his : i ≠ s) (hs : sinkOk md ops s = true) (hsel : ∀ (j : Nat) (o : Oper) cs b, ops[j]? = some o → o.op ≠ .select cs b) :
    ∀ (fuel : Nat) (listed : Array Bool) (a : Act) (w : World), C w → listed.size = ops.size → Down md ops listed →
      (∀ j oj, ops[j]? = some oj → j ≠ i → listed.getD j true = false → (∀ e ∈ oj.after, Region.binds md e = true → e.on ≠ i) → oi.apart ops oj = true) →
      i ∈ Region.ready md ops listed → Yv P ops C oi v a →
      wpAnyV ρ P md ops C s Q fuel (listed.setIfInBounds i true) (a.put oi.dst v) w → wpAnyV ρ P md ops C s Q (fuel + 1) listed a w := by
  intro fuel
  induction fuel with
  | zero =>
    intro listed a w hC hsz hdn _ hr hy H
    refine ⟨fun h => (by rw [h] at hr; cases hr), fun j hj => ?_⟩
    by_cases hji : j = i
    · subst hji; exact hy.opV hi hC ⟨fun _ => hC, H⟩
    · have := ready_mono hj hji
      rw [H.1] at this
      cases this
  | succ fuel ih =>
    intro listed a w hC hsz hdn hfree hr hy H
    refine ⟨fun h => (by rw [h] at hr; cases hr), fun j hj => ?_⟩
    by_cases hji : j = i
    · subst hji; exact hy.opV hi hC ⟨fun _ => hC, H⟩
    · have hjs : j ≠ s := fun h => by subst h; exact his (sink_last hs hdn hsz hj hr)
      have h1 := H.2 j (ready_mono hj hji)
      obtain ⟨hjun, oj, hoj, hall⟩ := mem_ready.1 hj
      have hnot : ∀ e ∈ oj.after, Region.binds md e = true → e.on ≠ i := fun e he hb heq => by
        have h1 := hall e he hb
        have h0 := (mem_ready.1 hr).1
        rw [heq] at h1
        rcases Nat.lt_or_ge i listed.size with h' | h'
        · simp [h'] at h0 h1; rw [h0] at h1; cases h1
        · simp [Array.getElem?_eq_none h'] at h1
      have h2 := opV_put hoj (hfree j oj hoj hji hjun hnot) (fun cs b => hsel i oi cs b hi) (fun cs b => hsel j oj cs b hoj) hy h1
      have hfree' : ∀ k ok, ops[k]? = some ok → k ≠ i → (listed.setIfInBounds j true).getD k true = false →
          (∀ e ∈ ok.after, Region.binds md e = true → e.on ≠ i) → oi.apart ops ok = true := fun k ok hk hki hun hno => by
        refine hfree k ok hk hki ?_ hno
        by_cases hjk : j = k
        · subst hjk; exact hjun
        · rw [getD_set_ne true hjk] at hun; exact hun
      refine opV_mono (fun a' w' h3 => ?_) h2
      refine ⟨fun _ => h3.2.1 hjs, ih (listed.setIfInBounds j true) a' w' (h3.2.1 hjs) (by simpa using hsz) (hdn.set hsz hj) hfree' (ready_mono hr (Ne.symm hji)) h3.1 ?_⟩
      rw [Array.setIfInBounds_comm _ _ hji]
      exact h3.2.2
/-- The walk in one order: (false, i): operation i is silent; (true, i): it comes alone. -/
def wpW (ρ : Option Nat) (P : Program) (ops : Array Oper) (C : World → Prop) (s : Nat) (Q : Post) : List (Bool × Nat) → Act → World → Prop
  | [], a, w => Q .normal a w
  | (false, i) :: r, a, w => ∃ o v, ops[i]? = some o ∧ Yv P ops C o v a ∧ wpW ρ P ops C s Q r (a.put o.dst v) w
  | (true, i) :: r, a, w => opV ρ P ops i (fun a' w' => (i ≠ s → C w') ∧ wpW ρ P ops C s Q r a' w') a w
def ordB (md : Region.Mode) (ops : Array Oper) (s : Nat) : List (Bool × Nat) → Array Bool → Bool
  | [], listed => (Region.ready md ops listed).isEmpty
  | (false, i) :: r, listed => (Region.ready md ops listed).contains i && Region.free md ops listed i && i != s && ordB md ops s r (listed.setIfInBounds i true)
  | (true, i) :: r, listed => decide (Region.ready md ops listed = [i]) && (i != s || r.isEmpty) && ordB md ops s r (listed.setIfInBounds i true)
theorem wpAnyV_of_walk (hsel : Region.noSelect ops = true) (hs : sinkOk md ops s = true) : ∀ (ord : List (Bool × Nat)) (listed : Array Bool) (a : Act) (w : World), C w ∨ ord = [] → listed.size = ops.size → Down md ops listed →
    ordB md ops s ord listed = true → wpW ρ P ops C s Q ord a w → wpAnyV ρ P md ops C s Q ord.length listed a w
  | [], listed, a, w, _, _, _, hB, h => ⟨by simpa [ordB] using hB, h⟩
  | (false, i) :: r, listed, a, w, hC, hsz, hdn, hB, h => by
    simp only [ordB, Bool.and_eq_true] at hB
    obtain ⟨⟨⟨hr, hf⟩, his⟩, hB'⟩ := hB
    obtain ⟨o, v, ho, hy, hk⟩ := h
    have hC' : C w := hC.resolve_right (by simp)
    have hr' : i ∈ Region.ready md ops listed := by simpa using hr
    exact wpAnyV_first ho (by simpa using his) hs (Region.noSelect_spec hsel) r.length listed a w hC' hsz hdn (Region.free_spec ho hf) hr' hy
      (wpAnyV_of_walk hsel hs r _ _ _ (.inl hC') (by simpa using hsz) (hdn.set hsz hr') hB' hk)
  | (true, i) :: r, listed, a, w, hC, hsz, hdn, hB, h => by
    simp only [ordB, Bool.and_eq_true, decide_eq_true_eq] at hB
    obtain ⟨⟨hr, hlast⟩, hB'⟩ := hB
    refine ⟨fun h0 => (by rw [hr] at h0; cases h0), fun j hj => ?_⟩
    rw [hr] at hj
    obtain rfl : j = i := by simpa using hj
    have hr' : j ∈ Region.ready md ops listed := by rw [hr]; simp
    refine opV_mono (fun a' w' hh => ⟨hh.1, wpAnyV_of_walk hsel hs r _ a' w' ?_ (by simpa using hsz) (hdn.set hsz hr') hB' hh.2⟩) h
    by_cases hjs : j = s
    · subst hjs
      simp at hlast
      exact .inr (by simpa using hlast)
    · exact .inl (hh.1 hjs)
def drawOk (ops : Array Oper) (s : Nat) (ord : List (Bool × Nat)) : Bool := Region.noSelect ops && sinkOk .any ops s && Nat.beq ord.length ops.size && ordB .any ops s ord (Array.replicate ops.size false) && ops.toList.all fun o => ndOp o.op
theorem nd_of {ops : Array Oper} (h : (ops.toList.all fun o => ndOp o.op) = true) {i : Nat} {o : Oper} (ho : ops[i]? = some o) : ndOp o.op = true :=
  List.all_eq_true.1 h o (by rw [← Array.getElem?_toList] at ho; exact List.mem_of_getElem? ho)
theorem wp_region_walk {id : Nat} {a : Act} {w : World} (hm : P.follows .mixedOrders = true) (ord : List (Bool × Nat)) (hB : drawOk ops s ord = true) (hC : C w.drew) (h : wpW ρ P ops C s Q ord a w.drew) : (Code.region id ops true).wpIn (FF ρ) 0 P Q a w := by
  simp only [drawOk, Bool.and_eq_true] at hB
  obtain ⟨⟨⟨⟨h1, h2⟩, h3⟩, h4⟩, h5⟩ := hB
  refine wpIn_region_any hm ?_
  have := wpAny_of_wpAnyV (fun i o ho => nd_of h5 ho) _ _ _ _ (wpAnyV_of_walk h1 h2 ord (Array.replicate ops.size false) a w.drew (.inl hC) (by simp) (fun j oj _ hl hj => by
    simp only [Array.size_replicate] at hj
    simp [Array.getD, hj] at hl) h4 h)
  rwa [Nat.eq_of_beq_eq_true h3] at this

/-! ### Over what is known of a frame -/
variable {ds : List Deferred} {n : Nat} {K : Kn} {w : World} {r : List (Bool × Nat)}
def WX (ρ : Option Nat) (P : Program) (ops : Array Oper) (C : World → Prop) (s : Nat) (Q : Post) (ds : List Deferred) (n : Nat) (ord : List (Bool × Nat)) (K : Kn) (w : World) : Prop :=
  ∀ l, Agree n K l → wpW ρ P ops C s Q ord ⟨l, ds⟩ w
theorem WC.draw {id : Nat} (hm : P.follows .mixedOrders = true) (s : Nat) (ord : List (Bool × Nat)) (hB : drawOk ops s ord = true) (C : World → Prop) (hC : C w.drew) (h : WX ρ P ops C s Q ds n ord K w.drew) :
    WC ρ P (.region id ops true) Q ds n K w := fun l hl => wp_region_walk hm ord hB hC (h l hl)
theorem WX.nil (h : WQ Q .normal ds n K w) : WX ρ P ops C s Q ds n [] K w := fun l hl => h l hl
theorem WX.v {i d : Nat} {op : Op} {ty : TypeId} {pos : String} {es : Array Edge} {v : Value} (ho : ops[i]? = some ⟨some d, op, ty, pos, es, none⟩) (h : ∀ w', C w' → Ev P K op ty w' v w') (hd : Nat.blt d n = true) (k : WX ρ P ops C s Q ds n r ((d, v) :: K) w) :
    WX ρ P ops C s Q ds n ((false, i) :: r) K w := fun l hl => ⟨_, v, ho, .inl ⟨by simp [Region.wanted], fun w' hw' => h w' hw' _ _ _ _ _ _ _ hl⟩, k _ (hl.put hd v)⟩
theorem WX.g {i d j : Nat} {b g : Bool} {op : Op} {ty : TypeId} {pos : String} {es : Array Edge} {v : Value} (ho : ops[i]? = some ⟨some d, op, ty, pos, es, some (j, b)⟩) (hm : Met ops K j b g) (h : g = true → ∀ w', C w' → Ev P K op ty w' v w') (hd : Nat.blt d n = true)
    (k : WX ρ P ops C s Q ds n r ((d, gv g v) :: K) w) : WX ρ P ops C s Q ds n ((false, i) :: r) K w := fun l hl => by
  refine ⟨_, gv g v, ho, ?_, k _ (hl.put hd _)⟩
  cases g with
  | true => exact .inl ⟨hm.wanted hl rfl, fun w' hw' => h rfl w' hw' _ _ _ _ _ _ _ hl⟩
  | false => exact .inr ⟨hm.wanted hl rfl, rfl⟩
/-- What a loud operation comes to. -/
def back (ρ : Option Nat) (P : Program) (ops : Array Oper) (C : World → Prop) (s : Nat) (Q : Post) (i : Nat) (r : List (Bool × Nat)) : Post := fun e a' w' => e = .normal ∧ (i ≠ s → C w') ∧ wpW ρ P ops C s Q r a' w'
theorem WX.loud {i : Nat} {o : Oper} (ho : ops[i]? = some o) (hnd : ndOp o.op = true) (h : WL ρ P ops (back ρ P ops C s Q i r) ds n [o] K w) : WX ρ P ops C s Q ds n ((true, i) :: r) K w := by
  intro l hl
  have h1 := h l hl
  show opV ρ P ops i _ _ _
  unfold opV
  rw [ho]
  unfold wpListIn at h1
  simp only
  split
  · rename_i hw
    rw [if_pos hw] at h1
    have h1 := h1.2
    rw [semAt_nd hnd] at h1
    generalize (execOp _ o).run P w = res at h1 ⊢
    cases res with
    | ok x w' =>
      cases x <;> simp only [Oper.uponIn] at h1 <;> simp only [upV]
      case value v => exact h1.2
      case skip => exact h1.2
      case enter f args =>
        refine (callsIn_FF.1 h1.2).mono ?_
        intro e w'' he
        cases e with
        | returned v => exact ⟨v, rfl, he.2⟩
        | panicked c => exact absurd he.1 (by simp)
        | outgrown => obtain ⟨a, w3, h3, _⟩ := he; cases h3
      case defer d => exact h1.2
      case row row args => exact RowsIn.mono h1.2 fun _ _ hk => hk.2
      case round l f tmps assign body =>
        refine RoundIn.mono h1.2 ?_
        intro e w'' he
        cases e with
        | returned v => exact ⟨v, rfl, he.2⟩
        | panicked c => exact absurd he.1 (by simp)
        | outgrown => obtain ⟨a, w3, h3, _⟩ := he; cases h3
    | halt x w' => cases x <;> simp only [Oper.uponIn] at h1 <;> first | exact h1.elim | (exact absurd h1.1 (by simp))
  · rename_i hw
    rw [if_neg hw] at h1
    exact h1.2.2
theorem WQ.back {i : Nat} (hC : i ≠ s → C w) (h : WX ρ P ops C s Q ds n r K w) : WQ (back ρ P ops C s Q i r) .normal ds n K w := fun l hl => ⟨rfl, hC, h l hl⟩
end
end Go.BK
