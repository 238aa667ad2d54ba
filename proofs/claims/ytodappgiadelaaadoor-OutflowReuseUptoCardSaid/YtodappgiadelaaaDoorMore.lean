/- Small rules beside the first ones: this file names no program. -/
import Derived.Test.YtodappgiadelaaaDoorCall
import Derived.Laws.BytesArg
set_option linter.unusedVariables false
set_option linter.unusedSimpArgs false
namespace Go.BK
open Go.RowKit
section
variable {ρ : Option Nat} {P : Program} {ops : Array Oper} {Q : Post} {ds : List Deferred} {n : Nat} {rest : List Oper} {K : Kn} {w w' w0 : World} {ty : TypeId} {S : Nat → Prop} {σ : Held}
theorem evG.left {p q : Bool} {x : Operand} {v : Value} (h : evO K x = some (gv p v)) : evG K (p && q) x v := ⟨_, h, fun e => by cases p <;> simp_all [gv]⟩
theorem evG.nest {g q : Bool} {x : Operand} {v : Value} (h : evO K x = some (gv (g && q) v)) : evG K g x (gv q v) := ⟨_, h, fun e => by subst e; cases q <;> rfl⟩
theorem St.old (H : St w0 No w σ) {a : Addr} {v : Value} (h : w0.cell? a = some v) : w.cell? a = some v := Ext.cell H.gr h
theorem St.olds (H : St w0 No w σ) {a : Addr} {vs : List Value} (h : ∀ j v, vs[j]? = some v → w0.cell? (a.add j) = some v) : ∀ j v, vs[j]? = some v → w.cell? (a.add j) = some v := fun j v hj => Ext.cell H.gr (h j v hj)
theorem St.oldS (H : St w0 S w σ) {a : Addr} {v : Value} (h : w0.cell? a = some v) (hn : ¬ S a.block) : w.cell? a = some v := Gr.cell H.gr hn h
theorem Gr.cells {w w' : World} (h : Gr S w w') {a : Addr} (hn : ¬ S a.block) {vs : List Value} (hc : ∀ j v, vs[j]? = some v → w.cell? (a.add j) = some v) : ∀ j v, vs[j]? = some v → w'.cell? (a.add j) = some v := fun j v hj => by
  refine Gr.cell h ?_ (hc j v hj)
  unfold Addr.add
  split <;> exact hn
/-- A field of an element. -/
theorem rdCells {α : Type} {k : Kd α} {xs : List α} {w : World} {b o : Nat} (hc : ∀ j x, xs[j]? = some x → ∀ i v, (k.enc x)[i]? = some v → w.cell? ⟨b, o + j * k.sz + i, none⟩ = some v) {j : Nat} {x : α} (hx : xs[j]? = some x) (off : Nat) {vs : List Value}
    (hv : ((k.enc x).drop off).take vs.length = vs) : ∀ i v, vs[i]? = some v → w.cell? ((⟨b, o + j * k.sz + off, none⟩ : Addr).add i) = some v := by
  intro i v hi
  rw [add_none, Nat.add_assoc]
  refine hc j x hx (off + i) v ?_
  have hlt : i < vs.length := by
    rcases Nat.lt_or_ge i vs.length with h | h
    · exact h
    · rw [List.getElem?_eq_none h] at hi; cases hi
  have h2 : (((k.enc x).drop off).take vs.length)[i]? = some v := by rw [hv]; exact hi
  rw [List.getElem?_take_of_lt hlt, List.getElem?_drop] at h2
  exact h2
theorem rdCells0 {α : Type} {k : Kd α} {xs : List α} {w : World} {b o : Nat} (hc : ∀ j x, xs[j]? = some x → ∀ i v, (k.enc x)[i]? = some v → w.cell? ⟨b, o + j * k.sz + i, none⟩ = some v) {j : Nat} {x : α} (hx : xs[j]? = some x) :
    ∀ i v, (k.enc x)[i]? = some v → w.cell? ((⟨b, o + j * k.sz, none⟩ : Addr).add i) = some v := by
  intro i v hi
  rw [add_none]
  exact hc j x hx i v hi
theorem getx {α : Type} {xs : List α} {j : Nat} (h : j < xs.length) : xs[j]? = some xs[j] := List.getElem?_eq_getElem h
theorem WC.drawT {id : Nat} {ops : Array Oper} (hm : P.follows .mixedOrders = true) (T : Nat → Prop) (s : Nat) (ord : List (Bool × Nat)) (hB : drawOk ops s ord = true) (h : ∀ w1, Ext w w1 → WX ρ P ops (Gr T w1) s Q ds n ord K w1) :
    WC ρ P (.region id ops true) Q ds n K w := WC.draw hm s ord hB (Gr T w.drew) (Gr.refl _ _) (h _ (Ext.drew w))
section
variable {t ty' : TypeId} {x y : Operand}
theorem Ev.gtrN {a b : Nat} {q : IntKind} (hx : evO K x = some (.int q (a : Nat))) (hy : evO K y = some (.int q (b : Nat))) : Ev P K (.binOp .gtr t x y ty') ty w (.bool (decide (b < a))) w := by
  have h := Ev.gtr (P := P) (w := w) (t := t) (ty := ty) (ty' := ty') hx hy
  simpa using h
theorem Ev.geqN {a b : Nat} {q : IntKind} (hx : evO K x = some (.int q (a : Nat))) (hy : evO K y = some (.int q (b : Nat))) : Ev P K (.binOp .geq t x y ty') ty w (.bool (decide (b ≤ a))) w := by
  have h := Ev.geq (P := P) (w := w) (t := t) (ty := ty) (ty' := ty') hx hy
  simpa using h
theorem Ev.min2 {a b : Int} {ts : Array TypeId} {q : IntKind} (hx : evO K x = some (.int q a)) (hy : evO K y = some (.int q b)) : Ev P K (.call ⟨.builtin .min, #[x, y], ts⟩) ty w (.int q (min a b)) w := by
  intro n ds l d pos es g hl
  have e : (if b < a then b else a) = min a b := by rw [Int.min_def]; split <;> split <;> omega
  simp [execOp, resolve, invoke, builtin, ev_of hl hx, ev_of hl hy, run_min_int2, e]
theorem Ev.max2 {a b : Int} {ts : Array TypeId} {q : IntKind} (hx : evO K x = some (.int q a)) (hy : evO K y = some (.int q b)) : Ev P K (.call ⟨.builtin .max, #[x, y], ts⟩) ty w (.int q (max a b)) w := by
  intro n ds l d pos es g hl
  have e : (if a < b then b else a) = max a b := by rw [Int.max_def]; split <;> split <;> omega
  simp [execOp, resolve, invoke, builtin, ev_of hl hx, ev_of hl hy, run_max_int2, e]
theorem Ev.makeInterface {v : Value} (h : P.concrete t = true) (hx : evO K x = some v) : Ev P K (.makeInterface t x) ty w (.iface t v) w := by
  intro n ds l d pos es g hl
  simp [execOp, ev_of hl hx, run_makeInterface w t v h]
/-- A pointer against nil. -/
theorem equalIn_nil {e : TypeId} {a : Addr} (m : Nat) (ht : P.underlying t = some (.pointer e)) (w : World) : (Op.equalIn (m + 1) t (.pointer (some a)) (.pointer none)).run P w = .ok false w := by simp [Op.equalIn, run_underlying ht]
theorem equalIn_nils {e : TypeId} (m : Nat) (ht : P.underlying t = some (.pointer e)) (w : World) : (Op.equalIn (m + 1) t (.pointer none) (.pointer none)).run P w = .ok true w := by simp [Op.equalIn, run_underlying ht]
theorem eqGuard_ptr (op : BinOp) (t : TypeId) (x y : Operand) (a b : Option Addr) (w : World) : (eqGuard op t x y (.pointer a) (.pointer b)).run P w = .ok () w := by
  cases op <;> simp [eqGuard]
theorem Ev.eqnil {e : TypeId} {a : Option Addr} (ht : P.underlying t = some (.pointer e)) (hx : evO K x = some (.pointer a)) (hy : evO K y = some (.pointer none)) : Ev P K (.binOp .eql t x y ty') ty w (.bool a.isNone) w := by
  refine Ev.bin hx hy (eqGuard_ptr _ _ _ _ _ _) ?_
  cases a with
  | none =>
    have h9 : (Op.equalIn Op.maxDepth t (.pointer none) (.pointer none)).run P w = .ok true w := equalIn_nils 9999 ht w
    simp only [binOp, Op.equal]
    simp [Sem.run_bind, h9, Result.andThen]
  | some a =>
    have h9 : (Op.equalIn Op.maxDepth t (.pointer (some a)) (.pointer none)).run P w = .ok false w := equalIn_nil 9999 ht w
    simp only [binOp, Op.equal]
    simp [Sem.run_bind, h9, Result.andThen]
theorem Ev.nenil {e : TypeId} {a : Option Addr} (ht : P.underlying t = some (.pointer e)) (hx : evO K x = some (.pointer a)) (hy : evO K y = some (.pointer none)) : Ev P K (.binOp .neq t x y ty') ty w (.bool a.isSome) w := by
  refine Ev.bin hx hy (eqGuard_ptr _ _ _ _ _ _) ?_
  cases a with
  | none =>
    have h9 : (Op.equalIn Op.maxDepth t (.pointer none) (.pointer none)).run P w = .ok true w := equalIn_nils 9999 ht w
    simp only [binOp, Op.equal]
    simp [Sem.run_bind, h9, Result.andThen]
  | some a =>
    have h9 : (Op.equalIn Op.maxDepth t (.pointer (some a)) (.pointer none)).run P w = .ok false w := equalIn_nil 9999 ht w
    simp only [binOp, Op.equal]
    simp [Sem.run_bind, h9, Result.andThen]
/-- A slice against nil. -/
theorem eqGuard_sl (op : BinOp) (t : TypeId) (x y : Operand) (a b : Option Addr) (n c n' c' : Nat) (w : World) : (eqGuard op t x y (.slice a n c) (.slice b n' c')).run P w = .ok () w := by
  cases op <;> simp [eqGuard]
theorem equalIn_sl {e : TypeId} (a : Option Addr) (n c n' c' m : Nat) (ht : P.underlying t = some (.slice e)) (w : World) : (Op.equalIn (m + 1) t (.slice a n c) (.slice none n' c')).run P w = .ok a.isNone w := by cases a <;> simp [Op.equalIn, run_underlying ht]
theorem Ev.eqnilS {e : TypeId} {a : Option Addr} {m c m' c' : Nat} (ht : P.underlying t = some (.slice e)) (hx : evO K x = some (.slice a m c)) (hy : evO K y = some (.slice none m' c')) : Ev P K (.binOp .eql t x y ty') ty w (.bool a.isNone) w := by
  refine Ev.bin hx hy (eqGuard_sl _ _ _ _ _ _ _ _ _ _) ?_
  have h9 : (Op.equalIn Op.maxDepth t (.slice a m c) (.slice none m' c')).run P w = .ok a.isNone w := equalIn_sl a m c m' c' 9999 ht w
  simp only [binOp, Op.equal]
  simp [Sem.run_bind, h9, Result.andThen]
end
/-- A call that only computes. -/
@[reducible] def Pur (P : Program) (f : FuncId) (args : Array Value) (w : World) (v : Value) : Prop := Calls P f args w fun e w' => e = .returned v ∧ St w No w' []
theorem WL.callS {d : Nat} {f : FuncId} {args : Array Operand} {ts : Array TypeId} {pos : String} {es : Array Edge} {vs : List Value} {v : Value} (ha : evs K args.toList = some vs) (hf : callB P f = true) (hd : Nat.blt d n = true) (H : St w0 S w σ)
    (hc : Pur P f vs.toArray w v) (k : ∀ w', St w0 S w' σ → Ext w w' → WL ρ P ops Q ds n rest ((d, v) :: K) w') : WL ρ P ops Q ds n (⟨some d, .call ⟨.value (.func f), args, ts⟩, ty, pos, es, none⟩ :: rest) K w :=
  WL.call ha hf hd hc fun e w' h => ⟨v, h.1, k w' (H.ext h.2.gr) h.2.gr⟩
theorem WL.gcallS {d j : Nat} {b g : Bool} {f : FuncId} {args : Array Operand} {ts : Array TypeId} {pos : String} {es : Array Edge} {vs : List Value} {v : Value} (hm : Met ops K j b g) (ha : g = true → evs K args.toList = some vs) (hf : callB P f = true) (hd : Nat.blt d n = true) (H : St w0 S w σ)
    (hc : g = true → Pur P f vs.toArray w v) (k : ∀ w', St w0 S w' σ → Ext w w' → WL ρ P ops Q ds n rest ((d, gv g v) :: K) w') : WL ρ P ops Q ds n (⟨some d, .call ⟨.value (.func f), args, ts⟩, ty, pos, es, some (j, b)⟩ :: rest) K w :=
  WL.gcall v (fun w' => St w0 S w' σ ∧ Ext w w') hm ha hf hd ⟨H, Ext.refl w⟩ (fun hg => (hc hg).mono fun e w' h => ⟨h.1, H.ext h.2.gr, h.2.gr⟩) fun w' h => k w' h.1 h.2
/-- The bytes of a slice as a text. -/
theorem Ev.toStr {src dst e : TypeId} {x : Operand} {A : Option Addr} {c : Nat} {G : Nat → Prop} {k : Kd UInt8} {s : Bs} (hs : P.underlying src = some (.slice e)) (he : P.underlying e = some (.int .u8)) (hd : P.underlying dst = some .string) (hx : evO K x = some (.slice A s.length c))
    (hk : k.sz = 1 ∧ ∀ c, k.enc c = [.int .u8 (c.toNat : Int)]) (R : Rd k G w A c s) : Ev P K (.convert src dst x) ty w (str s) w := by
  have e1 : (strOfNums (s.map fun c => (c.toNat : Int))) = ⟨s.toArray⟩ := by
    apply ByteArray.ext
    apply Array.toList_inj.1
    rw [strOfNums_data, List.map_map]
    show s.map _ = s
    conv => rhs; rw [← List.map_id s]
    refine List.map_congr_left fun c _ => ?_
    simp
  intro n ds l d pos es g hl
  simp only [execOp, ev_of hl hx]
  cases s with
  | nil =>
    cases A with
    | none => simp [run_convert_bytes_nil (P := P) w src e hs he _ _ dst hd]; rfl
    | some a =>
      have := run_convert_bytes_arg (P := P) w src e hs he a.block a.off 0 c [] rfl (by simp) dst hd
      simp [convert, run_underlying hs, run_underlying he, run_underlying hd, Conv.bytesToString, loadCells, loadCellsFrom]
      rfl
  | cons y s =>
    obtain ⟨b, o, rfl, _, hc⟩ := R.2 (by simp)
    have h := run_convert_bytes_arg (P := P) w src e hs he b o (y :: s).length c ((y :: s).map fun c => (c.toNat : Int)) (by simp) (fun i hi => ?_) dst hd
    · rw [e1] at h
      simp only [Sem.run_bind, h]
      rfl
    · have h2 := hc i (y :: s)[i] (List.getElem?_eq_getElem hi) 0 (.int .u8 ((y :: s)[i].toNat : Int)) (by rw [hk.2]; rfl)
      rw [hk.1, Nat.mul_one, Nat.add_zero] at h2
      rw [h2]
      congr 2
      rw [List.getD_eq_getElem?_getD, List.getElem?_map, List.getElem?_eq_getElem hi]
      rfl
/-- Two ways meet again: what stands behind is walked once. -/
def MP {γ : Type} (Kf : γ → Kn) (I : γ → World → Prop) (ds : List Deferred) (n : Nat) (Q : Post) : Post := Exit.then (fun a' w' => ∃ g, I g w' ∧ (a'.defers = ds ∧ Agree n (Kf g) a'.tmps)) Q
theorem WC.cut {c d : Code} {γ : Type} (Kf : γ → Kn) (I : γ → World → Prop) (h : WC ρ P c (MP Kf I ds n Q) ds n K w) (k : ∀ g w', I g w' → WC ρ P d Q ds n (Kf g) w') : WC ρ P (.seq c d) Q ds n K w := fun l hl => by
  refine wpIn_seq (wpIn_mono (h l hl) fun e a w1 hq => ?_)
  cases e with
  | normal =>
    obtain ⟨g, hI, hd, hA⟩ := hq
    obtain ⟨tm, dd⟩ := a
    simp only at hd hA
    subst hd
    exact k g w1 hI tm hA
  | exit _ => exact hq
  | goto _ => exact hq
  | ret => exact hq
  | panic _ => exact hq
  | outgrown => exact hq
theorem WQ.meet {γ : Type} {Kf : γ → Kn} {I : γ → World → Prop} (g : γ) (hI : I g w) (hs : Sub (Kf g) K) : WQ (MP Kf I ds n Q) .normal ds n K w := fun l hl => ⟨g, hI, rfl, hl.sub hs⟩
theorem WQ.meet_exit {γ : Type} {Kf : γ → Kn} {I : γ → World → Prop} {i : Nat} (h : WQ Q (.exit i) ds n K w) : WQ (MP Kf I ds n Q) (.exit i) ds n K w := fun l hl => h l hl
theorem WQ.meet_ret {γ : Type} {Kf : γ → Kn} {I : γ → World → Prop} (h : WQ Q .ret ds n K w) : WQ (MP Kf I ds n Q) .ret ds n K w := fun l hl => h l hl
end

/-- A test's fact, told as what it says. -/
theorem bsimp : (∀ (p : Prop) [Decidable p], (decide p = true) = p) ∧ (∀ (p : Prop) [Decidable p], (decide p = false) = ¬ p) ∧ (∀ a b : Bool, ((a && b) = true) = (a = true ∧ b = true)) ∧ (∀ a b : Bool, ((a || b) = true) = (a = true ∨ b = true)) ∧
    (∀ b : Bool, ((!b) = true) = (b = false)) ∧ (∀ b : Bool, ((!b) = false) = (b = true)) ∧ (∀ a b : Bool, ((a && b) = false) = (a = false ∨ b = false)) ∧ (∀ a b : Bool, ((a || b) = false) = (a = false ∧ b = false)) ∧
    (∀ a b : Nat, (¬ a < b) = (b ≤ a)) ∧ (∀ a b : Nat, (¬ a ≤ b) = (b < a)) ∧ (∀ a b : Int, (¬ a < b) = (b ≤ a)) ∧ (∀ a b : Int, (¬ a ≤ b) = (b < a)) ∧ (∀ p : Prop, (¬ ¬ p) = p) := by
  refine ⟨?_, ?_, ?_, ?_, ?_, ?_, ?_, ?_, ?_, ?_, ?_, ?_, ?_⟩
  all_goals intros
  case refine_7 => rename_i a b; cases a <;> cases b <;> simp
  all_goals simp
/-- The kinds of the elements that occur again and again. -/
def kStr : Kd Bs := ⟨1, fun s => [str s], fun _ => rfl, by omega, fun x v hv => by simp at hv; subst hv; rfl⟩
abbrev Fld := Bs × Bs
def kFd : Kd Fld := ⟨2, fun f => [str f.1, str f.2], fun _ => rfl, by omega, fun x v hv => by simp at hv; rcases hv with rfl | rfl <;> rfl⟩
end Go.BK
