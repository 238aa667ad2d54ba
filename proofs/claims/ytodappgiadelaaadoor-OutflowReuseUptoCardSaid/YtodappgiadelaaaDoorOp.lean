/- What the single operations yield, as rules over what is known of a frame: this file names no program. -/
import Derived.Test.YtodappgiadelaaaDoorBk
set_option linter.unusedVariables false
set_option linter.unusedSimpArgs false
namespace Go.BK
open Go.RowKit

theorem beq_dec {α : Type} [BEq α] [LawfulBEq α] [DecidableEq α] (a b : α) : (a == b) = decide (a = b) := by rw [Bool.eq_iff_iff]; simp
/-- An operation's value, and the world behind it. -/
def Ev (P : Program) (K : Kn) (op : Op) (ty : TypeId) (w : World) (v : Value) (w' : World) : Prop :=
  ∀ (n : Nat) (ds : List Deferred) (l : Array Value) (d : Option Tmp) (pos : String) (es : Array Edge) (g : Option (Nat × Bool)), Agree n K l →
    (execOp (Act.eval ⟨l, ds⟩) ⟨d, op, ty, pos, es, g⟩).run P w = .ok (.value v) w'
section
variable {ρ : Option Nat} {P : Program} {ops : Array Oper} {Q : Post} {ds : List Deferred} {n : Nat} {rest : List Oper} {K : Kn} {w w' : World} {ty : TypeId}
theorem WL.v {d : Nat} {op : Op} {pos : String} {es : Array Edge} {v : Value} (h : Ev P K op ty w v w') (hd : Nat.blt d n = true) (k : WL ρ P ops Q ds n rest ((d, v) :: K) w') :
    WL ρ P ops Q ds n (⟨some d, op, ty, pos, es, none⟩ :: rest) K w := WL.value v (fun l hl => h n ds l _ _ _ _ hl) hd k
theorem WL.g {d j : Nat} {b g : Bool} {op : Op} {pos : String} {es : Array Edge} {v : Value} (hm : Met ops K j b g) (h : g = true → Ev P K op ty w v w) (hd : Nat.blt d n = true) (k : WL ρ P ops Q ds n rest ((d, gv g v) :: K) w) :
    WL ρ P ops Q ds n (⟨some d, op, ty, pos, es, some (j, b)⟩ :: rest) K w := WL.gvalue v hm (fun hg l hl => h hg n ds l _ _ _ _ hl) hd k

/-- bytes -/
abbrev Bs := List UInt8
@[reducible] def str (s : Bs) : Value := .string ⟨s.toArray⟩
def byteAt (s : Bs) (i : Nat) : Int := ((s.getD i 0).toNat : Int)
def I64 (x : Int) : Prop := -9223372036854775808 ≤ x ∧ x ≤ 9223372036854775807
def U64 (x : Int) : Prop := 0 ≤ x ∧ x ≤ 18446744073709551615
def Byt (x : Int) : Prop := 0 ≤ x ∧ x ≤ 255
theorem wrap_i64 {x : Int} (h : I64 x) : IntKind.i64.wrap x = x := by
  have h1 := h.1; have h2 := h.2
  simp only [IntKind.wrap, IntKind.bits, IntKind.signed]; simp; omega
theorem wrap_u64 {x : Int} (h : U64 x) : IntKind.u64.wrap x = x := by
  have h1 := h.1; have h2 := h.2
  simp only [IntKind.wrap, IntKind.bits, IntKind.signed]; simp; omega
theorem wrap_u8 {x : Int} (h : Byt x) : IntKind.u8.wrap x = x := by
  have h1 := h.1; have h2 := h.2
  simp only [IntKind.wrap, IntKind.bits, IntKind.signed]; simp; omega
theorem byteAt_bd (s : Bs) (i : Nat) : Byt (byteAt s i) := by
  unfold byteAt
  have := (s.getD i 0).toNat_lt
  exact ⟨by omega, by omega⟩

theorem Ev.move {x : Operand} {v : Value} (h : evO K x = some v) : Ev P K (.move x) ty w v w := by
  intro n ds l d pos es g hl
  simp [execOp, ev_of hl h]
theorem Ev.assign {x : Operand} {v : Value} (h : evO K x = some v) : Ev P K (.assign x) ty w v w := by
  intro n ds l d pos es g hl
  simp [execOp, ev_of hl h]
theorem Ev.pick {c a b : Operand} {p : Bool} {x y : Value} (hc : evO K c = some (.bool p)) (ha : evO K a = some x) (hb : evO K b = some y) : Ev P K (.pick c a b) ty w (bif p then x else y) w := by
  intro n ds l d pos es g hl
  simp [execOp, ev_of hl hc, ev_of hl ha, ev_of hl hb]
  cases p <;> rfl
/-- 'a && b' -/
theorem Ev.and {c a b : Operand} {p q : Bool} (hc : evO K c = some (.bool p)) (ha : evO K a = some (gv p (.bool q))) (hb : evO K b = some (.bool false)) : Ev P K (.pick c a b) ty w (.bool (p && q)) w := by
  have h := Ev.pick (P := P) (ty := ty) (w := w) hc ha hb
  cases p <;> exact h
/-- 'a || b' -/
theorem Ev.or {c a b : Operand} {p q : Bool} (hc : evO K c = some (.bool p)) (ha : evO K a = some (.bool true)) (hb : evO K b = some (gv (!p) (.bool q))) : Ev P K (.pick c a b) ty w (.bool (p || q)) w := by
  have h := Ev.pick (P := P) (ty := ty) (w := w) hc ha hb
  cases p <;> exact h
theorem Ev.not {x : Operand} {p : Bool} {t : TypeId} (h : evO K x = some (.bool p)) : Ev P K (.unOp .not t x) ty w (.bool (!p)) w := by
  intro n ds l d pos es g hl
  simp [execOp, ev_of hl h, Op.unary]
theorem Ev.nilCheck {x : Operand} {a : Addr} (h : evO K x = some (.pointer (some a))) : Ev P K (.nilCheck x) ty w (.pointer (some a)) w := by
  intro n ds l d pos es g hl
  simp [execOp, ev_of hl h]
theorem Ev.extract {x : Operand} {vs : Array Value} {i : Nat} {v : Value} (h : evO K x = some (.tuple vs)) (hv : vs[i]? = some v) : Ev P K (.extract x i) ty w v w := by
  intro n ds l d pos es g hl
  simp [execOp, ev_of hl h, Instr.extract, hv]
theorem Ev.makeFunc {fn : Fn} {xs ys : Array Operand} {vs us : Array Value} (h : xs.toList.mapM (evO K) = some vs.toList) (h' : ys.toList.mapM (evO K) = some us.toList) : Ev P K (.makeFunc fn xs ys) ty w (.func fn vs us) w := by
  have key : ∀ {n : Nat} {l : Array Value} {ds : List Deferred} (xs : List Operand) (vs : List Value), Agree n K l → xs.mapM (evO K) = some vs → xs.map (Act.eval ⟨l, ds⟩) = vs := by
    intro n l ds xs
    induction xs with
    | nil => intro vs _ h; simpa [eq_comm] using h
    | cons x xs ih =>
      intro vs hl h
      simp only [List.mapM_cons, Option.bind_eq_bind, Option.pure_def, Option.bind_eq_some_iff, Option.some.injEq] at h
      obtain ⟨v, hv, us, hu, rfl⟩ := h
      simp [ev_of hl hv, ih us hl hu]
  intro n ds l d pos es g hl
  have e1 : xs.map (Act.eval ⟨l, ds⟩) = vs := by apply Array.toList_inj.1; simpa using key xs.toList vs.toList hl h
  have e2 : ys.map (Act.eval ⟨l, ds⟩) = us := by apply Array.toList_inj.1; simpa using key ys.toList us.toList hl h'
  simp [execOp, Instr.makeFunc, e1, e2]

/-! ### Numbers -/
theorem Ev.bin {op : BinOp} {t ty' : TypeId} {x y : Operand} {a b v : Value} (hx : evO K x = some a) (hy : evO K y = some b) (hg : ∀ w, (eqGuard op t x y a b).run P w = .ok () w) (hr : (binOp op t a b).run P w = .ok v w') :
    Ev P K (.binOp op t x y ty') ty w v w' := by
  intro n ds l d pos es g hl
  simp [execOp, ev_of hl hx, ev_of hl hy, hg, hr]
theorem eqGuard_int (op : BinOp) (t : TypeId) (x y : Operand) (k k' : IntKind) (m m' : Int) (w : World) : (eqGuard op t x y (.int k m) (.int k' m')).run P w = .ok () w := by
  cases op <;> simp [eqGuard]
theorem eqGuard_str (op : BinOp) (t : TypeId) (x y : Operand) (a b : ByteArray) (w : World) : (eqGuard op t x y (.string a) (.string b)).run P w = .ok () w := by
  cases op <;> simp [eqGuard]
section
variable {t ty' : TypeId} {x y : Operand} {a b : Int} {k : IntKind}
theorem Ev.addw (hx : evO K x = some (.int k a)) (hy : evO K y = some (.int k b)) : Ev P K (.binOp .add t x y ty') ty w (.int k (k.wrap (a + b))) w :=
  Ev.bin hx hy (eqGuard_int _ _ _ _ _ _ _ _) (by simp [binOp, Op.intArith])
theorem Ev.subw (hx : evO K x = some (.int k a)) (hy : evO K y = some (.int k b)) : Ev P K (.binOp .sub t x y ty') ty w (.int k (k.wrap (a - b))) w :=
  Ev.bin hx hy (eqGuard_int _ _ _ _ _ _ _ _) (by simp [binOp, Op.intArith])
theorem Ev.mulw (hx : evO K x = some (.int k a)) (hy : evO K y = some (.int k b)) : Ev P K (.binOp .mul t x y ty') ty w (.int k (k.wrap (a * b))) w :=
  Ev.bin hx hy (eqGuard_int _ _ _ _ _ _ _ _) (by simp [binOp, Op.intArith])
theorem Ev.add (hx : evO K x = some (.int .i64 a)) (hy : evO K y = some (.int .i64 b)) (hb : I64 (a + b)) : Ev P K (.binOp .add t x y ty') ty w (.int .i64 (a + b)) w := by
  have h := Ev.addw (P := P) (w := w) (t := t) (ty := ty) (ty' := ty') hx hy
  rwa [wrap_i64 hb] at h
theorem Ev.sub (hx : evO K x = some (.int .i64 a)) (hy : evO K y = some (.int .i64 b)) (hb : I64 (a - b)) : Ev P K (.binOp .sub t x y ty') ty w (.int .i64 (a - b)) w := by
  have h := Ev.subw (P := P) (w := w) (t := t) (ty := ty) (ty' := ty') hx hy
  rwa [wrap_i64 hb] at h
theorem Ev.mul (hx : evO K x = some (.int .i64 a)) (hy : evO K y = some (.int .i64 b)) (hb : I64 (a * b)) : Ev P K (.binOp .mul t x y ty') ty w (.int .i64 (a * b)) w := by
  have h := Ev.mulw (P := P) (w := w) (t := t) (ty := ty) (ty' := ty') hx hy
  rwa [wrap_i64 hb] at h
theorem Ev.lss (hx : evO K x = some (.int k a)) (hy : evO K y = some (.int k b)) : Ev P K (.binOp .lss t x y ty') ty w (.bool (decide (a < b))) w :=
  Ev.bin hx hy (eqGuard_int _ _ _ _ _ _ _ _) (by simp [binOp, Op.intCmp])
theorem Ev.leq (hx : evO K x = some (.int k a)) (hy : evO K y = some (.int k b)) : Ev P K (.binOp .leq t x y ty') ty w (.bool (decide (a ≤ b))) w :=
  Ev.bin hx hy (eqGuard_int _ _ _ _ _ _ _ _) (by simp [binOp, Op.intCmp])
theorem Ev.gtr (hx : evO K x = some (.int k a)) (hy : evO K y = some (.int k b)) : Ev P K (.binOp .gtr t x y ty') ty w (.bool (decide (b < a))) w :=
  Ev.bin hx hy (eqGuard_int _ _ _ _ _ _ _ _) (by simp [binOp, Op.intCmp])
theorem Ev.geq (hx : evO K x = some (.int k a)) (hy : evO K y = some (.int k b)) : Ev P K (.binOp .geq t x y ty') ty w (.bool (decide (b ≤ a))) w :=
  Ev.bin hx hy (eqGuard_int _ _ _ _ _ _ _ _) (by simp [binOp, Op.intCmp])
theorem Ev.eqi (hx : evO K x = some (.int k a)) (hy : evO K y = some (.int k b)) : Ev P K (.binOp .eql t x y ty') ty w (.bool (decide (a = b))) w :=
  Ev.bin hx hy (eqGuard_int _ _ _ _ _ _ _ _) (by simp only [binOp, Op.intCmp, beq_dec]; rw [if_neg (by simp)]; rfl)
theorem Ev.nei (hx : evO K x = some (.int k a)) (hy : evO K y = some (.int k b)) : Ev P K (.binOp .neq t x y ty') ty w (.bool (decide (a ≠ b))) w :=
  Ev.bin hx hy (eqGuard_int _ _ _ _ _ _ _ _) (by simp only [binOp, Op.intCmp, bne, beq_dec, ← decide_not]; rw [if_neg (by simp)]; rfl)
theorem Ev.quo (hx : evO K x = some (.int .i64 a)) (hy : evO K y = some (.int .i64 b)) (h0 : 0 ≤ a) (h1 : 0 < b) (hb : I64 a) : Ev P K (.binOp .quo t x y ty') ty w (.int .i64 (a / b)) w := by
  have e : IntKind.i64.wrap (a.tdiv b) = a / b := by
    rw [Int.tdiv_eq_ediv_of_nonneg h0]
    apply wrap_i64
    have h2 : 0 ≤ a / b := Int.ediv_nonneg h0 (by omega)
    have h3 : a / b ≤ a := Int.ediv_le_self _ h0
    exact ⟨by omega, Int.le_trans h3 hb.2⟩
  have hb0 : b ≠ 0 := by omega
  exact Ev.bin hx hy (eqGuard_int _ _ _ _ _ _ _ _) (by simp [binOp, Op.intDiv, hb0, e])
theorem Ev.rem (hx : evO K x = some (.int .i64 a)) (hy : evO K y = some (.int .i64 b)) (h0 : 0 ≤ a) (h1 : 0 < b) : Ev P K (.binOp .rem t x y ty') ty w (.int .i64 (a % b)) w := by
  have e : a.tmod b = a % b := Int.tmod_eq_emod_of_nonneg h0
  have hb0 : b ≠ 0 := by omega
  exact Ev.bin hx hy (eqGuard_int _ _ _ _ _ _ _ _) (by simp [binOp, Op.intDiv, hb0, e])
/-- & | ^ of whatever kind -/
def ibits (op : BinOp) (k : IntKind) (x y : Int) : Int :=
  let a := BitVec.ofInt k.bits x
  let b := BitVec.ofInt k.bits y
  match op with
  | .and => k.wrap (a &&& b).toNat
  | .or => k.wrap (a ||| b).toNat
  | .xor => k.wrap (a ^^^ b).toNat
  | _ => k.wrap (a &&& ~~~b).toNat
theorem Ev.bits (op : BinOp) (hop : (op == .and || op == .or || op == .xor || op == .andNot) = true) (hx : evO K x = some (.int k a)) (hy : evO K y = some (.int k b)) : Ev P K (.binOp op t x y ty') ty w (.int k (ibits op k a b)) w := by
  refine Ev.bin hx hy (eqGuard_int _ _ _ _ _ _ _ _) ?_
  cases op <;> simp at hop <;> simp [binOp, Op.intBits, ibits]
theorem Ev.shl {k' : IntKind} (hx : evO K x = some (.int k a)) (hy : evO K y = some (.int k' b)) (h0 : 0 ≤ b) : Ev P K (.binOp .shl t x y ty') ty w (.int k (k.wrap (a * 2 ^ min b.toNat k.bits))) w := by
  have : ¬ b < 0 := by omega
  exact Ev.bin hx hy (eqGuard_int _ _ _ _ _ _ _ _) (by simp [binOp, Op.shift, this])
theorem Ev.shr {k' : IntKind} (hx : evO K x = some (.int k a)) (hy : evO K y = some (.int k' b)) (h0 : 0 ≤ b) : Ev P K (.binOp .shr t x y ty') ty w (.int k (a / 2 ^ min b.toNat k.bits)) w := by
  have : ¬ b < 0 := by omega
  refine Ev.bin hx hy (eqGuard_int _ _ _ _ _ _ _ _) ?_
  simp [binOp, Op.shift, this, Int.fdiv_eq_ediv_of_nonneg _ (Int.le_of_lt (Int.pow_pos (by omega : (0:Int) < 2)))]
theorem Ev.conv {src dst : TypeId} {k' : IntKind} {z : TypeDesc} (hs : P.underlying src = some z) (hd : P.underlying dst = some (.int k')) (hx : evO K x = some (.int k a)) : Ev P K (.convert src dst x) ty w (.int k' (k'.wrap a)) w := by
  intro n ds l d pos es g hl
  simp [execOp, ev_of hl hx, convert, run_underlying hs, run_underlying hd, Conv.intToInt]
end

/-! ### Bools -/
section
variable {t ty' : TypeId} {x y : Operand} {a b : Bool}
theorem eqGuard_bool (op : BinOp) (t : TypeId) (x y : Operand) (a b : Bool) (w : World) : (eqGuard op t x y (.bool a) (.bool b)).run P w = .ok () w := by
  cases op <;> simp [eqGuard]
theorem equalIn_bool {a b : Bool} (m : Nat) (ht : P.underlying t = some .bool) : (Op.equalIn (m + 1) t (.bool a) (.bool b)).run P w = .ok (a == b) w := by simp [Op.equalIn, run_underlying ht]
theorem Ev.eqb (ht : P.underlying t = some .bool) (hx : evO K x = some (.bool a)) (hy : evO K y = some (.bool b)) : Ev P K (.binOp .eql t x y ty') ty w (.bool (decide (a = b))) w :=
  Ev.bin hx hy (eqGuard_bool _ _ _ _ _ _) (by
    have : (a == b) = decide (a = b) := by cases a <;> cases b <;> rfl
    have h9 : (Op.equalIn Op.maxDepth t (.bool a) (.bool b)).run P w = .ok (a == b) w := equalIn_bool 9999 ht
    rw [← this]
    simp only [binOp, Op.equal]
    simp [Sem.run_bind, h9, Result.andThen])
theorem Ev.neb (ht : P.underlying t = some .bool) (hx : evO K x = some (.bool a)) (hy : evO K y = some (.bool b)) : Ev P K (.binOp .neq t x y ty') ty w (.bool (decide (a ≠ b))) w :=
  Ev.bin hx hy (eqGuard_bool _ _ _ _ _ _) (by
    have : (!(a == b)) = decide (a ≠ b) := by cases a <;> cases b <;> rfl
    have h9 : (Op.equalIn Op.maxDepth t (.bool a) (.bool b)).run P w = .ok (a == b) w := equalIn_bool 9999 ht
    rw [← this]
    simp only [binOp, Op.equal]
    simp [Sem.run_bind, h9, Result.andThen])
end

/-! ### Strings -/
section
variable {t ty' : TypeId} {x y : Operand} {a b : Bs}
theorem str_toList (a : Bs) : (⟨a.toArray⟩ : ByteArray).toList = a := by rw [ByteArray.toList_eq]
theorem str_size (a : Bs) : (⟨a.toArray⟩ : ByteArray).size = a.length := by simp [ByteArray.size]
theorem Ev.eqs (hx : evO K x = some (str a)) (hy : evO K y = some (str b)) : Ev P K (.binOp .eql t x y ty') ty w (.bool (decide (a = b))) w :=
  Ev.bin hx hy (eqGuard_str _ _ _ _ _ _) (by simp only [binOp, Op.stringOp, str_toList, beq_dec]; rfl)
theorem Ev.nes (hx : evO K x = some (str a)) (hy : evO K y = some (str b)) : Ev P K (.binOp .neq t x y ty') ty w (.bool (decide (a ≠ b))) w :=
  Ev.bin hx hy (eqGuard_str _ _ _ _ _ _) (by simp only [binOp, Op.stringOp, str_toList, beq_dec, ← decide_not]; rfl)
theorem Ev.cat (hx : evO K x = some (str a)) (hy : evO K y = some (str b)) (hb : I64 ((a.length + b.length : Nat) : Int)) : Ev P K (.binOp .add t x y ty') ty w (str (a ++ b)) w :=
  Ev.bin hx hy (eqGuard_str _ _ _ _ _ _) (by
    have h2 := hb.2
    have e : (⟨a.toArray⟩ : ByteArray) ++ ⟨b.toArray⟩ = ⟨(a ++ b).toArray⟩ := by
      apply ByteArray.ext; simp
    have h3 : ¬ ((a.length + b.length : Nat) : Int) > IntKind.i64.max := by simp only [IntKind.max, IntKind.bits, IntKind.signed]; simp; omega
    simp only [binOp, Op.stringOp, str_size]
    rw [if_neg h3]
    simp [e, str])
theorem Ev.lens {t : TypeId} (ht : P.underlying t = some .string) (hx : evO K x = some (str a)) : Ev P K (.call ⟨.builtin .len, #[x], #[t]⟩) ty w (.int .i64 a.length) w := by
  intro n ds l d pos es g hl
  simp [execOp, ev_of hl hx, resolve, invoke, builtin, Builtin.len_, run_underlying ht, goInt, str_size]
theorem Ev.lensl {t e : TypeId} {A : Option Addr} {m c : Nat} (ht : P.underlying t = some (.slice e)) (hx : evO K x = some (.slice A m c)) : Ev P K (.call ⟨.builtin .len, #[x], #[t]⟩) ty w (.int .i64 m) w := by
  intro n ds l d pos es g hl
  simp [execOp, ev_of hl hx, resolve, invoke, builtin, Builtin.len_, run_underlying ht, goInt]
theorem Ev.index {i : Int} {k : IntKind} (ht : P.underlying t = some .string) (hx : evO K x = some (str a)) (hy : evO K y = some (.int k i)) (h0 : 0 ≤ i) (h1 : i < a.length) : Ev P K (.index t x y) ty w (.int .u8 (byteAt a i.toNat)) w := by
  have h2 : i.toNat < a.length := by omega
  intro n ds l d pos es g hl
  simp only [execOp, ev_of hl hx, ev_of hl hy, Instr.index, asIntOf]
  have e : (⟨a.toArray⟩ : ByteArray)[i.toNat]? = some (a.getD i.toNat 0) := by
    rw [List.getD_eq_getElem?_getD, List.getElem?_eq_getElem h2]
    have hs : i.toNat < (⟨a.toArray⟩ : ByteArray).size := by rw [str_size]; exact h2
    rw [getElem?_pos (⟨a.toArray⟩ : ByteArray) i.toNat hs]; rfl
  simp [run_underlying ht, h0, e, byteAt]
theorem Ev.subs {lo hi : Option Operand} {i j : Int} (ht : P.underlying t = some .string) (hx : evO K x = some (str a))
    (hlo : match lo with | none => i = 0 | some o => ∃ k, evO K o = some (.int k i)) (hhi : match hi with | none => j = a.length | some o => ∃ k, evO K o = some (.int k j)) (h0 : 0 ≤ i) (h1 : i ≤ j) (h2 : j ≤ a.length) :
    Ev P K (.slice t x lo hi none) ty w (str ((a.drop i.toNat).take (j.toNat - i.toNat))) w := by
  have e : (⟨a.toArray⟩ : ByteArray).extract i.toNat j.toNat = ⟨((a.drop i.toNat).take (j.toNat - i.toNat)).toArray⟩ := by
    apply ByteArray.ext
    simp [List.extract_eq_take_drop]
  have hj : j.toNat ≤ a.length := by omega
  have hi' : i.toNat ≤ j.toNat := by omega
  have h3 : 0 ≤ j := by omega
  have h4 : (j.toNat : Int) = j := by omega
  intro n ds l d pos es g hl
  cases lo with
  | none =>
    simp only at hlo
    subst hlo
    cases hi with
    | none =>
      simp only at hhi
      subst hhi
      simp [execOp, ev_of hl hx, Instr.sliceAt, Instr.slice, run_underlying ht, Instr.sliceBounds, str_size] at e ⊢
      try simp [str, e]
    | some o =>
      obtain ⟨k, ho⟩ := hhi
      simp [execOp, ev_of hl hx, ev_of hl ho, Instr.sliceAt, Instr.slice, run_underlying ht, Instr.sliceBounds, Instr.sliceBound, asIntOf, str_size, h3, h2] at e ⊢
      simp [str, e]
  | some o' =>
    obtain ⟨k', ho'⟩ := hlo
    cases hi with
    | none =>
      simp only at hhi
      subst hhi
      simp [execOp, ev_of hl hx, ev_of hl ho', Instr.sliceAt, Instr.slice, run_underlying ht, Instr.sliceBounds, Instr.sliceBound, asIntOf, str_size, h0, h1] at e ⊢
      simp [str, e]
    | some o =>
      obtain ⟨k, ho⟩ := hhi
      simp [execOp, ev_of hl hx, ev_of hl ho, ev_of hl ho', Instr.sliceAt, Instr.slice, run_underlying ht, Instr.sliceBounds, Instr.sliceBound, asIntOf, str_size, h0, h1, h3, h2, h4] at e ⊢
      simp [str, e]
end
end
end Go.BK
