/- What the functions of the lower layers compute, as plain functions over lists of bytes, with their laws: no program and no memory. -/
import Derived.Test.YtodappgiadelaaaDoorMore
set_option linter.unusedVariables false
set_option linter.unusedSimpArgs false
namespace Go.BK
open Go.RowKit
/-- Room enough. -/
def Sml (n : Nat) : Prop := n ≤ 1099511627776
theorem Sml.le {n : Nat} (h : Sml n) : n ≤ 1099511627776 := h
theorem Sml.mono {m n : Nat} (h : Sml n) (hm : m ≤ n) : Sml m := Nat.le_trans hm h

/-! ### bytes -/
def lowc (c : UInt8) : UInt8 := if 65 ≤ c.toNat ∧ c.toNat ≤ 90 then c + 32 else c
def low (s : Bs) : Bs := s.map lowc
theorem low_length (s : Bs) : (low s).length = s.length := by simp [low]
def alike (a b : Bs) : Bool := decide (low a = low b)
@[reducible] def ch (c : UInt8) : Value := .int .u8 (c.toNat : Int)
def kCh : Kd UInt8 := ⟨1, fun c => [ch c], fun _ => rfl, by omega, fun x v hv => by simp at hv; subst hv; rfl⟩
theorem flat_ch (s : Bs) : s.flatMap kCh.enc = s.map ch := by
  induction s with
  | nil => rfl
  | cons c s ih => rw [List.flatMap_cons, ih]; rfl
theorem byteAt_get {s : Bs} {j : Nat} (h : j < s.length) : byteAt s j = (s[j].toNat : Int) := by
  simp [byteAt, List.getD_eq_getElem?_getD, List.getElem?_eq_getElem h]
theorem take_succ_get {α : Type} {s : List α} {j : Nat} (h : j < s.length) : s.take (j + 1) = s.take j ++ [s[j]] := by
  rw [List.take_succ_eq_append_getElem h]
theorem u8_toNat_lt (c : UInt8) : c.toNat < 256 := c.toNat_lt
theorem lowc_yes {c : UInt8} (h1 : 65 ≤ c.toNat) (h2 : c.toNat ≤ 90) : (lowc c).toNat = c.toNat + 32 := by
  unfold lowc
  rw [if_pos ⟨h1, h2⟩, UInt8.toNat_add]
  show (c.toNat + 32) % 256 = _
  omega
theorem lowc_no {c : UInt8} (h : ¬ (65 ≤ c.toNat ∧ c.toNat ≤ 90)) : lowc c = c := by unfold lowc; rw [if_neg h]
def isLetter (c : Int) : Bool := (decide (97 ≤ c) && decide (c ≤ 122)) || (decide (65 ≤ c) && decide (c ≤ 90))
def isDigit (c : Int) : Bool := decide (48 ≤ c) && decide (c ≤ 57)
def isMark (c : Int) : Bool := decide (c ∈ [33, 35, 36, 37, 38, 39, 42, 43, 45, 46, 94, 95, 96, 124, 126])
def tokc (c : Int) : Bool := isLetter c || isDigit c || isMark c
def token (s : Bs) : Bool := decide (s ≠ []) && s.all fun c => tokc (c.toNat : Int)
def isBlank (c : UInt8) : Bool := decide (c = 32) || decide (c = 9)
theorem u8_eq (c : UInt8) (m : Nat) (hm : m < 256) : c = UInt8.ofNat m ↔ (c.toNat : Int) = m := by
  rw [← UInt8.toNat_inj, UInt8.toNat_ofNat_of_lt' hm]; omega
theorem isBlank_int (c : UInt8) : isBlank c = (decide ((c.toNat : Int) = 32) || decide ((c.toNat : Int) = 9)) := by
  have h1 := u8_eq c 32 (by omega)
  have h2 := u8_eq c 9 (by omega)
  unfold isBlank
  congr 1 <;> rw [decide_eq_decide]
  · exact h1
  · exact h2
def trimL : Bs → Bs := List.dropWhile isBlank
def trim (s : Bs) : Bs := (trimL (trimL s).reverse).reverse
theorem dropWhile_drop {α : Type} {p : α → Bool} : ∀ {s : List α} {j : Nat}, (s.take j).all p = true → (∀ x, s[j]? = some x → p x = false) → s.dropWhile p = s.drop j
  | [], j, _, _ => by simp
  | x :: s, 0, _, h => by simp [h x (by simp)]
  | x :: s, j + 1, h, h' => by
    simp only [List.take_succ_cons, List.all_cons, Bool.and_eq_true] at h
    rw [List.dropWhile_cons_of_pos h.1, List.drop_succ_cons]
    exact dropWhile_drop h.2 (fun y hy => h' y (by simpa using hy))
theorem trim_of {s : Bs} {a b : Nat} (hab : a ≤ b) (hb : b ≤ s.length) (h1 : (s.take a).all isBlank = true) (h2 : a < b → ∀ x, s[a]? = some x → isBlank x = false) (h3 : (s.drop b).all isBlank = true) (h4 : a < b → ∀ x, s[b - 1]? = some x → isBlank x = false) :
    (s.drop a).take (b - a) = trim s := by
  rcases Nat.lt_or_ge a b with hlt | hge
  · have e1 : trimL s = s.drop a := dropWhile_drop h1 (h2 hlt)
    unfold trim
    rw [e1]
    have e2 : trimL (s.drop a).reverse = (s.drop a).reverse.drop (s.length - b) := by
      refine dropWhile_drop ?_ ?_
      · rw [List.take_reverse, List.all_reverse]
        have : (s.drop a).drop ((s.drop a).length - (s.length - b)) = s.drop b := by
          rw [List.drop_drop, List.length_drop]; congr 1; omega
        rw [this]; exact h3
      · intro x hx
        refine h4 hlt x ?_
        rw [List.getElem?_reverse (by simp; omega), List.length_drop, List.getElem?_drop] at hx
        rw [← hx]; congr 1; omega
    rw [e2, List.reverse_drop]
    simp only [List.reverse_reverse, List.length_reverse, List.length_drop]
    congr 1; omega
  · have : a = b := by omega
    subst this
    have hall : s.all isBlank = true := by
      rw [← List.take_append_drop a s, List.all_append, h1, h3]; rfl
    have e1 : trimL s = [] := by
      unfold trimL
      have : s.dropWhile isBlank = s.drop s.length := dropWhile_drop (by simpa using hall) (by simp)
      simpa using this
    show _ = (trimL (trimL s).reverse).reverse
    rw [e1]
    simp [trimL]
theorem trim_length (s : Bs) : (trim s).length ≤ s.length := by
  have h (l : Bs) : (trimL l).length ≤ l.length := (List.dropWhile_suffix _).length_le
  unfold trim
  have h1 := h s
  have h2 := h (trimL s).reverse
  simp at h2 ⊢; omega
def valc (c : UInt8) : Bool := !(decide (c.toNat = 127) || (decide (c.toNat < 32) && !decide (c.toNat = 9)))
def value (s : Bs) : Bool := s.all valc && decide (trim s = s)
theorem trim_self {s : Bs} (h : ∀ x, s.head? = some x → isBlank x = false) (h' : ∀ x, s.getLast? = some x → isBlank x = false) : trim s = s := by
  have := trim_of (s := s) (a := 0) (b := s.length) (by omega) (by omega) (by simp) (fun _ x hx => h x (by rw [List.head?_eq_getElem?]; exact hx)) (by simp) (fun _ x hx => h' x (by rw [List.getLast?_eq_getElem?]; exact hx))
  simpa using this.symm
theorem trim_head {s : Bs} (h : trim s = s) : ∀ x, s.head? = some x → isBlank x = false := by
  intro x hx
  cases hb : isBlank x with
  | false => rfl
  | true =>
    cases s with
    | nil => simp at hx
    | cons y s =>
      obtain rfl : y = x := by simpa using hx
      have h1 : (trim (y :: s)).length ≤ s.length := by
        unfold trim
        have e : trimL (y :: s) = trimL s := by unfold trimL; rw [List.dropWhile_cons_of_pos hb]
        rw [e]
        have h2 (l : Bs) : (trimL l).length ≤ l.length := (List.dropWhile_suffix _).length_le
        have h3 := h2 s
        have h4 := h2 (trimL s).reverse
        simp at h4 ⊢; omega
      rw [h] at h1; simp at h1; omega
theorem trim_last {s : Bs} (h : trim s = s) : ∀ x, s.getLast? = some x → isBlank x = false := by
  intro x hx
  have h2 (l : Bs) : (trimL l).length ≤ l.length := (List.dropWhile_suffix _).length_le
  have e : trimL s = s := by
    have h3 : (trim s).length ≤ (trimL s).length := by
      unfold trim
      have := h2 (trimL s).reverse
      simp at this ⊢; omega
    have h4 := h2 s
    rw [h] at h3
    exact (List.dropWhile_suffix _).eq_of_length (by unfold trimL at h3 h4; omega)
  unfold trim at h
  rw [e] at h
  have e2 : trimL s.reverse = s.reverse := by rw [← List.reverse_inj]; simpa using h
  cases hr : s.reverse with
  | nil => have : s = [] := by simpa using hr
           subst this; simp at hx
  | cons y r =>
    have hy : y = x := by
      have : s.reverse.head? = some x := by rw [List.head?_reverse]; exact hx
      rw [hr] at this; simpa using this
    subst hy
    cases hb : isBlank y with
    | false => rfl
    | true =>
      rw [hr] at e2
      unfold trimL at e2
      rw [List.dropWhile_cons_of_pos hb] at e2
      have h5 := h2 r
      unfold trimL at h5
      rw [e2] at h5; simp at h5; omega
theorem value_ends (s : Bs) : decide (trim s = s) = (decide (s.length = 0) || (!isBlank (s.getD 0 0) && !isBlank (s.getD (s.length - 1) 0))) := by
  rw [Bool.eq_iff_iff]
  simp only [decide_eq_true_eq, Bool.or_eq_true, Bool.and_eq_true, Bool.not_eq_true']
  constructor
  · intro h
    cases hs : s with
    | nil => exact .inl rfl
    | cons x r =>
      rw [← hs]
      refine .inr ⟨trim_head h _ ?_, trim_last h _ ?_⟩
      · rw [hs]; rfl
      · rw [List.getLast?_eq_getElem?, List.getD_eq_getElem?_getD]
        have : s.length - 1 < s.length := by rw [hs]; simp
        rw [List.getElem?_eq_getElem this]; rfl
  · rintro (h | ⟨h1, h2⟩)
    · obtain rfl := List.eq_nil_of_length_eq_zero h; rfl
    · refine trim_self (fun x hx => ?_) (fun x hx => ?_)
      · rw [List.head?_eq_getElem?] at hx
        rw [List.getD_eq_getElem?_getD, hx] at h1; exact h1
      · rw [List.getLast?_eq_getElem?] at hx
        rw [List.getD_eq_getElem?_getD, hx] at h2; exact h2
/-- What lies between the commas, trimmed, but for what is empty. -/
def splitC (sep : UInt8) : Bs → List Bs
  | [] => [[]]
  | c :: s => if c = sep then [] :: splitC sep s else match splitC sep s with
    | [] => [[c]]
    | x :: r => (c :: x) :: r
def elements (s : Bs) : List Bs := ((splitC 44 s).map trim).filter fun e => decide (e ≠ [])
def ne' (l : List Bs) : List Bs := l.filter fun e => decide (e ≠ [])
theorem splitC_snoc (sep : UInt8) : ∀ (l : Bs) (d : List Bs) (x : Bs) (c : UInt8), splitC sep l = d ++ [x] → splitC sep (l ++ [c]) = if c = sep then d ++ [x, []] else d ++ [x ++ [c]]
  | [], d, x, c, h => by
    have hd : d = [] ∧ x = [] := by
      cases d with
      | nil => simpa [splitC, eq_comm] using h
      | cons y d => simp [splitC] at h
    obtain ⟨rfl, rfl⟩ := hd
    by_cases hc : c = sep <;> simp [splitC, hc]
  | y :: l, d, x, c, h => by
    simp only [splitC] at h
    by_cases hy : y = sep
    · rw [if_pos hy] at h
      cases d with
      | nil =>
        exfalso
        have h1 : (splitC sep l).length = 0 := by have := congrArg List.length h; simpa using this
        have h2 : splitC sep l ≠ [] := by cases l with
          | nil => simp [splitC]
          | cons z l => simp only [splitC]; split <;> (try split) <;> simp
        exact h2 (List.eq_nil_of_length_eq_zero h1)
      | cons d0 d =>
        simp only [List.cons_append, List.cons.injEq] at h
        obtain ⟨rfl, h⟩ := h
        have ih := splitC_snoc sep l d x c h
        rw [List.cons_append, splitC, if_pos hy, ih]
        split <;> simp
    · rw [if_neg hy] at h
      have hn : splitC sep l ≠ [] := by cases l with
        | nil => simp [splitC]
        | cons z l => simp only [splitC]; split <;> (try split) <;> simp
      cases hs : splitC sep l with
      | nil => exact absurd hs hn
      | cons z r =>
        rw [hs] at h
        simp only at h
        cases d with
        | nil =>
          simp only [List.nil_append, List.cons.injEq] at h
          obtain ⟨rfl, rfl⟩ := h
          have ih := splitC_snoc sep l [] z c hs
          rw [List.cons_append, splitC, if_neg hy, ih]
          by_cases hc : c = sep <;> simp [hc]
        | cons d0 d =>
          simp only [List.cons_append, List.cons.injEq] at h
          obtain ⟨rfl, rfl⟩ := h
          have ih := splitC_snoc sep l (z :: d) x c hs
          rw [List.cons_append, splitC, if_neg hy, ih]
          by_cases hc : c = sep <;> simp [hc]
theorem elements_eq (s : Bs) : elements s = ne' ((splitC 44 s).map trim) := rfl
theorem ne'_snoc (l : List Bs) (x : Bs) : ne' (l ++ [x]) = if x = [] then ne' l else ne' l ++ [x] := by
  unfold ne'
  rw [List.filter_append]
  by_cases h : x = [] <;> simp [h]
theorem flat_snoc {α : Type} (k : Kd α) (xs : List α) (x : α) : (xs ++ [x]).flatMap k.enc = xs.flatMap k.enc ++ k.enc x := by simp
def Okf (xs : List Fld) : Prop := Sml xs.length ∧ ∀ x ∈ xs, Sml x.1.length ∧ Sml x.2.length
theorem Okf.len {xs : List Fld} (h : Okf xs) : xs.length ≤ 1099511627776 := h.1
theorem Okf.at {xs : List Fld} (h : Okf xs) {j : Nat} {x : Fld} (hx : xs[j]? = some x) : Sml x.1.length ∧ Sml x.2.length := h.2 x (List.mem_of_getElem? hx)
theorem Okf.sub {xs ys : List Fld} (h : Okf xs) (hl : ys.length ≤ xs.length) (hs : ∀ y ∈ ys, y ∈ xs) : Okf ys := ⟨h.1.mono hl, fun y hy => h.2 y (hs y hy)⟩
/-! ### fields -/
def getF (l : List Fld) (name : Bs) : Bs × Nat := (((l.filter fun f => alike f.1 name).head?.map (·.2)).getD [], (l.filter fun f => alike f.1 name).length)
def allF (l : List Fld) (name : Bs) : List Bs := (l.filter fun f => alike f.1 name).map (·.2)
def removeF (l : List Fld) (name : Bs) : List Fld := l.filter fun f => !alike f.1 name
def setF (l : List Fld) (name value : Bs) : List Fld := removeF l name ++ [(name, value)]
def elemsF (l : List Fld) (name : Bs) : List Bs := (l.filter fun f => alike f.1 name).flatMap fun f => elements f.2
def hasF (l : List Fld) (name e : Bs) : Bool := (elemsF l name).any fun x => alike x e
theorem alike_comm (a b : Bs) : alike a b = alike b a := by unfold alike; rw [decide_eq_decide]; exact eq_comm
theorem filter_take_succ {α : Type} {p : α → Bool} {l : List α} {j : Nat} (h : j < l.length) : (l.take (j + 1)).filter p = (l.take j).filter p ++ if p l[j] then [l[j]] else [] := by
  rw [take_succ_get h, List.filter_append]
  cases hp : p l[j] <;> simp [hp]
theorem Okf.remove {xs : List Fld} (h : Okf xs) (name : Bs) : Okf (removeF xs name) := h.sub (List.length_filter_le _ _) fun y hy => (List.mem_filter.1 hy).1
theorem filter_yes {α : Type} {p : α → Bool} {l : List α} {j : Nat} (h : j < l.length) (hp : p l[j] = true) : (l.take (j + 1)).filter p = (l.take j).filter p ++ [l[j]] := by rw [filter_take_succ h, hp]; rfl
theorem filter_no {α : Type} {p : α → Bool} {l : List α} {j : Nat} (h : j < l.length) (hp : p l[j] = false) : (l.take (j + 1)).filter p = (l.take j).filter p := by rw [filter_take_succ h, hp]; simp
theorem all_take_succ {α : Type} {p : α → Bool} {s : List α} {j : Nat} (h : j < s.length) (ha : (s.take j).all p = true) (hp : p s[j] = true) : (s.take (j + 1)).all p = true := by
  rw [take_succ_get h, List.all_append]; simp [ha, hp]
theorem all_no {α : Type} {p : α → Bool} {s : List α} {j : Nat} (h : j < s.length) (hp : p s[j] = false) : s.all p = false := by
  rw [Bool.eq_false_iff]
  intro hh
  rw [List.all_eq_true] at hh
  have := hh s[j] (List.getElem_mem h)
  rw [hp] at this; cases this
theorem u8_range (c : UInt8) : 0 ≤ (c.toNat : Int) ∧ (c.toNat : Int) ≤ 255 := by have := c.toNat_lt; omega
end Go.BK
