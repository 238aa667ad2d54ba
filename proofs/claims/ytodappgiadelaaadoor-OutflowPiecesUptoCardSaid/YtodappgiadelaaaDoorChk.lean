/- The reader of bodies in chunks, as a plain machine: no program and no memory. -/
import Derived.Test.YtodappgiadelaaaDoorHttp
set_option linter.unusedVariables false
set_option linter.unusedSimpArgs false
namespace Go.BK
open Go.RowKit
structure Dec where
  most : Int
  size : Nat
  state : Int
  left : Nat
  line : Bs
  cr : Bool
  trail : Nat
  err : Int
def Dec.new (most : Int) : Dec := ⟨most, 0, 0, 0, [], false, 0, 0⟩
def bndP (s : Int) : Nat := if s = 0 then 64 else if s = 3 then 512 else 0
def extc (c : UInt8) : Bool := decide (c = 9) || (decide (32 ≤ c.toNat) && decide (c.toNat ≤ 126))
def sizOk (l : Bs) : Bool := (hexP (cutP 59 l).1 8).2 && (cutP 59 l).2.1.all extc
def sizN (l : Bs) : Nat := (hexP (cutP 59 l).1 8).1
def sizP (d : Dec) (l : Bs) : Dec × Int :=
  if sizOk l = false then (d, 100)
  else if sizN l = 0 then ({ d with state := 3 }, 0)
  else if d.most - d.size < sizN l then (d, 101)
  else ({ d with state := 1, left := sizN l }, 0)
def wholeP (d : Dec) (l : Bs) : Dec × Int :=
  if d.state = 0 then sizP d l
  else if d.state = 2 then ({ d with state := 0 }, 0)
  else if l = [] then ({ d with state := 4 }, 0)
  else ({ d with trail := d.trail + 1 }, if (fldP l).2 ≠ 0 ∨ 32 < d.trail + 1 then 100 else 0)
def takeP (d : Dec) (c : UInt8) : Dec × Int :=
  if d.cr = true ∧ c = 10 then wholeP { d with line := [], cr := false } d.line
  else if d.cr = true ∨ c = 10 then (d, 100)
  else if c = 13 then ({ d with cr := true }, 0)
  else if bndP d.state ≤ d.line.length then (d, 100)
  else ({ d with line := d.line ++ [c] }, 0)
/-- One byte: what comes out, and the error. -/
def decB (d : Dec) (c : UInt8) : Dec × Bs × Int :=
  if d.state = 1 then ({ d with size := d.size + 1, left := d.left - 1, state := if d.left - 1 = 0 then 2 else 1 }, [c], 0)
  else ({ (takeP d c).1 with err := (takeP d c).2 }, [], (takeP d c).2)
def feedG : Dec → Nat → Bs → Bs → Dec × (Bs × Nat × Bool × Int)
  | d, n, out, [] => (d, (out, n, decide (d.state = 4), 0))
  | d, n, out, c :: r => if d.state = 4 then (d, (out, n, true, 0)) else if (decB d c).2.2 = 0 then feedG (decB d c).1 (n + 1) (out ++ (decB d c).2.1) r else ((decB d c).1, ([], 0, false, (decB d c).2.2))
def feedP (d : Dec) (s : Bs) : Dec × (Bs × Nat × Bool × Int) := if d.err = 0 then feedG d 0 [] s else (d, ([], 0, false, d.err))
/-- What is kept between bytes. -/
structure OkD (d : Dec) : Prop where
  most : I64 d.most
  room : (d.state = 1 → (d.size + d.left : Int) ≤ d.most ∧ 0 < d.left) ∧ ((d.size : Int) ≤ d.most ∨ d.size = 0)
  line : d.line.length ≤ 512
  trail : d.trail ≤ 32
  err : d.err = 0
theorem OkD.new {m : Int} (h : I64 m) : OkD (Dec.new m) := ⟨h, ⟨fun h => by simp [Dec.new] at h, .inr rfl⟩, by simp [Dec.new], by simp [Dec.new], rfl⟩
theorem hexP_lt (s : Bs) : (hexP s 8).1 < 4294967296 := by
  unfold hexP
  split
  · simp
  · rename_i h1
    split
    · rename_i h2
      have h3 := hexV_bound s h2
      have h4 : s.length ≤ 8 := by
        simp only [not_or] at h1
        have := h1.2
        omega
      have h5 : 16 ^ s.length ≤ 16 ^ 8 := Nat.pow_le_pow_right (by omega) h4
      exact Nat.lt_of_lt_of_le h3 (by simpa using h5)
    · simp
theorem sizP_line (d : Dec) (l : Bs) : (sizP d l).1.line = d.line := by
  unfold sizP
  split
  · rfl
  · split
    · rfl
    · split <;> rfl
theorem wholeP_line (d : Dec) (l : Bs) : (wholeP d l).1.line = d.line := by
  unfold wholeP
  split
  · exact sizP_line d l
  · split
    · rfl
    · split <;> rfl
def bulkD (d : Dec) (k : Nat) : Dec := { d with size := d.size + k, left := d.left - k, state := if d.left - k = 0 then 2 else 1 }
theorem bndP_le (s : Int) : bndP s ≤ 512 := by unfold bndP; split <;> (try split) <;> omega
theorem sizP_ok {d : Dec} (h : OkD d) (l : Bs) (he : (sizP d l).2 = 0) : OkD (sizP d l).1 := by
  unfold sizP at *
  split at he
  · cases he
  · rename_i h1
    rw [if_neg h1]
    split at he
    · rename_i h2
      rw [if_pos h2]
      exact ⟨h.most, ⟨(fun h9 => by simp at h9), h.room.2⟩, h.line, h.trail, h.err⟩
    · rename_i h2
      rw [if_neg h2]
      split at he
      · cases he
      · rename_i h3
        rw [if_neg h3]
        refine ⟨h.most, ⟨fun _ => ⟨by dsimp only; omega, by dsimp only; omega⟩, h.room.2⟩, h.line, h.trail, h.err⟩
theorem wholeP_ok {d : Dec} (h : OkD d) (l : Bs) (he : (wholeP d l).2 = 0) : OkD (wholeP d l).1 := by
  unfold wholeP at *
  split at he
  · rename_i h1
    rw [if_pos h1]; exact sizP_ok h l he
  · rename_i h1
    rw [if_neg h1]
    split at he
    · rename_i h2
      rw [if_pos h2]
      exact ⟨h.most, ⟨(fun h9 => by simp at h9), h.room.2⟩, h.line, h.trail, h.err⟩
    · rename_i h2
      rw [if_neg h2]
      split at he
      · rename_i h3
        rw [if_pos h3]
        exact ⟨h.most, ⟨(fun h9 => by simp at h9), h.room.2⟩, h.line, h.trail, h.err⟩
      · rename_i h3
        rw [if_neg h3]
        dsimp only at he
        split at he
        · cases he
        · rename_i h4
          simp only [not_or] at h4
          exact ⟨h.most, h.room, h.line, by dsimp only; omega, h.err⟩
theorem takeP_ok {d : Dec} (h : OkD d) (c : UInt8) (he : (takeP d c).2 = 0) : OkD (takeP d c).1 := by
  unfold takeP at *
  split at he
  · rename_i h1
    rw [if_pos h1]
    exact wholeP_ok (d := { d with line := [], cr := false }) ⟨h.most, h.room, Nat.zero_le _, h.trail, h.err⟩ _ he
  · rename_i h1
    rw [if_neg h1]
    split at he
    · cases he
    · rename_i h2
      rw [if_neg h2]
      split at he
      · rename_i h3
        rw [if_pos h3]
        exact ⟨h.most, h.room, h.line, h.trail, h.err⟩
      · rename_i h3
        rw [if_neg h3]
        split at he
        · cases he
        · rename_i h4
          rw [if_neg h4]
          have := bndP_le d.state
          exact ⟨h.most, h.room, by simp; omega, h.trail, h.err⟩
theorem decB_ok {d : Dec} (h : OkD d) (c : UInt8) (he : (decB d c).2.2 = 0) : OkD (decB d c).1 := by
  unfold decB at *
  split at he
  · rename_i h1
    rw [if_pos h1]
    have h2 := h.room.1 h1
    refine ⟨h.most, ⟨fun h3 => ?_, .inl (by dsimp only; omega)⟩, h.line, h.trail, h.err⟩
    dsimp only at h3 ⊢
    split at h3
    · cases h3
    · omega
  · rename_i h1
    rw [if_neg h1]
    have h2 := takeP_ok h c he
    exact ⟨h2.most, h2.room, h2.line, h2.trail, he⟩
theorem feedG_ok : ∀ {s : Bs} {d : Dec} {n : Nat} {out : Bs}, OkD d → (feedG d n out s).2.2.2.2 = 0 → OkD (feedG d n out s).1
  | [], d, n, out, h, _ => h
  | c :: r, d, n, out, h, he => by
    rw [feedG] at he ⊢
    split at he
    · rename_i h1
      rw [if_pos h1]; exact h
    · rename_i h1
      rw [if_neg h1]
      split at he
      · rename_i h2
        rw [if_pos h2]
        exact feedG_ok (decB_ok h c h2) he
      · rename_i h2
        exact absurd he h2
theorem feedP_ok {s : Bs} {d : Dec} (h : OkD d) (he : (feedP d s).2.2.2.2 = 0) : OkD (feedP d s).1 := by
  unfold feedP at *
  rw [if_pos h.err] at *
  exact feedG_ok h he
/-- Bytes of a chunk, in bulk. -/
theorem feedG_bulk : ∀ (k : Nat) {d : Dec} {n : Nat} {out r : Bs}, d.state = 1 → k + 1 ≤ d.left → k + 1 ≤ r.length →
    feedG d n out r = feedG { d with size := d.size + (k + 1), left := d.left - (k + 1), state := if d.left - (k + 1) = 0 then 2 else 1 } (n + (k + 1)) (out ++ r.take (k + 1)) (r.drop (k + 1))
  | 0, d, n, out, c :: r, h1, h2, h3 => by
    rw [feedG, if_neg (by omega), if_pos (by unfold decB; rw [if_pos h1])]
    unfold decB
    rw [if_pos h1]
    rfl
  | k + 1, d, n, out, c :: r, h1, h2, h3 => by
    rw [feedG, if_neg (by omega), if_pos (by unfold decB; rw [if_pos h1])]
    have e : decB d c = ({ d with size := d.size + 1, left := d.left - 1, state := 1 }, [c], 0) := by
      unfold decB
      rw [if_pos h1, if_neg (by omega)]
    rw [e]
    dsimp only
    rw [feedG_bulk k (d := { d with size := d.size + 1, left := d.left - 1, state := 1 }) rfl (by dsimp only; omega) (by simp at h3; omega)]
    dsimp only
    rw [List.take_succ_cons, List.drop_succ_cons, List.append_assoc]
    simp only [show d.size + 1 + (k + 1) = d.size + (k + 1 + 1) by omega, show d.left - 1 - (k + 1) = d.left - (k + 1 + 1) by omega, show n + 1 + (k + 1) = n + (k + 1 + 1) by omega]
    rfl
  | _, _, _, _, [], _, _, h3 => by simp at h3
theorem feedG_bulkD {k : Nat} {d : Dec} {n : Nat} {out r : Bs} (h0 : 0 < k) (h1 : d.state = 1) (h2 : k ≤ d.left) (h3 : k ≤ r.length) : feedG d n out r = feedG (bulkD d k) (n + k) (out ++ r.take k) (r.drop k) := by
  obtain ⟨k, rfl⟩ : ∃ j, k = j + 1 := ⟨k - 1, by omega⟩
  exact feedG_bulk k h1 h2 h3
theorem bulkD_ok {d : Dec} (h : OkD d) {k : Nat} (h0 : 0 < k) (h1 : d.state = 1) (h2 : k ≤ d.left) : OkD (bulkD d k) := by
  have h3 := h.room.1 h1
  refine ⟨h.most, ⟨fun h4 => ?_, .inl (by simp only [bulkD]; omega)⟩, h.line, h.trail, h.err⟩
  simp only [bulkD] at h4 ⊢
  split at h4
  · cases h4
  · omega
theorem feedG_at {d : Dec} {n : Nat} {out s : Bs} {j : Nat} (h : j < s.length) (h4 : d.state ≠ 4) : feedG d n out (s.drop j) = if (decB d s[j]).2.2 = 0 then feedG (decB d s[j]).1 (n + 1) (out ++ (decB d s[j]).2.1) (s.drop (j + 1)) else ((decB d s[j]).1, ([], 0, false, (decB d s[j]).2.2)) := by
  rw [List.drop_eq_getElem_cons h, feedG, if_neg h4]
theorem feedG_done {d : Dec} {n : Nat} {out s : Bs} {j : Nat} (h : j < s.length → d.state = 4) : feedG d n out (s.drop j) = (d, (out, n, decide (d.state = 4), 0)) := by
  rcases Nat.lt_or_ge j s.length with h1 | h1
  · rw [List.drop_eq_getElem_cons h1, feedG, if_pos (h h1)]
    simp [h h1]
  · rw [List.drop_eq_nil_of_le h1, feedG]
theorem decB_take {d : Dec} (h : d.state ≠ 1) (c : UInt8) : decB d c = ({ (takeP d c).1 with err := (takeP d c).2 }, [], (takeP d c).2) := by
  unfold decB; rw [if_neg h]
theorem extc_byte {s : Bs} {j : Nat} (h : j < s.length) : extc s[j] = (decide (byteAt s j = 9) || (decide (32 ≤ byteAt s j) && decide (byteAt s j ≤ 126))) := by
  have e := u8_eq s[j] 9 (by omega)
  unfold extc
  rw [byteAt_get h]
  congr 1
  · rw [decide_eq_decide]; exact e
  · congr 1 <;> rw [decide_eq_decide] <;> omega
theorem all_succ {α : Type} {p : α → Bool} {s : List α} {j : Nat} (h : j < s.length) : (s.take (j + 1)).all p = ((s.take j).all p && p s[j]) := by
  rw [take_succ_get h, List.all_append]; simp
theorem feedG_n : ∀ {s : Bs} {d : Dec} {n : Nat} {out : Bs}, (feedG d n out s).2.2.1 ≤ n + s.length
  | [], d, n, out => by simp [feedG]
  | c :: r, d, n, out => by
    rw [feedG]
    split
    · simp
    · split
      · refine Nat.le_trans feedG_n ?_
        simp only [List.length_cons]; omega
      · simp
theorem feedP_n (d : Dec) (s : Bs) : (feedP d s).2.2.1 ≤ s.length := by
  unfold feedP
  split
  · exact Nat.le_trans feedG_n (by omega)
  · simp
end Go.BK
