/- What the readers of heads, framings and chunks compute, as plain functions over lists of bytes: no program and no memory. -/
import Derived.Test.YtodappgiadelaaaDoorSpec
set_option linter.unusedVariables false
set_option linter.unusedSimpArgs false
namespace Go.BK
open Go.RowKit
theorem snoc_ind {α : Type} {p : List α → Prop} (h0 : p []) (h1 : ∀ s c, p s → p (s ++ [c])) (s : List α) : p s := by
  rw [← List.reverse_reverse s]
  induction s.reverse with
  | nil => exact h0
  | cons c r ih => rw [List.reverse_cons]; exact h1 _ _ ih
/-! ### numbers -/
def digc (c : UInt8) : Bool := isDigit (c.toNat : Int)
def decV (s : Bs) : Int := s.foldl (fun n c => n * 10 + ((c.toNat : Int) - 48)) 0
def decP (s : Bs) (k : Int) : Int × Bool := if s = [] ∨ min k 18 < (s.length : Int) then (0, false) else if s.all digc then (decV s, true) else (0, false)
theorem decV_snoc (s : Bs) (c : UInt8) : decV (s ++ [c]) = decV s * 10 + ((c.toNat : Int) - 48) := by simp [decV]
theorem digc_range {c : UInt8} (h : digc c = true) : 48 ≤ (c.toNat : Int) ∧ (c.toNat : Int) ≤ 57 := by
  unfold digc isDigit at h
  simp only [Bool.and_eq_true, decide_eq_true_eq] at h
  exact h
theorem decV_bound (s : Bs) (h : s.all digc = true) : 0 ≤ decV s ∧ decV s < 10 ^ s.length := by
  revert h
  refine snoc_ind (p := fun s => s.all digc = true → 0 ≤ decV s ∧ decV s < 10 ^ s.length) (by simp [decV]) ?_ s
  · intro s c ih h
    rw [List.all_append] at h
    simp only [Bool.and_eq_true, List.all_cons, List.all_nil, Bool.and_true] at h
    obtain ⟨h1, h2⟩ := ih h.1
    have h3 := digc_range h.2
    rw [decV_snoc, List.length_append, List.length_cons, List.length_nil, Int.pow_succ]
    omega
theorem pow10_le {j : Nat} (h : j ≤ 18) : (10 : Int) ^ j ≤ 1000000000000000000 := by
  have : (10 : Nat) ^ j ≤ 10 ^ 18 := Nat.pow_le_pow_right (by omega) h
  have e : ((10 ^ j : Nat) : Int) = (10 : Int) ^ j := by simp
  rw [← e]; omega
def lowd (c : UInt8) : Nat := (c ||| 32).toNat
def hexc (c : UInt8) : Bool := digc c || (decide (97 ≤ lowd c) && decide (lowd c ≤ 102))
def hexd (c : UInt8) : Nat := if digc c then c.toNat - 48 else lowd c - 87
def hexV (s : Bs) : Nat := s.foldl (fun n c => n * 16 + hexd c) 0
def hexP (s : Bs) (k : Int) : Nat × Bool := if s = [] ∨ min k 15 < (s.length : Int) then (0, false) else if s.all hexc then (hexV s, true) else (0, false)
theorem hexV_snoc (s : Bs) (c : UInt8) : hexV (s ++ [c]) = hexV s * 16 + hexd c := by simp [hexV]
theorem hexd_lt {c : UInt8} (h : hexc c = true) : hexd c < 16 := by
  unfold hexd
  unfold hexc at h
  split
  · rename_i hd
    have := digc_range hd; omega
  · rename_i hd
    simp only [Bool.or_eq_true, Bool.and_eq_true, decide_eq_true_eq] at h
    rcases h with h | h
    · exact absurd h hd
    · omega
theorem hexV_bound (s : Bs) (h : s.all hexc = true) : hexV s < 16 ^ s.length := by
  revert h
  refine snoc_ind (p := fun s => s.all hexc = true → hexV s < 16 ^ s.length) (by simp [hexV]) ?_ s
  · intro s c ih h
    rw [List.all_append] at h
    simp only [Bool.and_eq_true, List.all_cons, List.all_nil, Bool.and_true] at h
    have h1 := ih h.1
    have h3 := hexd_lt h.2
    rw [hexV_snoc, List.length_append, List.length_cons, List.length_nil, Nat.pow_succ]
    omega
/-! ### a line -/
/-- The line that begins s, i bytes behind its head: where its end is; an error (0: it isn't whole). -/
def lnG (most : Nat) (over : Int) : Nat → Bs → Except Int Nat
  | _, [] => .error 0
  | i, c :: r => if c = 10 then .error 80 else if c = 13 then (match r with
      | [] => .error 0
      | d :: _ => if d = 10 then .ok i else .error 80) else if most ≤ i then .error over else lnG most over (i + 1) r
def lnL (r : Except Int Nat) (s : Bs) : Bs := match r with | .ok n => s.take n | .error _ => []
def lnW (r : Except Int Nat) : Bool := match r with | .ok _ => true | .error _ => false
def lnE (r : Except Int Nat) : Int := match r with | .ok _ => 0 | .error e => e
/-! ### heads -/
def litHTTP : Bs := [72, 84, 84, 80, 47]
def verP (s : Bs) : Int × Int :=
  if s.length ≠ 8 ∨ s.take 5 ≠ litHTTP ∨ byteAt s 6 ≠ 46 then (0, 80)
  else if (decP ((s.drop 5).take 1) 1).2 = false ∨ (decP (s.drop 7) 1).2 = false then (0, 80)
  else if (decP ((s.drop 5).take 1) 1).1 ≠ 1 then (0, 81) else ((decP (s.drop 7) 1).1, 0)
structure Hd where
  meth : Bs
  target : Bs
  status : Int
  reason : Bs
  minor : Int
def Hd.zero : Hd := ⟨[], [], 0, [], 0⟩
def statP (l : Bs) : Hd × Int :=
  if l.length < 12 ∨ byteAt l 8 ≠ 32 ∨ (12 < l.length ∧ byteAt l 12 ≠ 32) then (Hd.zero, 80)
  else if (decP ((l.drop 9).take 3) 3).2 = false ∨ (decP ((l.drop 9).take 3) 3).1 < 100 ∨ 599 < (decP ((l.drop 9).take 3) 3).1 then (Hd.zero, 80)
  else if (l.drop 13).all valc then (⟨[], [], (decP ((l.drop 9).take 3) 3).1, l.drop 13, (verP (l.take 8)).1⟩, (verP (l.take 8)).2) else (Hd.zero, 80)
def cutP (sep : UInt8) (s : Bs) : Bs × Bs × Bool := if sep ∈ s then (s.takeWhile (fun c => decide (c ≠ sep)), (s.dropWhile (fun c => decide (c ≠ sep))).drop 1, true) else (s, [], false)
def fldP (l : Bs) : Fld × Int := if (cutP 58 l).2.2 = true ∧ token (cutP 58 l).1 = true ∧ value (trim (cutP 58 l).2.1) = true then (((cutP 58 l).1, trim (cutP 58 l).2.1), 0) else (([], []), 70)
/-- The fields' lines, from 'at' on; k: how many may still come, and one. -/
def rdF : Nat → Nat → List Fld → Bs → Except Int (List Fld × Nat)
  | 0, _, _, _ => .error 83
  | k + 1, at', fs, r => match lnG 512 83 0 r with
    | .error e => .error e
    | .ok n => if n = 0 then .ok (fs, at' + 2) else if k = 0 then .error 83 else if (fldP (r.take n)).2 = 0 then rdF k (at' + n + 2) (fs ++ [(fldP (r.take n)).1]) (r.drop (n + 2)) else .error (fldP (r.take n)).2
/-- A head: read by its first line's reader. -/
def hdR (first : Bs → Hd × Int) (at' : Nat) (s : Bs) : Except Int (Hd × List Fld × Nat) := match lnG 1100 82 0 s with
  | .error e => .error e
  | .ok n => if (first (s.take n)).2 = 0 then (match rdF 33 (at' + n + 2) [] (s.drop (n + 2)) with
      | .error e => .error e
      | .ok r => .ok ((first (s.take n)).1, r.1, r.2)) else .error (first (s.take n)).2
/-! ### framings -/
def litCL : Bs := [67, 111, 110, 116, 101, 110, 116, 45, 76, 101, 110, 103, 116, 104]
def litTE : Bs := [84, 114, 97, 110, 115, 102, 101, 114, 45, 69, 110, 99, 111, 100, 105, 110, 103]
def litChunked : Bs := [99, 104, 117, 110, 107, 101, 100]
def litCONNECT : Bs := [67, 79, 78, 78, 69, 67, 84]
def litHEAD : Bs := [72, 69, 65, 68]
def litConn : Bs := [67, 111, 110, 110, 101, 99, 116, 105, 111, 110]
def litClose : Bs := [99, 108, 111, 115, 101]
def litKeep : Bs := [107, 101, 101, 112, 45, 97, 108, 105, 118, 101]
def isF (fs : List Fld) (nm : Bs) : Bool := decide (0 < (getF fs nm).2)
def codN (l : List Bs) : Nat := (l.filter fun e => alike e litChunked).length
def codLast (l : List Bs) : Bool := decide (codN l = 1) && alike (l.getD (l.length - 1) []) litChunked
def codP (fs : List Fld) : Bool × Bool := (codLast (elemsF fs litTE) && decide ((elemsF fs litTE).length = 1), codLast (elemsF fs litTE))
def lenG : Int → Bool → List Bs → Option Int
  | n, _, [] => some n
  | n, first, p :: ps => if (decP (trim p) 15).2 = false ∨ (first = false ∧ (decP (trim p) 15).1 ≠ n) then none else lenG (decP (trim p) 15).1 false ps
def lenPs (fs : List Fld) : List Bs := (fs.filter fun f => alike f.1 litCL).flatMap fun f => splitC 44 f.2
def lenP (fs : List Fld) : Int × Bool := match lenG 0 true (lenPs fs) with | none => (0, false) | some n => (n, true)
/-- (kind, length), error: of a response. -/
def frR (m : Bs) (h : Hd) (fs : List Fld) : (Int × Int) × Int :=
  if h.status = 101 ∨ (200 ≤ h.status ∧ h.status ≤ 299 ∧ h.status ≠ 204 ∧ m = litCONNECT) then ((5, 0), 0)
  else if (100 ≤ h.status ∧ h.status ≤ 199) ∨ h.status = 204 ∨ h.status = 304 ∨ m = litHEAD then ((1, 0), 0)
  else if isF fs litTE = true then (if h.minor = 0 ∨ isF fs litCL = true then ((0, 0), 90) else if (codP fs).1 = true then ((3, 0), 0) else ((0, 0), 91))
  else if isF fs litCL = true then (if (lenP fs).2 = true then ((2, (lenP fs).1), 0) else ((0, 0), 90))
  else ((4, 0), 0)
def keepP (h : Hd) (fs : List Fld) : Bool := !hasF fs litConn litClose && (decide (h.minor ≠ 0) || hasF fs litConn litKeep)
end Go.BK
