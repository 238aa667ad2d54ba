/- The reader of responses, as a plain machine: no program and no memory. -/
import Derived.Test.YtodappgiadelaaaDoorChk
set_option linter.unusedVariables false
set_option linter.unusedSimpArgs false
namespace Go.BK
open Go.RowKit
def respR (data : Bs) : Except Int (Hd × List Fld × Nat) := hdR statP 0 data
/-! ### what a head has -/
theorem lnG_le {m : Nat} {o : Int} : ∀ {t : Bs} {i n : Nat}, lnG m o i t = .ok n → i ≤ m → n ≤ m
  | [], _, _, h, _ => by simp [lnG] at h
  | c :: r, i, n, h, hi => by
    rw [lnG.eq_def] at h
    dsimp only at h
    split at h
    · cases h
    · split at h
      · split at h
        · cases h
        · split at h
          · cases h
            exact hi
          · cases h
      · split at h
        · cases h
        · exact lnG_le h (by omega)
theorem lnG_fit {m : Nat} {o : Int} : ∀ {t : Bs} {i n : Nat}, lnG m o i t = .ok n → i ≤ n ∧ n - i + 2 ≤ t.length
  | [], _, _, h => by simp [lnG] at h
  | c :: r, i, n, h => by
    rw [lnG.eq_def] at h
    dsimp only at h
    split at h
    · cases h
    · split at h
      · split at h
        · cases h
        · split at h
          · cases h
            simp
          · cases h
      · split at h
        · cases h
        · obtain ⟨h1, h2⟩ := lnG_fit h
          simp only [List.length_cons]
          omega
theorem cutP_short (sep : UInt8) (s : Bs) : (cutP sep s).1.length ≤ s.length ∧ (cutP sep s).2.1.length ≤ s.length := by
  unfold cutP
  split
  · refine ⟨(List.takeWhile_sublist _).length_le, ?_⟩
    rw [List.length_drop]
    have := (List.dropWhile_sublist (l := s) (fun c => decide (c ≠ sep))).length_le
    omega
  · exact ⟨Nat.le_refl _, Nat.zero_le _⟩
theorem trim_short (s : Bs) : (trim s).length ≤ s.length := by
  unfold trim trimL
  rw [List.length_reverse]
  refine Nat.le_trans (List.dropWhile_sublist _).length_le ?_
  rw [List.length_reverse]
  exact (List.dropWhile_sublist _).length_le
theorem fldP_short (l : Bs) : (fldP l).1.1.length ≤ l.length ∧ (fldP l).1.2.length ≤ l.length := by
  obtain ⟨h1, h2⟩ := cutP_short 58 l
  have h3 := trim_short (cutP 58 l).2.1
  unfold fldP
  split
  · exact ⟨h1, by dsimp only; omega⟩
  · simp
def Shf (fs : List Fld) : Prop := ∀ f ∈ fs, f.1.length ≤ 512 ∧ f.2.length ≤ 512
theorem rdF_got : ∀ {k a : Nat} {fs : List Fld} {r : Bs} {x : List Fld × Nat}, rdF k a fs r = .ok x → Shf fs → Shf x.1 ∧ x.1.length + 1 ≤ fs.length + k ∧ a + 2 ≤ x.2 ∧ x.2 ≤ a + r.length
  | 0, _, _, _, _, h, _ => by simp [rdF] at h
  | k + 1, a, fs, r, x, h, hs => by
    rw [rdF] at h
    split at h
    · cases h
    · rename_i n hn
      have hl := lnG_le hn (by omega)
      obtain ⟨_, hf⟩ := lnG_fit hn
      split at h
      · cases h
        exact ⟨hs, by simp, Nat.le_refl _, by dsimp only; omega⟩
      · split at h
        · cases h
        · rename_i hk
          split at h
          · obtain ⟨h1, h2, h3, h4⟩ := rdF_got h (by
              intro f hf'
              rcases List.mem_append.1 hf' with hf' | hf'
              · exact hs f hf'
              · rw [List.mem_singleton] at hf'
                subst hf'
                obtain ⟨g1, g2⟩ := fldP_short (r.take n)
                rw [List.length_take] at g1 g2
                omega)
            rw [List.length_append, List.length_singleton] at h2
            rw [List.length_drop] at h4
            exact ⟨h1, by omega, by omega, by omega⟩
          · cases h
theorem hdR_got {first : Bs → Hd × Int} {a : Nat} {s : Bs} {h : Hd} {fs : List Fld} {n : Nat} (e : hdR first a s = .ok (h, fs, n)) : Shf fs ∧ fs.length ≤ 32 ∧ a + 4 ≤ n ∧ n ≤ a + s.length := by
  unfold hdR at e
  split at e
  · cases e
  · rename_i k hk
    obtain ⟨_, hf⟩ := lnG_fit hk
    split at e
    · split at e
      · cases e
      · rename_i x hx
        cases e
        obtain ⟨h1, h2, h3, h4⟩ := rdF_got hx (fun _ h => by simp at h)
        rw [List.length_drop] at h4
        simp at h2
        exact ⟨h1, by omega, by omega, by omega⟩
    · cases e
theorem decP_range (s : Bs) : 0 ≤ (decP s 15).1 ∧ (decP s 15).1 < 1000000000000000 := by
  unfold decP
  split
  · simp
  · rename_i h1
    split
    · rename_i h2
      obtain ⟨h3, h4⟩ := decV_bound s h2
      refine ⟨h3, Int.lt_of_lt_of_le h4 ?_⟩
      have h5 : s.length ≤ 15 := by
        simp only [not_or] at h1
        have := h1.2
        omega
      have : (10 : Nat) ^ s.length ≤ 10 ^ 15 := Nat.pow_le_pow_right (by omega) h5
      have e : ((10 ^ s.length : Nat) : Int) = (10 : Int) ^ s.length := by simp
      rw [← e]
      have e2 : (10 : Nat) ^ 15 = 1000000000000000 := by decide
      omega
    · simp
theorem lenG_range : ∀ {ps : List Bs} {n : Int} {b : Bool} {m : Int}, lenG n b ps = some m → 0 ≤ n ∧ n < 1000000000000000 → 0 ≤ m ∧ m < 1000000000000000
  | [], n, b, m, h, hn => by simp [lenG] at h; subst h; exact hn
  | p :: ps, n, b, m, h, hn => by
    rw [lenG] at h
    split at h
    · cases h
    · exact lenG_range h (decP_range _)
theorem lenP_range (fs : List Fld) : 0 ≤ (lenP fs).1 ∧ (lenP fs).1 < 1000000000000000 := by
  unfold lenP
  split
  · simp
  · rename_i n hn
    exact lenG_range hn (by omega)
theorem frR_len (m : Bs) (h : Hd) (fs : List Fld) : 0 ≤ (frR m h fs).1.2 ∧ (frR m h fs).1.2 < 1000000000000000 := by
  have h1 := lenP_range fs
  unfold frR
  repeat' split
  all_goals first | exact h1 | simp
/-! ### the reader -/
inductive Ph where
  | start | sized | chunked | rest | finish
  deriving DecidableEq
structure Rdr where
  meth : Bs
  buf : Bs
  closed : Bool
  ph : Ph
  head : Bool
  keep : Bool
  kind : Int
  len : Int
  left : Nat
  dec : Option Dec
  over : Bool
  ended : Bool
  err : Int
def Rdr.new (m : Bs) : Rdr := ⟨m, [], false, .start, false, false, 0, 0, 0, none, false, false, 0⟩
structure Pc where
  kind : Int
  h : Hd
  fs : List Fld
  data : Bs
@[reducible] def Pc.zero : Pc := ⟨0, Hd.zero, [], []⟩
@[reducible] def Pc.fin : Pc := ⟨3, Hd.zero, [], []⟩
@[reducible] def Pc.dat (d : Bs) : Pc := ⟨2, Hd.zero, [], d⟩
abbrev RO := Rdr × Pc × Bool × Int
def finishP (r : Rdr) : RO := ({ r with ended := true }, Pc.fin, true, 0)
def takeR' (r : Rdr) (n : Nat) : RO := ({ r with buf := r.buf.drop n }, Pc.dat (r.buf.take n), true, 0)
def sizedP (r : Rdr) : RO :=
  if 0 < min r.left r.buf.length then takeR' { r with left := r.left - min r.left r.buf.length } (min r.left r.buf.length)
  else if r.left - min r.left r.buf.length = 0 then finishP { r with left := r.left - min r.left r.buf.length }
  else ({ r with left := r.left - min r.left r.buf.length }, Pc.zero, false, 0)
def restP (r : Rdr) : RO := if r.buf ≠ [] then takeR' r r.buf.length else if r.closed = true then finishP r else (r, Pc.zero, false, 0)
def chunkP (r : Rdr) (d : Dec) : RO :=
  if r.over = true then finishP r
  else if (feedP d r.buf).2.2.2.2 ≠ 0 then ({ r with dec := some (feedP d r.buf).1 }, Pc.zero, false, (feedP d r.buf).2.2.2.2)
  else if (feedP d r.buf).2.1 ≠ [] then ({ r with dec := some (feedP d r.buf).1, buf := r.buf.drop (feedP d r.buf).2.2.1, over := (feedP d r.buf).2.2.2.1 }, Pc.dat (feedP d r.buf).2.1, true, 0)
  else if (feedP d r.buf).2.2.2.1 = true then finishP { r with dec := some (feedP d r.buf).1, buf := r.buf.drop (feedP d r.buf).2.2.1, over := (feedP d r.buf).2.2.2.1 }
  else ({ r with dec := some (feedP d r.buf).1, buf := r.buf.drop (feedP d r.buf).2.2.1, over := (feedP d r.buf).2.2.2.1 }, Pc.zero, false, 0)
def phOf (k : Int) : Ph := if k = 2 then .sized else if k = 3 then .chunked else if k = 4 then .rest else .finish
def begun (r : Rdr) (h : Hd) (fs : List Fld) (n : Nat) : Rdr :=
  { r with buf := r.buf.drop n, head := true, kind := (frR r.meth h fs).1.1, len := (frR r.meth h fs).1.2, keep := keepP h fs, ph := phOf (frR r.meth h fs).1.1,
           left := if (frR r.meth h fs).1.1 = 2 then (frR r.meth h fs).1.2.toNat else r.left, dec := if (frR r.meth h fs).1.1 = 3 then some (Dec.new 1099511627776) else r.dec }
def startP : Nat → Rdr → RO
  | 0, r => (r, Pc.zero, false, 0)
  | k + 1, r => match respR r.buf with
    | .error e => (r, Pc.zero, false, e)
    | .ok (h, fs, n) => if (frR r.meth h fs).2 ≠ 0 then (r, Pc.zero, false, (frR r.meth h fs).2)
      else if h.status < 200 ∧ h.status ≠ 101 then startP k { r with buf := r.buf.drop n }
      else (begun r h fs n, ⟨1, h, fs, []⟩, true, 0)
def stepR (r : Rdr) : RO := match r.ph with
  | .start => startP (r.buf.length + 1) r
  | .sized => sizedP r
  | .chunked => chunkP r (r.dec.getD (Dec.new 0))
  | .rest => restP r
  | .finish => finishP r
def shortE (r : Rdr) (ok : Bool) (e : Int) : Int := if (e = 0 ∧ ok = false) ∧ r.closed = true then 121 else e
def nextR (r : Rdr) : RO :=
  if r.ended = true ∨ r.err ≠ 0 then (r, Pc.zero, false, r.err)
  else ({ (stepR r).1 with err := shortE (stepR r).1 (stepR r).2.2.1 (stepR r).2.2.2 }, (stepR r).2.1, (stepR r).2.2.1, shortE (stepR r).1 (stepR r).2.2.1 (stepR r).2.2.2)
def feedR (r : Rdr) (s : Bs) : Rdr := if r.closed = true then r else { r with buf := r.buf ++ s }
def endR (r : Rdr) : Rdr := { r with closed := true }
def reusable (r : Rdr) : Bool := ((((r.ended && decide (r.kind ≠ 4)) && decide (r.kind ≠ 5)) && r.keep) && decide (r.buf = [])) && !r.closed
section
variable {r : Rdr} {h : Hd} {fs : List Fld} {n k : Nat}
theorem begun_2 (e : (frR r.meth h fs).1.1 = 2) : begun r h fs n = { r with buf := r.buf.drop n, head := true, kind := (frR r.meth h fs).1.1, len := (frR r.meth h fs).1.2, keep := keepP h fs, ph := .sized, left := (frR r.meth h fs).1.2.toNat } := by
  unfold begun phOf
  rw [if_pos e, if_pos e, if_neg (by rw [e]; decide)]
theorem begun_3 (e : (frR r.meth h fs).1.1 = 3) : begun r h fs n = { r with buf := r.buf.drop n, head := true, kind := (frR r.meth h fs).1.1, len := (frR r.meth h fs).1.2, keep := keepP h fs, ph := .chunked, dec := some (Dec.new 1099511627776) } := by
  unfold begun phOf
  rw [if_neg (by rw [e]; decide), if_pos e, if_neg (by rw [e]; decide), if_pos e]
theorem begun_4 (e : (frR r.meth h fs).1.1 = 4) : begun r h fs n = { r with buf := r.buf.drop n, head := true, kind := (frR r.meth h fs).1.1, len := (frR r.meth h fs).1.2, keep := keepP h fs, ph := .rest } := by
  unfold begun phOf
  rw [if_neg (by rw [e]; decide), if_neg (by rw [e]; decide), if_pos e, if_neg (by rw [e]; decide), if_neg (by rw [e]; decide)]
theorem begun_f (e2 : (frR r.meth h fs).1.1 ≠ 2) (e3 : (frR r.meth h fs).1.1 ≠ 3) (e4 : (frR r.meth h fs).1.1 ≠ 4) : begun r h fs n = { r with buf := r.buf.drop n, head := true, kind := (frR r.meth h fs).1.1, len := (frR r.meth h fs).1.2, keep := keepP h fs, ph := .finish } := by
  unfold begun phOf
  rw [if_neg e2, if_neg e3, if_neg e4, if_neg e2, if_neg e3]
theorem startP_err {e : Int} (hr : respR r.buf = .error e) : startP (k + 1) r = (r, Pc.zero, false, e) := by rw [startP, hr]
theorem startP_bad (hr : respR r.buf = .ok (h, fs, n)) (he : (frR r.meth h fs).2 ≠ 0) : startP (k + 1) r = (r, Pc.zero, false, (frR r.meth h fs).2) := by rw [startP, hr]; dsimp only; rw [if_pos he]
theorem startP_on (hr : respR r.buf = .ok (h, fs, n)) (he : (frR r.meth h fs).2 = 0) (hs : h.status < 200 ∧ h.status ≠ 101) : startP (k + 1) r = startP k { r with buf := r.buf.drop n } := by rw [startP, hr]; dsimp only; rw [if_neg (by rw [he]; simp), if_pos hs]
theorem startP_go (hr : respR r.buf = .ok (h, fs, n)) (he : (frR r.meth h fs).2 = 0) (hs : ¬ (h.status < 200 ∧ h.status ≠ 101)) : startP (k + 1) r = (begun r h fs n, ⟨1, h, fs, []⟩, true, 0) := by rw [startP, hr]; dsimp only; rw [if_neg (by rw [he]; simp), if_neg hs]
end
theorem sizedP_dec (r : Rdr) : (sizedP r).1.dec = r.dec ∧ (sizedP r).2.1.fs = [] := by
  unfold sizedP takeR' finishP
  split
  · exact ⟨rfl, rfl⟩
  · split <;> exact ⟨rfl, rfl⟩
theorem restP_dec (r : Rdr) : (restP r).1.dec = r.dec ∧ (restP r).2.1.fs = [] := by
  unfold restP takeR' finishP
  split
  · exact ⟨rfl, rfl⟩
  · split <;> exact ⟨rfl, rfl⟩
theorem chunkP_fs (r : Rdr) (d : Dec) : (chunkP r d).2.1.fs = [] := by
  unfold chunkP finishP
  repeat' split
  all_goals rfl
/-- The reader's memory is as it is meant. -/
structure OkR (r : Rdr) : Prop where
  buf : Sml r.buf.length
  left : r.left ≤ 1000000000000000
  start : r.ph = .start → r.dec = none
  chunk : r.ph = .chunked → r.dec.isSome = true
  dec : ∀ d, r.dec = some d → d.err = 0 → OkD d
theorem OkR.new {m : Bs} : OkR (Rdr.new m) := ⟨by simp [Rdr.new, Sml], by simp [Rdr.new], fun _ => rfl, fun h => by simp [Rdr.new] at h, fun d h => by simp [Rdr.new] at h⟩
end Go.BK
