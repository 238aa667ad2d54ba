/- What is told of a response: draining, and that reading comes in pieces as at once: no program and no memory. -/
import Derived.Test.YtodappgiadelaaaDoorRdr
set_option linter.unusedVariables false
set_option linter.unusedSimpArgs false
namespace Go.BK
open Go.RowKit
/-! ### what stays right -/
theorem feedG_fit : ∀ {s : Bs} {d : Dec} {n : Nat} {out : Bs}, out.length ≤ n → (feedG d n out s).2.1.length ≤ (feedG d n out s).2.2.1
  | [], d, n, out, h => by simpa [feedG] using h
  | c :: r, d, n, out, h => by
    rw [feedG]
    split
    · exact h
    · split
      · refine feedG_fit ?_
        rw [List.length_append]
        unfold decB
        split
        · simp only [List.length_singleton]; omega
        · simp only [List.length_nil]; omega
      · simp
theorem feedP_fit (d : Dec) (s : Bs) : (feedP d s).2.1.length ≤ (feedP d s).2.2.1 := by
  unfold feedP
  split
  · exact feedG_fit (by simp)
  · simp
theorem feedG_bad : ∀ {s : Bs} {d : Dec} {n : Nat} {out : Bs}, OkD d → (feedG d n out s).2.2.2.2 ≠ 0 → (feedG d n out s).1.err = (feedG d n out s).2.2.2.2
  | [], d, n, out, h, he => by simp [feedG] at he
  | c :: r, d, n, out, h, he => by
    rw [feedG] at he ⊢
    split at he
    · exact absurd rfl he
    · rename_i h1
      rw [if_neg h1]
      split at he
      · rename_i h2
        rw [if_pos h2]
        exact feedG_bad (decB_ok h c h2) he
      · rename_i h2
        rw [if_neg h2]
        unfold decB at h2 ⊢
        split at h2
        · exact absurd rfl h2
        · rename_i h3
          rw [if_neg h3]
theorem feedP_bad {d : Dec} {s : Bs} (h : d.err = 0 → OkD d) (he : (feedP d s).2.2.2.2 ≠ 0) : (feedP d s).1.err = (feedP d s).2.2.2.2 := by
  unfold feedP at *
  split at he
  · rename_i h1
    rw [if_pos h1]
    exact feedG_bad (h h1) he
  · rename_i h1
    rw [if_neg h1]
theorem feedP_dec {d : Dec} {s : Bs} (h : d.err = 0 → OkD d) : (feedP d s).1.err = 0 → OkD (feedP d s).1 := by
  intro h1
  by_cases he : (feedP d s).2.2.2.2 = 0
  · by_cases h2 : d.err = 0
    · exact feedP_ok (h h2) he
    · unfold feedP at he
      rw [if_neg h2] at he
      exact absurd he h2
  · exact absurd ((feedP_bad h he).symm.trans h1) he
/-- What a step keeps. -/
structure Keeps (r : Rdr) (o : RO) : Prop where
  ok : OkR o.1
  fit : o.2.1.data.length + o.1.buf.length ≤ r.buf.length
theorem keeps_finish {r : Rdr} (h : OkR r) : Keeps r (finishP r) := ⟨⟨h.buf, h.left, h.start, h.chunk, h.dec⟩, by simp [finishP]⟩
theorem keeps_stay {r : Rdr} (h : OkR r) (e : Int) : Keeps r (r, Pc.zero, false, e) := ⟨h, by simp⟩
theorem keeps_take {r : Rdr} (h : OkR r) (n : Nat) : Keeps r (takeR' r n) := ⟨⟨h.buf.mono (by simp [takeR']), h.left, h.start, h.chunk, h.dec⟩, by simp [takeR']; omega⟩
theorem keeps_sized {r : Rdr} (h : OkR r) : Keeps r (sizedP r) := by
  have h' : OkR { r with left := r.left - min r.left r.buf.length } := ⟨h.buf, Nat.le_trans (Nat.sub_le _ _) h.left, h.start, h.chunk, h.dec⟩
  unfold sizedP
  split
  · obtain ⟨a, b⟩ := keeps_take h' (min r.left r.buf.length); exact ⟨a, b⟩
  · split
    · obtain ⟨a, b⟩ := keeps_finish h'; exact ⟨a, b⟩
    · exact ⟨h', by simp⟩
theorem keeps_rest {r : Rdr} (h : OkR r) : Keeps r (restP r) := by
  unfold restP
  split
  · exact keeps_take h _
  · split
    · exact keeps_finish h
    · exact keeps_stay h 0
theorem keeps_chunk {r : Rdr} (h : OkR r) {d : Dec} (hd : r.dec = some d) : Keeps r (chunkP r d) := by
  have hd9 := feedP_dec (s := r.buf) (h.dec d hd)
  have hn := feedP_n d r.buf
  have hf := feedP_fit d r.buf
  have h1 : OkR { r with dec := some (feedP d r.buf).1 } := ⟨h.buf, h.left, (fun hs => by have := h.start hs; rw [hd] at this; cases this), fun _ => rfl, (fun d' e => by cases e; exact hd9)⟩
  have h2 : OkR { r with dec := some (feedP d r.buf).1, buf := r.buf.drop (feedP d r.buf).2.2.1, over := (feedP d r.buf).2.2.2.1 } := ⟨h.buf.mono (by simp), h.left, h1.start, h1.chunk, h1.dec⟩
  unfold chunkP
  split
  · exact keeps_finish h
  · split
    · exact ⟨h1, by simp⟩
    · split
      · exact ⟨h2, by simp only [List.length_drop]; omega⟩
      · split
        · exact ⟨(keeps_finish h2).ok, by simp [finishP]⟩
        · exact ⟨h2, by simp⟩
theorem OkR.begun {r : Rdr} (h : OkR r) (hs : r.dec = none) (hd : Hd) (fs : List Fld) (n : Nat) : OkR (begun r hd fs n) := by
  have hl := frR_len r.meth hd fs
  have hb : Sml (r.buf.drop n).length := h.buf.mono (by simp)
  by_cases h2 : (frR r.meth hd fs).1.1 = 2
  · rw [begun_2 h2]
    exact ⟨hb, by dsimp only; omega, fun h => (by cases h), fun h => (by cases h), h.dec⟩
  · by_cases h3 : (frR r.meth hd fs).1.1 = 3
    · rw [begun_3 h3]
      exact ⟨hb, h.left, fun h => (by cases h), fun _ => rfl, (fun d e => by cases e; exact fun _ => OkD.new (by unfold I64; omega))⟩
    · by_cases h4 : (frR r.meth hd fs).1.1 = 4
      · rw [begun_4 h4]
        exact ⟨hb, h.left, fun h => (by cases h), fun h => (by cases h), h.dec⟩
      · rw [begun_f h2 h3 h4]
        exact ⟨hb, h.left, fun h => (by cases h), fun h => (by cases h), h.dec⟩
theorem keeps_start : ∀ {k : Nat} {r : Rdr}, OkR r → r.dec = none → Keeps r (startP k r)
  | 0, r, h, _ => keeps_stay h 0
  | k + 1, r, h, hd => by
    rcases hr : respR r.buf with e | ⟨h9, fs, n⟩
    · rw [startP_err hr]
      exact keeps_stay h e
    · by_cases h2 : (frR r.meth h9 fs).2 = 0
      · by_cases h3 : h9.status < 200 ∧ h9.status ≠ 101
        · rw [startP_on hr h2 h3]
          have h' : OkR { r with buf := r.buf.drop n } := ⟨h.buf.mono (by simp), h.left, h.start, h.chunk, h.dec⟩
          obtain ⟨a, b⟩ := keeps_start (k := k) h' hd
          exact ⟨a, Nat.le_trans b (by simp)⟩
        · rw [startP_go hr h2 h3]
          refine ⟨h.begun hd h9 fs n, ?_⟩
          simp [begun]
      · rw [startP_bad hr h2]
        exact keeps_stay h _
theorem keeps_step {r : Rdr} (h : OkR r) : Keeps r (stepR r) := by
  unfold stepR
  rcases hp : r.ph with _ | _ | _ | _ | _
  · exact keeps_start h (h.start hp)
  · exact keeps_sized h
  · obtain ⟨d, hd⟩ := Option.isSome_iff_exists.1 (h.chunk hp)
    rw [hd]
    exact keeps_chunk h hd
  · exact keeps_rest h
  · exact keeps_finish h
theorem keeps_next {r : Rdr} (h : OkR r) : Keeps r (nextR r) := by
  unfold nextR
  split
  · exact keeps_stay h _
  · obtain ⟨a, b⟩ := keeps_step h
    exact ⟨⟨a.buf, a.left, a.start, a.chunk, a.dec⟩, b⟩
theorem nextR_err (r : Rdr) : (nextR r).2.2.2 = (nextR r).1.err := by
  unfold nextR
  split <;> rfl
theorem feedR_ok {r : Rdr} (h : OkR r) {s : Bs} (hs : Sml (r.buf.length + s.length)) : OkR (feedR r s) := by
  unfold feedR
  split
  · exact h
  · exact ⟨by simpa using hs, h.left, h.start, h.chunk, h.dec⟩
theorem feedR_dec (r : Rdr) (s : Bs) : (feedR r s).dec = r.dec := by unfold feedR; split <;> rfl
theorem feedR_err (r : Rdr) (s : Bs) : (feedR r s).err = r.err := by unfold feedR; split <;> rfl
theorem feedR_len (r : Rdr) (s : Bs) : (feedR r s).buf.length ≤ r.buf.length + s.length := by unfold feedR; split <;> simp
theorem endR_ok {r : Rdr} (h : OkR r) : OkR (endR r) := ⟨h.buf, h.left, h.start, h.chunk, h.dec⟩
/-! ### what is told -/
structure Tl where
  r : Rdr
  st : Int
  body : Bs
def drainK : Nat → Tl → Option Tl
  | 0, _ => none
  | k + 1, t => if (nextR t.r).2.2.1 = false then some { t with r := (nextR t.r).1 }
    else if (nextR t.r).2.1.kind = 1 then drainK k ⟨(nextR t.r).1, (nextR t.r).2.1.h.status, t.body⟩
    else if (nextR t.r).2.1.kind = 2 then (if (nextR t.r).2.1.data = [] then none else drainK k ⟨(nextR t.r).1, t.st, t.body ++ (nextR t.r).2.1.data⟩)
    else drainK k { t with r := (nextR t.r).1 }
def shC (c : Bool) : Int := if c = true then 121 else 0
def chB (t : Tl) (d : Dec) : Tl :=
  if t.r.over = true then { t with r := { t.r with ended := true, err := 0 } }
  else if (feedP d t.r.buf).2.2.2.2 ≠ 0 then { t with r := { t.r with dec := some (feedP d t.r.buf).1, err := (feedP d t.r.buf).2.2.2.2 } }
  else ⟨{ t.r with dec := some (feedP d t.r.buf).1, buf := t.r.buf.drop (feedP d t.r.buf).2.2.1, over := (feedP d t.r.buf).2.2.2.1, ended := (feedP d t.r.buf).2.2.2.1, err := if (feedP d t.r.buf).2.2.2.1 = true then 0 else shC t.r.closed }, t.st, t.body ++ (feedP d t.r.buf).2.1⟩
def szB (t : Tl) : Tl :=
  ⟨{ t.r with left := t.r.left - min t.r.left t.r.buf.length, buf := t.r.buf.drop (min t.r.left t.r.buf.length), ended := decide (t.r.left - min t.r.left t.r.buf.length = 0), err := if t.r.left - min t.r.left t.r.buf.length = 0 then 0 else shC t.r.closed }, t.st, t.body ++ t.r.buf.take (min t.r.left t.r.buf.length)⟩
def bodyB (t : Tl) : Tl := match t.r.ph with
  | .start => t
  | .sized => szB t
  | .chunked => chB t (t.r.dec.getD (Dec.new 0))
  | .rest => ⟨{ t.r with buf := [], ended := t.r.closed, err := 0 }, t.st, t.body ++ t.r.buf⟩
  | .finish => { t with r := { t.r with ended := true, err := 0 } }
def stB (t : Tl) (o : RO) : Tl := if o.2.2.1 = true then bodyB ⟨o.1, o.2.1.h.status, t.body⟩ else { t with r := { o.1 with err := shortE o.1 false o.2.2.2 } }
def settleT (t : Tl) : Tl :=
  if t.r.ended = true ∨ t.r.err ≠ 0 then t
  else if t.r.ph = .start then stB t (startP (t.r.buf.length + 1) t.r) else bodyB t
def feedT (t : Tl) (s : Bs) : Tl := { t with r := feedR t.r s }
def endT (t : Tl) : Tl := { t with r := endR t.r }
/-! ### draining comes to this -/
section
variable {t : Tl} {k : Nat}
theorem drain_no (h : (nextR t.r).2.2.1 = false) : drainK (k + 1) t = some { t with r := (nextR t.r).1 } := by rw [drainK, if_pos h]
theorem drain_dead (h : t.r.ended = true ∨ t.r.err ≠ 0) : drainK (k + 1) t = some t := by
  have e : nextR t.r = (t.r, Pc.zero, false, t.r.err) := by unfold nextR; rw [if_pos h]
  rw [drain_no (by rw [e]), e]
theorem next_of (h : ¬ (t.r.ended = true ∨ t.r.err ≠ 0)) : nextR t.r = ({ (stepR t.r).1 with err := shortE (stepR t.r).1 (stepR t.r).2.2.1 (stepR t.r).2.2.2 }, (stepR t.r).2.1, (stepR t.r).2.2.1, shortE (stepR t.r).1 (stepR t.r).2.2.1 (stepR t.r).2.2.2) := by
  unfold nextR; rw [if_neg h]
theorem drain_fin (h : ¬ (t.r.ended = true ∨ t.r.err ≠ 0)) {r' : Rdr} (e : stepR t.r = (r', Pc.fin, true, 0)) (he : r'.ended = true) : drainK (k + 2) t = some { t with r := { r' with err := 0 } } := by
  have e1 := next_of h
  rw [e] at e1
  have e2 : shortE r' true 0 = 0 := by unfold shortE; rw [if_neg (by simp)]
  dsimp only at e1
  rw [e2] at e1
  rw [drainK, e1]
  dsimp only
  rw [if_neg (by simp), if_neg (by decide), if_neg (by decide), drain_dead (.inl he)]
theorem drain_dat (h : ¬ (t.r.ended = true ∨ t.r.err ≠ 0)) {r' : Rdr} {s : Bs} (e : stepR t.r = (r', Pc.dat s, true, 0)) (hs : s ≠ []) : drainK (k + 1) t = drainK k ⟨{ r' with err := 0 }, t.st, t.body ++ s⟩ := by
  have e1 := next_of h
  rw [e] at e1
  have e2 : shortE r' true 0 = 0 := by unfold shortE; rw [if_neg (by simp)]
  dsimp only at e1
  rw [e2] at e1
  rw [drainK, e1]
  dsimp only
  rw [if_neg (by simp), if_neg (by decide), if_pos rfl, if_neg hs]
theorem drain_stop (h : ¬ (t.r.ended = true ∨ t.r.err ≠ 0)) {r' : Rdr} {x : Int} (e : stepR t.r = (r', Pc.zero, false, x)) : drainK (k + 1) t = some { t with r := { r' with err := shortE r' false x } } := by
  have e1 := next_of h
  rw [e] at e1
  rw [drain_no (by rw [e1]), e1]
theorem shortE_0 (r : Rdr) : shortE r false 0 = shC r.closed := by
  unfold shortE shC
  cases r.closed <;> simp
theorem shortE_x {r : Rdr} {x : Int} (h : x ≠ 0) {b : Bool} : shortE r b x = x := by unfold shortE; rw [if_neg (by intro hh; exact h hh.1.1)]
theorem live_err (h : ¬ (t.r.ended = true ∨ t.r.err ≠ 0)) : t.r.ended = false ∧ t.r.err = 0 := by
  simp only [not_or, Bool.not_eq_true, Decidable.not_not] at h
  exact h
theorem drain_sized (h : ¬ (t.r.ended = true ∨ t.r.err ≠ 0)) (hp : t.r.ph = .sized) : drainK (k + 3) t = some (szB t) := by
  obtain ⟨he1, he2⟩ := live_err h
  have e : stepR t.r = sizedP t.r := by unfold stepR; rw [hp]
  unfold sizedP at e
  unfold szB
  by_cases h1 : 0 < min t.r.left t.r.buf.length
  · rw [if_pos h1] at e
    rw [drain_dat h e (by intro hh; have := congrArg List.length hh; rw [List.length_take] at this; simp only [List.length_nil] at this; omega)]
    have hm : min (t.r.left - min t.r.left t.r.buf.length) (t.r.buf.drop (min t.r.left t.r.buf.length)).length = 0 := by rw [List.length_drop]; omega
    generalize hb : (⟨{ t.r with left := t.r.left - min t.r.left t.r.buf.length, buf := t.r.buf.drop (min t.r.left t.r.buf.length), err := 0 }, t.st, t.body ++ t.r.buf.take (min t.r.left t.r.buf.length)⟩ : Tl) = t2
    have hb' : t2 = ⟨{ t.r with left := t.r.left - min t.r.left t.r.buf.length, buf := t.r.buf.drop (min t.r.left t.r.buf.length), err := 0 }, t.st, t.body ++ t.r.buf.take (min t.r.left t.r.buf.length)⟩ := hb.symm
    have hl2 : ¬ (t2.r.ended = true ∨ t2.r.err ≠ 0) := by rw [hb']; simp [he1]
    have e2 : stepR t2.r = sizedP t2.r := by unfold stepR; rw [show t2.r.ph = .sized by rw [hb']; exact hp]
    have hm2 : min t2.r.left t2.r.buf.length = 0 := by rw [hb']; exact hm
    unfold sizedP at e2
    rw [hm2, if_neg (by omega), Nat.sub_zero] at e2
    by_cases h2 : t.r.left - min t.r.left t.r.buf.length = 0
    · rw [if_pos (by rw [hb']; exact h2)] at e2
      rw [drain_fin hl2 e2 rfl, hb']
      simp [h2]
    · rw [if_neg (by rw [hb']; exact h2)] at e2
      rw [drain_stop hl2 e2, shortE_0, hb']
      simp [h2, he1]
  · have h0 : min t.r.left t.r.buf.length = 0 := by omega
    rw [if_neg h1] at e
    rw [h0] at e ⊢
    simp only [Nat.sub_zero] at e
    by_cases h2 : t.r.left = 0
    · rw [if_pos h2] at e
      rw [drain_fin h e rfl]
      simp [h2, finishP]
    · rw [if_neg h2] at e
      rw [drain_stop h e, shortE_0]
      simp [h2, he1]
theorem drain_rest (h : ¬ (t.r.ended = true ∨ t.r.err ≠ 0)) (hp : t.r.ph = .rest) : drainK (k + 3) t = some ⟨{ t.r with buf := [], ended := t.r.closed, err := 0 }, t.st, t.body ++ t.r.buf⟩ := by
  obtain ⟨he1, he2⟩ := live_err h
  have e : stepR t.r = restP t.r := by unfold stepR; rw [hp]
  unfold restP at e
  by_cases h1 : t.r.buf = []
  · rw [if_neg (by simpa using h1)] at e
    by_cases h2 : t.r.closed = true
    · rw [if_pos h2] at e
      rw [drain_fin h e rfl]
      simp [h1, h2]
    · rw [if_neg h2] at e
      rw [drain_stop h e, shortE_0]
      simp [h1, h2, he1, shC]
  · rw [if_pos h1] at e
    unfold takeR' at e
    rw [List.take_length, List.drop_length] at e
    rw [drain_dat h e h1]
    generalize hb : (⟨{ t.r with buf := [], err := 0 }, t.st, t.body ++ t.r.buf⟩ : Tl) = t2
    have hb' : t2 = ⟨{ t.r with buf := [], err := 0 }, t.st, t.body ++ t.r.buf⟩ := hb.symm
    have hl2 : ¬ (t2.r.ended = true ∨ t2.r.err ≠ 0) := by rw [hb']; simp [he1]
    have e2 : stepR t2.r = restP t2.r := by unfold stepR; rw [show t2.r.ph = .rest by rw [hb']; exact hp]
    unfold restP at e2
    rw [if_neg (by rw [hb']; simp)] at e2
    by_cases h2 : t.r.closed = true
    · rw [if_pos (by rw [hb']; exact h2)] at e2
      rw [drain_fin hl2 e2 rfl, hb']
      simp [h2]
    · rw [if_neg (by rw [hb']; exact h2)] at e2
      rw [drain_stop hl2 e2, shortE_0, hb']
      simp [h2, he1, shC]
theorem drain_finish (h : ¬ (t.r.ended = true ∨ t.r.err ≠ 0)) (hp : t.r.ph = .finish) : drainK (k + 3) t = some { t with r := { t.r with ended := true, err := 0 } } := by
  have e : stepR t.r = finishP t.r := by unfold stepR; rw [hp]
  rw [drain_fin h e rfl]
/-- Where a decoder has read on and is not done, it has read all. -/
theorem feedG_all : ∀ {s : Bs} {d : Dec} {n : Nat} {out : Bs}, (feedG d n out s).2.2.2.2 = 0 → (feedG d n out s).2.2.2.1 = false → (feedG d n out s).2.2.1 = n + s.length ∧ (feedG d n out s).1.state ≠ 4
  | [], d, n, out, h, ho => by
    simp only [feedG, decide_eq_false_iff_not] at ho ⊢
    exact ⟨rfl, ho⟩
  | c :: r, d, n, out, h, ho => by
    rw [feedG] at h ho ⊢
    split at h
    · rename_i h1
      rw [if_pos h1] at ho
      cases ho
    · rename_i h1
      rw [if_neg h1] at ho ⊢
      split at h
      · rename_i h2
        rw [if_pos h2] at ho ⊢
        obtain ⟨a, b⟩ := feedG_all h ho
        exact ⟨by rw [a, List.length_cons]; omega, b⟩
      · rename_i h2
        exact absurd h h2
theorem feedP_all {d : Dec} {s : Bs} (h : (feedP d s).2.2.2.2 = 0) (ho : (feedP d s).2.2.2.1 = false) : (feedP d s).2.2.1 = s.length ∧ (feedP d s).1.state ≠ 4 := by
  unfold feedP at *
  split at h
  · rename_i h1
    rw [if_pos h1] at ho ⊢
    obtain ⟨a, b⟩ := feedG_all h ho
    exact ⟨by omega, b⟩
  · rename_i h1
    exact absurd h h1
theorem feedP_nil {d : Dec} (h : d.err = 0) : feedP d [] = (d, ([], 0, decide (d.state = 4), 0)) := by unfold feedP; rw [if_pos h, feedG]
theorem feedP_live {d : Dec} {s : Bs} (h : d.err = 0 → OkD d) (he : (feedP d s).2.2.2.2 = 0) : (feedP d s).1.err = 0 := by
  by_cases h2 : d.err = 0
  · exact (feedP_ok (h h2) he).err
  · unfold feedP at he
    rw [if_neg h2] at he
    exact absurd he h2
theorem drain_chunk (hok : OkR t.r) {d : Dec} (hd : t.r.dec = some d) (h : ¬ (t.r.ended = true ∨ t.r.err ≠ 0)) (hp : t.r.ph = .chunked) : drainK (k + 3) t = some (chB t d) := by
  obtain ⟨he1, he2⟩ := live_err h
  have e : stepR t.r = chunkP t.r d := by unfold stepR; rw [hp, hd]; rfl
  have hdd := hok.dec d hd
  unfold chunkP at e
  unfold chB
  by_cases h1 : t.r.over = true
  · rw [if_pos h1] at e ⊢
    rw [drain_fin h e rfl]
  · rw [if_neg h1] at e ⊢
    by_cases h2 : (feedP d t.r.buf).2.2.2.2 = 0
    · rw [if_neg (by simpa using h2)] at e ⊢
      by_cases h3 : (feedP d t.r.buf).2.1 = []
      · rw [if_neg (by simpa using h3)] at e
        rw [h3, List.append_nil]
        by_cases h4 : (feedP d t.r.buf).2.2.2.1 = true
        · rw [if_pos h4] at e ⊢
          rw [drain_fin h e rfl, h4]
        · rw [if_neg h4] at e ⊢
          rw [drain_stop h e, shortE_0]
          simp [h4, he1]
      · rw [if_pos h3] at e
        rw [drain_dat h e h3]
        generalize hb : (⟨{ t.r with dec := some (feedP d t.r.buf).1, buf := t.r.buf.drop (feedP d t.r.buf).2.2.1, over := (feedP d t.r.buf).2.2.2.1, err := 0 }, t.st, t.body ++ (feedP d t.r.buf).2.1⟩ : Tl) = t2
        have hb' : t2 = ⟨{ t.r with dec := some (feedP d t.r.buf).1, buf := t.r.buf.drop (feedP d t.r.buf).2.2.1, over := (feedP d t.r.buf).2.2.2.1, err := 0 }, t.st, t.body ++ (feedP d t.r.buf).2.1⟩ := hb.symm
        have hl2 : ¬ (t2.r.ended = true ∨ t2.r.err ≠ 0) := by rw [hb']; simp [he1]
        have e2 : stepR t2.r = chunkP t2.r (feedP d t.r.buf).1 := by unfold stepR; rw [show t2.r.ph = .chunked by rw [hb']; exact hp, hb']; rfl
        unfold chunkP at e2
        by_cases h4 : (feedP d t.r.buf).2.2.2.1 = true
        · rw [if_pos (by rw [hb']; exact h4)] at e2
          rw [drain_fin hl2 e2 rfl, hb']
          simp [h4]
        · have h4' : (feedP d t.r.buf).2.2.2.1 = false := by simpa using h4
          obtain ⟨ha, hs4⟩ := feedP_all h2 h4'
          have hbuf : t2.r.buf = [] := by rw [hb']; dsimp only; rw [ha, List.drop_length]
          have hn := feedP_nil (feedP_live (s := t.r.buf) hdd h2)
          rw [hbuf, hn] at e2
          rw [if_neg (by rw [hb']; exact h4)] at e2
          simp only [ne_eq, not_true_eq_false, if_false, decide_eq_true_eq, if_neg hs4, List.drop_nil] at e2
          rw [drain_stop hl2 e2, shortE_0, hb']
          simp only [h4', if_neg (show ¬ (false = true) by simp), he1, decide_eq_false hs4, ha, List.drop_length]
    · rw [if_pos h2] at e ⊢
      rw [drain_stop h e, shortE_x h2]
theorem drain_body (hok : OkR t.r) (h : ¬ (t.r.ended = true ∨ t.r.err ≠ 0)) (hp : t.r.ph ≠ .start) : drainK (k + 3) t = some (bodyB t) := by
  unfold bodyB
  rcases hph : t.r.ph with _ | _ | _ | _ | _
  · exact absurd hph hp
  · exact drain_sized h hph
  · obtain ⟨d, hd⟩ := Option.isSome_iff_exists.1 (hok.chunk hph)
    rw [hd]
    exact drain_chunk hok hd h hph
  · exact drain_rest h hph
  · exact drain_finish h hph
theorem startP_out : ∀ {k : Nat} {r : Rdr}, r.buf.length < k → ((startP k r).2.2.1 = false ∧ (startP k r).2.1 = Pc.zero) ∨ (∃ h9 fs, (startP k r).2 = (⟨1, h9, fs, []⟩, true, 0) ∧ (startP k r).1.ph ≠ .start ∧ (startP k r).1.ended = r.ended ∧ (startP k r).1.err = r.err)
  | 0, r, h => by omega
  | k + 1, r, h => by
    rcases hr : respR r.buf with e | ⟨h9, fs, n⟩
    · rw [startP_err hr]; exact .inl ⟨rfl, rfl⟩
    · by_cases h2 : (frR r.meth h9 fs).2 = 0
      · by_cases h3 : h9.status < 200 ∧ h9.status ≠ 101
        · have hg := hdR_got hr
          rw [startP_on hr h2 h3]
          exact startP_out (by rw [List.length_drop]; omega)
        · rw [startP_go hr h2 h3]
          refine .inr ⟨h9, fs, rfl, ?_, rfl, rfl⟩
          show phOf _ ≠ _
          unfold phOf
          split
          · simp
          · split
            · simp
            · split <;> simp
      · rw [startP_bad hr h2]; exact .inl ⟨rfl, rfl⟩
theorem drain_eq (hok : OkR t.r) : drainK (k + 4) t = some (settleT t) := by
  unfold settleT
  by_cases h : t.r.ended = true ∨ t.r.err ≠ 0
  · rw [if_pos h]; exact drain_dead h
  · rw [if_neg h]
    obtain ⟨he1, he2⟩ := live_err h
    by_cases hp : t.r.ph = .start
    · rw [if_pos hp]
      have e : stepR t.r = startP (t.r.buf.length + 1) t.r := by unfold stepR; rw [hp]
      unfold stB
      rcases startP_out (k := t.r.buf.length + 1) (r := t.r) (Nat.lt_succ_self _) with ⟨h1, h2⟩ | ⟨h9, fs, h1, h2, h3, h4⟩
      · rw [if_neg (by rw [h1]; simp)]
        have e' : stepR t.r = ((startP (t.r.buf.length + 1) t.r).1, Pc.zero, false, (startP (t.r.buf.length + 1) t.r).2.2.2) := by rw [e, ← h1, ← h2]
        rw [drain_stop h e']
      · rw [if_pos (by rw [h1])]
        have e1 := next_of h
        rw [e, h1] at e1
        have e2 : shortE (startP (t.r.buf.length + 1) t.r).1 true 0 = 0 := by unfold shortE; rw [if_neg (by simp)]
        dsimp only at e1
        rw [e2] at e1
        have hk := (keeps_start (k := t.r.buf.length + 1) hok (hok.start hp)).ok
        have e5 : ({ (startP (t.r.buf.length + 1) t.r).1 with err := 0 } : Rdr) = (startP (t.r.buf.length + 1) t.r).1 := by
          rw [← h4.trans he2]
        rw [e5] at e1
        rw [drainK, e1]
        dsimp only
        rw [if_neg (by simp), if_pos rfl, h1]
        exact drain_body (t := ⟨(startP (t.r.buf.length + 1) t.r).1, h9.status, t.body⟩) hk (by dsimp only; rw [h3, h4]; exact h) h2
    · rw [if_neg hp]
      exact drain_body (k := k + 1) hok h hp
end
end Go.BK
