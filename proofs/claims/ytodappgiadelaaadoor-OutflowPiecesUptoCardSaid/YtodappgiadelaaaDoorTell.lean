/- That reading a response in pieces comes to what reading at once comes to: no program and no memory. -/
import Derived.Test.YtodappgiadelaaaDoorOut
set_option linter.unusedVariables false
set_option linter.unusedSimpArgs false
namespace Go.BK
open Go.RowKit
/-! ### what is read of a part is read of the whole -/
theorem lnG_app_ok {m : Nat} {o : Int} {b : Bs} : ∀ {a : Bs} {i n : Nat}, lnG m o i a = .ok n → lnG m o i (a ++ b) = .ok n
  | [], _, _, h => by simp [lnG] at h
  | c :: r, i, n, h => by
    rw [List.cons_append, lnG.eq_def] 
    rw [lnG.eq_def] at h
    dsimp only at h ⊢
    split at h
    · cases h
    · rename_i h1
      rw [if_neg h1]
      split at h
      · rename_i h2
        rw [if_pos h2]
        cases r with
        | nil => cases h
        | cons d r' => exact h
      · rename_i h2
        rw [if_neg h2]
        split at h
        · cases h
        · rename_i h3
          rw [if_neg h3]
          exact lnG_app_ok h
theorem lnG_app_err {m : Nat} {o : Int} {b : Bs} {e : Int} (he : e ≠ 0) : ∀ {a : Bs} {i : Nat}, lnG m o i a = .error e → lnG m o i (a ++ b) = .error e
  | [], _, h => by simp [lnG] at h; exact absurd h.symm he
  | c :: r, i, h => by
    rw [List.cons_append, lnG.eq_def] 
    rw [lnG.eq_def] at h
    dsimp only at h ⊢
    split at h
    · rename_i h1
      rw [if_pos h1]; exact h
    · rename_i h1
      rw [if_neg h1]
      split at h
      · rename_i h2
        rw [if_pos h2]
        cases r with
        | nil => simp at h; exact absurd h.symm he
        | cons d r' => exact h
      · rename_i h2
        rw [if_neg h2]
        split at h
        · rename_i h3
          rw [if_pos h3]; exact h
        · rename_i h3
          rw [if_neg h3]
          exact lnG_app_err he h
theorem take_app {a b : Bs} {n : Nat} (h : n ≤ a.length) : (a ++ b).take n = a.take n := by rw [List.take_append_of_le_length h]
theorem drop_app {a b : Bs} {n : Nat} (h : n ≤ a.length) : (a ++ b).drop n = a.drop n ++ b := by rw [List.drop_append_of_le_length h]
theorem drop_over (a b : Bs) (k : Nat) : (a ++ b).drop (a.length + k) = b.drop k := by
  rw [List.drop_append, List.drop_of_length_le (by omega), Nat.add_sub_cancel_left, List.nil_append]
theorem take_over (a b : Bs) (k : Nat) : (a ++ b).take (a.length + k) = a ++ b.take k := by
  rw [List.take_append, List.take_of_length_le (by omega), Nat.add_sub_cancel_left]
theorem rdF_app_ok {b : Bs} : ∀ {k at' : Nat} {fs : List Fld} {a : Bs} {x : List Fld × Nat}, rdF k at' fs a = .ok x → rdF k at' fs (a ++ b) = .ok x
  | 0, _, _, _, _, h => by simp [rdF] at h
  | k + 1, at', fs, a, x, h => by
    rw [rdF] at h ⊢
    split at h
    · cases h
    · rename_i n hn
      obtain ⟨_, hf⟩ := lnG_fit hn
      rw [lnG_app_ok hn]
      dsimp only
      rw [take_app (by omega), drop_app (by omega)]
      split at h
      · rename_i h1
        rw [if_pos h1]; exact h
      · rename_i h1
        rw [if_neg h1]
        split at h
        · cases h
        · rename_i h2
          rw [if_neg h2]
          split at h
          · rename_i h3
            rw [if_pos h3]
            exact rdF_app_ok h
          · cases h
theorem rdF_app_err {b : Bs} {e : Int} (he : e ≠ 0) : ∀ {k at' : Nat} {fs : List Fld} {a : Bs}, rdF k at' fs a = .error e → rdF k at' fs (a ++ b) = .error e
  | 0, _, _, _, h => by simp only [rdF] at h ⊢; exact h
  | k + 1, at', fs, a, h => by
    rw [rdF] at h ⊢
    split at h
    · rename_i e' hn
      cases h
      rw [lnG_app_err he hn]
    · rename_i n hn
      obtain ⟨_, hf⟩ := lnG_fit hn
      rw [lnG_app_ok hn]
      dsimp only
      rw [take_app (by omega), drop_app (by omega)]
      split at h
      · cases h
      · rename_i h1
        rw [if_neg h1]
        split at h
        · rename_i h2
          rw [if_pos h2]; exact h
        · rename_i h2
          rw [if_neg h2]
          split at h
          · rename_i h3
            rw [if_pos h3]
            exact rdF_app_err he h
          · rename_i h3
            rw [if_neg h3]; exact h
theorem hdR_app_ok {f : Bs → Hd × Int} {b : Bs} {at' : Nat} {a : Bs} {x : Hd × List Fld × Nat} (h : hdR f at' a = .ok x) : hdR f at' (a ++ b) = .ok x := by
  unfold hdR at h ⊢
  split at h
  · cases h
  · rename_i n hn
    obtain ⟨_, hf⟩ := lnG_fit hn
    rw [lnG_app_ok hn]
    dsimp only
    rw [take_app (by omega), drop_app (by omega)]
    split at h
    · rename_i h1
      rw [if_pos h1]
      split at h
      · cases h
      · rename_i r hr
        rw [rdF_app_ok hr]; exact h
    · cases h
theorem hdR_app_err {f : Bs → Hd × Int} {b : Bs} {at' : Nat} {a : Bs} {e : Int} (he : e ≠ 0) (h : hdR f at' a = .error e) : hdR f at' (a ++ b) = .error e := by
  unfold hdR at h ⊢
  split at h
  · rename_i e' hn
    cases h
    rw [lnG_app_err he hn]
  · rename_i n hn
    obtain ⟨_, hf⟩ := lnG_fit hn
    rw [lnG_app_ok hn]
    dsimp only
    rw [take_app (by omega), drop_app (by omega)]
    split at h
    · rename_i h1
      rw [if_pos h1]
      split at h
      · rename_i e' hr
        cases h
        rw [rdF_app_err he hr]
      · cases h
    · rename_i h1
      rw [if_neg h1]; exact h
/-! ### chunks -/
theorem feedG_app : ∀ {a b : Bs} {d : Dec} {n : Nat} {out : Bs}, feedG d n out (a ++ b) = if (feedG d n out a).2.2.2.2 = 0 ∧ (feedG d n out a).2.2.2.1 = false then feedG (feedG d n out a).1 (feedG d n out a).2.2.1 (feedG d n out a).2.1 b else feedG d n out a
  | [], b, d, n, out => by
    simp only [feedG, List.nil_append, true_and]
    by_cases h : d.state = 4
    · simp only [h, decide_true, Bool.true_eq_false, if_false]
      cases b with
      | nil => rw [feedG]; simp [h]
      | cons c r => rw [feedG, if_pos h]
    · rw [if_pos (by simpa using h)]
  | c :: r, b, d, n, out => by
    rw [List.cons_append, feedG]
    conv => rhs; simp only [feedG]
    by_cases h : d.state = 4
    · simp only [if_pos h]
      rw [if_neg (by simp)]
    · simp only [if_neg h]
      by_cases h2 : (decB d c).2.2 = 0
      · simp only [if_pos h2]
        exact feedG_app
      · simp only [if_neg h2]
        rw [if_neg (fun h => h2 h.1)]
theorem feedG_shift : ∀ {s : Bs} {d : Dec} {n m : Nat} {o out : Bs}, feedG d (n + m) (o ++ out) s = if (feedG d m out s).2.2.2.2 = 0 then ((feedG d m out s).1, (o ++ (feedG d m out s).2.1, n + (feedG d m out s).2.2.1, (feedG d m out s).2.2.2.1, 0)) else feedG d m out s
  | [], d, n, m, o, out => by simp [feedG]
  | c :: r, d, n, m, o, out => by
    simp only [feedG]
    by_cases h : d.state = 4
    · simp only [if_pos h]; rfl
    · simp only [if_neg h]
      by_cases h2 : (decB d c).2.2 = 0
      · simp only [if_pos h2]
        rw [List.append_assoc, Nat.add_assoc]
        exact feedG_shift
      · simp only [if_neg h2]
/-- Bytes that come behind what a decoder has read whole. -/
theorem feedP_app {d : Dec} {a b : Bs} (hd : (feedP d a).2.2.2.2 = 0 → (feedP d a).1.err = 0) : feedP d (a ++ b) =
    if (feedP d a).2.2.2.2 = 0 ∧ (feedP d a).2.2.2.1 = false then
      (if (feedP (feedP d a).1 b).2.2.2.2 = 0 then ((feedP (feedP d a).1 b).1, ((feedP d a).2.1 ++ (feedP (feedP d a).1 b).2.1, (feedP d a).2.2.1 + (feedP (feedP d a).1 b).2.2.1, (feedP (feedP d a).1 b).2.2.2.1, 0)) else feedP (feedP d a).1 b)
    else feedP d a := by
  by_cases h : d.err = 0
  · have e : ∀ s, feedP d s = feedG d 0 [] s := fun s => by unfold feedP; rw [if_pos h]
    rw [e a] at hd ⊢
    rw [e (a ++ b), feedG_app]
    by_cases h2 : (feedG d 0 [] a).2.2.2.2 = 0 ∧ (feedG d 0 [] a).2.2.2.1 = false
    · rw [if_pos h2, if_pos h2]
      have e3 : feedP (feedG d 0 [] a).1 b = feedG (feedG d 0 [] a).1 0 [] b := by unfold feedP; rw [if_pos (hd h2.1)]
      rw [e3]
      have := feedG_shift (s := b) (d := (feedG d 0 [] a).1) (n := (feedG d 0 [] a).2.2.1) (m := 0) (o := (feedG d 0 [] a).2.1) (out := [])
      rw [Nat.add_zero, List.append_nil] at this
      exact this
    · rw [if_neg h2, if_neg h2]
  · unfold feedP
    rw [if_neg h, if_neg h]
    dsimp only
    rw [if_neg (fun hh => h hh.1)]
/-! ### heads -/
def app (r : Rdr) (x : Bs) : Rdr := { r with buf := r.buf ++ x }
theorem feedR_app {r : Rdr} (h : r.closed = false) (x : Bs) : feedR r x = app r x := by unfold feedR app; rw [if_neg (by rw [h]; simp)]
theorem begun_app (r : Rdr) (h : Hd) (fs : List Fld) {n : Nat} (hn : n ≤ r.buf.length) (x : Bs) : begun (app r x) h fs n = app (begun r h fs n) x := by
  simp only [begun, app]
  rw [drop_app hn]
  rfl
theorem startP_fuel : ∀ {k k' : Nat} {r : Rdr}, r.buf.length < k → r.buf.length < k' → startP k r = startP k' r
  | 0, _, _, h, _ => by omega
  | _ + 1, 0, _, _, h => by omega
  | k + 1, k' + 1, r, h, h' => by
    rcases hr : respR r.buf with e | ⟨h9, fs, n⟩
    · rw [startP_err hr, startP_err hr]
    · by_cases h2 : (frR r.meth h9 fs).2 = 0
      · by_cases h3 : h9.status < 200 ∧ h9.status ≠ 101
        · have hg := hdR_got hr
          rw [startP_on hr h2 h3, startP_on hr h2 h3]
          exact startP_fuel (by rw [List.length_drop]; omega) (by rw [List.length_drop]; omega)
        · rw [startP_go hr h2 h3, startP_go hr h2 h3]
      · rw [startP_bad hr h2, startP_bad hr h2]
theorem startP_no : ∀ {k : Nat} {r : Rdr}, (startP k r).2.2.1 = false → ∃ bf, (startP k r).1 = { r with buf := bf } ∧ (startP k r).2.1 = Pc.zero ∧ bf.length ≤ r.buf.length
  | 0, r, _ => ⟨r.buf, rfl, rfl, Nat.le_refl _⟩
  | k + 1, r, h => by
    rcases hr : respR r.buf with e | ⟨h9, fs, n⟩
    · rw [startP_err hr] at h ⊢
      exact ⟨r.buf, rfl, rfl, Nat.le_refl _⟩
    · by_cases h2 : (frR r.meth h9 fs).2 = 0
      · by_cases h3 : h9.status < 200 ∧ h9.status ≠ 101
        · rw [startP_on hr h2 h3] at h ⊢
          obtain ⟨bf, h4, h5, h6⟩ := startP_no h
          exact ⟨bf, h4, h5, Nat.le_trans h6 (by simp)⟩
        · rw [startP_go hr h2 h3] at h
          cases h
      · rw [startP_bad hr h2] at h ⊢
        exact ⟨r.buf, rfl, rfl, Nat.le_refl _⟩
theorem startP_app (x : Bs) : ∀ {k K : Nat} {r : Rdr}, r.buf.length < k → (app r x).buf.length < K →
    ((startP k r).2.2.1 = true → startP K (app r x) = (app (startP k r).1 x, (startP k r).2)) ∧
    ((startP k r).2.2.1 = false → (startP k r).2.2.2 ≠ 0 → (startP K (app r x)).2 = (startP k r).2) ∧
    ((startP k r).2.2.1 = false → (startP k r).2.2.2 = 0 → startP K (app r x) = startP K (app (startP k r).1 x))
  | 0, _, _, h, _ => by omega
  | _, 0, _, _, h => by omega
  | k + 1, K + 1, r, h, hK => by
    rcases hr : respR r.buf with e | ⟨h9, fs, n⟩
    · rw [startP_err hr]
      refine ⟨(fun h => by cases h), fun _ he => ?_, fun _ _ => rfl⟩
      have hr2 : respR (app r x).buf = .error e := hdR_app_err he hr
      rw [startP_err hr2]
    · have hr2 : respR (app r x).buf = .ok (h9, fs, n) := hdR_app_ok hr
      have hg := hdR_got hr
      have hn : n ≤ r.buf.length := by omega
      have hm : (app r x).meth = r.meth := rfl
      by_cases h2 : (frR r.meth h9 fs).2 = 0
      · by_cases h3 : h9.status < 200 ∧ h9.status ≠ 101
        · rw [startP_on hr h2 h3, startP_on hr2 h2 h3]
          have ea : ({ app r x with buf := (app r x).buf.drop n } : Rdr) = app { r with buf := r.buf.drop n } x := by
            simp only [app]; rw [drop_app hn]
          rw [ea]
          have hl : (app { r with buf := r.buf.drop n } x).buf.length + n = (app r x).buf.length := by simp only [app, List.length_append, List.length_drop]; omega
          obtain ⟨i1, i2, i3⟩ := startP_app x (k := k) (K := K) (r := { r with buf := r.buf.drop n }) (by rw [List.length_drop]; omega) (by omega)
          refine ⟨i1, i2, fun a b => ?_⟩
          rw [i3 a b]
          obtain ⟨bf, h4, _, h6⟩ := startP_no a
          refine startP_fuel ?_ ?_
          · rw [h4]; simp only [app, List.length_append, List.length_drop] at h6 hl hK ⊢; omega
          · rw [h4]; simp only [app, List.length_append, List.length_drop] at h6 hl hK ⊢; omega
        · rw [startP_go hr h2 h3, startP_go hr2 h2 h3]
          refine ⟨fun _ => ?_, (fun h => by cases h), (fun h => by cases h)⟩
          rw [begun_app r h9 fs hn x]
      · rw [startP_bad hr h2, startP_bad hr2 h2]
        exact ⟨(fun h => by cases h), fun _ _ => rfl, fun _ he => absurd he h2⟩
/-! ### in pieces and at once -/
def Sim (t u : Tl) : Prop := t.st = u.st ∧ t.r.ended = u.r.ended ∧ t.r.err = u.r.err ∧ (t.r.err = 0 → t = u)
theorem Sim.refl (t : Tl) : Sim t t := ⟨rfl, rfl, rfl, fun _ => rfl⟩
theorem Sim.of {t u : Tl} (h : t = u) : Sim t u := h ▸ Sim.refl t
theorem Sim.trans {t u v : Tl} (h : Sim t u) (k : Sim u v) : Sim t v := ⟨h.1.trans k.1, h.2.1.trans k.2.1, h.2.2.1.trans k.2.2.1, fun e => (h.2.2.2 e).trans (k.2.2.2 (h.2.2.1.symm.trans e))⟩
theorem settle_dead {t : Tl} (h : t.r.ended = true ∨ t.r.err ≠ 0) : settleT t = t := by unfold settleT; rw [if_pos h]
theorem settle_body {t : Tl} (h : ¬ (t.r.ended = true ∨ t.r.err ≠ 0)) (hp : t.r.ph ≠ .start) : settleT t = bodyB t := by unfold settleT; rw [if_neg h, if_neg hp]
/-- What comes behind: bytes or the end. -/
theorem Sim.feed {t u : Tl} (h : Sim t u) (x : Bs) : Sim (settleT (feedT t x)) (settleT (feedT u x)) := by
  by_cases he : t.r.err = 0
  · rw [h.2.2.2 he]; exact Sim.refl _
  · have e1 : (feedT t x).r.err = t.r.err := feedR_err _ _
    have e2 : (feedT u x).r.err = u.r.err := feedR_err _ _
    have e3 : (feedT t x).r.ended = t.r.ended := by unfold feedT feedR; dsimp only; split <;> rfl
    have e4 : (feedT u x).r.ended = u.r.ended := by unfold feedT feedR; dsimp only; split <;> rfl
    rw [settle_dead (.inr (by rw [e1]; exact he)), settle_dead (.inr (by rw [e2, ← h.2.2.1]; exact he))]
    exact ⟨h.1, by rw [e3, e4]; exact h.2.1, by rw [e1, e2]; exact h.2.2.1, fun e => absurd (e1.symm.trans e) he⟩
theorem Sim.end {t u : Tl} (h : Sim t u) (b : Bool) : Sim (settleT (if b = true then endT t else t)) (settleT (if b = true then endT u else u)) := by
  by_cases he : t.r.err = 0
  · rw [h.2.2.2 he]; exact Sim.refl _
  · have hu : u.r.err ≠ 0 := by rw [← h.2.2.1]; exact he
    cases b with
    | false =>
      rw [if_neg (by simp), if_neg (by simp), settle_dead (.inr he), settle_dead (.inr hu)]
      exact h
    | true =>
      rw [if_pos rfl, if_pos rfl, settle_dead (t := endT t) (.inr he), settle_dead (t := endT u) (.inr hu)]
      exact ⟨h.1, h.2.1, h.2.2.1, fun e => absurd e he⟩
theorem chB_go {t : Tl} {d : Dec} (h1 : ¬ t.r.over = true) (h2 : (feedP d t.r.buf).2.2.2.2 = 0) : chB t d = ⟨{ t.r with dec := some (feedP d t.r.buf).1, buf := t.r.buf.drop (feedP d t.r.buf).2.2.1, over := (feedP d t.r.buf).2.2.2.1, ended := (feedP d t.r.buf).2.2.2.1, err := if (feedP d t.r.buf).2.2.2.1 = true then 0 else shC t.r.closed }, t.st, t.body ++ (feedP d t.r.buf).2.1⟩ := by
  unfold chB
  rw [if_neg h1, if_neg (fun h => h h2)]
theorem chB_bad {t : Tl} {d : Dec} (h1 : ¬ t.r.over = true) (h2 : (feedP d t.r.buf).2.2.2.2 ≠ 0) : chB t d = { t with r := { t.r with dec := some (feedP d t.r.buf).1, err := (feedP d t.r.buf).2.2.2.2 } } := by
  unfold chB
  rw [if_neg h1, if_pos h2]
theorem settle_start {t : Tl} (h : ¬ (t.r.ended = true ∨ t.r.err ≠ 0)) (hp : t.r.ph = .start) : settleT t = stB t (startP (t.r.buf.length + 1) t.r) := by unfold settleT; rw [if_neg h, if_pos hp]
theorem sim_body {t : Tl} (hok : OkR t.r) (hc : t.r.closed = false) (hl : ¬ (t.r.ended = true ∨ t.r.err ≠ 0)) (hp : t.r.ph ≠ .start) (x : Bs) : Sim (settleT (feedT (bodyB t) x)) (bodyB (feedT t x)) := by
  obtain ⟨he1, he2⟩ := live_err hl
  have ef : feedT t x = ⟨app t.r x, t.st, t.body⟩ := by unfold feedT; rw [feedR_app hc]
  rw [ef]
  rcases hph : t.r.ph with _ | _ | _ | _ | _
  · exact absurd hph hp
  · -- of a length
    have e1 : bodyB t = szB t := by unfold bodyB; rw [hph]
    have e2 : bodyB ⟨app t.r x, t.st, t.body⟩ = szB ⟨app t.r x, t.st, t.body⟩ := by unfold bodyB app; dsimp only; rw [hph]
    rw [e1, e2]
    by_cases h1 : t.r.left ≤ t.r.buf.length
    · have m1 : min t.r.left t.r.buf.length = t.r.left := by omega
      have m2 : min t.r.left (t.r.buf ++ x).length = t.r.left := by rw [List.length_append]; omega
      unfold szB app
      dsimp only
      rw [m1, m2, Nat.sub_self]
      rw [settle_dead (.inl (by unfold feedT feedR; dsimp only; rw [if_neg (by rw [hc]; simp)]; rfl))]
      unfold feedT feedR
      dsimp only
      rw [if_neg (by rw [hc]; simp), take_app h1, drop_app h1]
      exact Sim.refl _
    · have m1 : min t.r.left t.r.buf.length = t.r.buf.length := by omega
      have hs : ¬ (t.r.left - t.r.buf.length = 0) := by omega
      generalize hb : szB t = u
      unfold szB at hb
      rw [m1, List.drop_length, List.take_length, if_neg hs, decide_eq_false hs, hc] at hb
      have eu : feedT u x = ⟨{ t.r with left := t.r.left - t.r.buf.length, buf := x, ended := false, err := 0 }, t.st, t.body ++ t.r.buf⟩ := by
        subst hb
        unfold feedT feedR
        dsimp only
        rw [if_neg (by simp [hc])]
        simp [shC, hc]
      rw [eu, settle_body (by simp) (by dsimp only; rw [hph]; simp)]
      have e3 : ∀ u : Tl, u.r.ph = .sized → bodyB u = szB u := fun u h => by unfold bodyB; rw [h]
      rw [e3 _ (by exact hph)]
      refine Sim.of ?_
      unfold szB app
      dsimp only
      have m2 : min t.r.left (t.r.buf ++ x).length = t.r.buf.length + min (t.r.left - t.r.buf.length) x.length := by rw [List.length_append]; omega
      rw [m2, ← Nat.sub_sub, drop_over, take_over, List.append_assoc]
  · -- in chunks
    obtain ⟨d, hd⟩ := Option.isSome_iff_exists.1 (hok.chunk hph)
    have e3 : ∀ u : Tl, ∀ d', u.r.ph = .chunked → u.r.dec = some d' → bodyB u = chB u d' := fun u d' h h' => by unfold bodyB; rw [h, h']; rfl
    rw [e3 t d hph hd, e3 ⟨app t.r x, t.st, t.body⟩ d hph hd]
    have hlive := feedP_live (s := t.r.buf) (hok.dec d hd)
    have ha := feedP_app (b := x) hlive
    by_cases h1 : t.r.over = true
    · have c1 : chB t d = { t with r := { t.r with ended := true, err := 0 } } := by unfold chB; rw [if_pos h1]
      have c2 : chB ⟨app t.r x, t.st, t.body⟩ d = ⟨{ app t.r x with ended := true, err := 0 }, t.st, t.body⟩ := by unfold chB; rw [if_pos (show (app t.r x).over = true from h1)]
      rw [c1, c2, settle_dead (.inl (by unfold feedT feedR; dsimp only; rw [if_neg (by rw [hc]; simp)]))]
      unfold feedT feedR app
      dsimp only
      rw [if_neg (by rw [hc]; simp)]
      exact Sim.refl _
    · by_cases h2 : (feedP d t.r.buf).2.2.2.2 = 0
      · by_cases h3 : (feedP d t.r.buf).2.2.2.1 = true
        · rw [if_neg (by rw [h3]; simp)] at ha
          have hn := feedP_n d t.r.buf
          rw [chB_go h1 h2, chB_go (t := ⟨app t.r x, t.st, t.body⟩) h1 (by show (feedP d (t.r.buf ++ x)).2.2.2.2 = 0; rw [ha]; exact h2)]
          rw [settle_dead (.inl (by unfold feedT feedR; dsimp only; rw [if_neg (by rw [hc]; simp)]; exact h3))]
          unfold feedT feedR app
          dsimp only
          rw [if_neg (by rw [hc]; simp), ha, drop_app hn]
          exact Sim.refl _
        · have h3' : (feedP d t.r.buf).2.2.2.1 = false := by simpa using h3
          rw [if_pos ⟨h2, h3'⟩] at ha
          obtain ⟨hall, _⟩ := feedP_all h2 h3'
          generalize hb : chB t d = u
          unfold chB at hb
          rw [if_neg h1, if_neg (by simpa using h2), hall, List.drop_length, if_neg h3, h3', hc] at hb
          have eu : feedT u x = ⟨{ t.r with dec := some (feedP d t.r.buf).1, buf := x, over := false, ended := false, err := 0 }, t.st, t.body ++ (feedP d t.r.buf).2.1⟩ := by
            subst hb
            unfold feedT feedR
            dsimp only
            rw [if_neg (by simp [hc])]
            simp [shC, hc]
          rw [eu, settle_body (by simp) (by dsimp only; rw [hph]; simp), e3 _ (feedP d t.r.buf).1 (by exact hph) rfl]
          unfold chB app
          dsimp only
          rw [if_neg (show ¬ (false = true) by simp), if_neg h1, ha]
          generalize feedP (feedP d t.r.buf).1 x = g
          by_cases h4 : g.2.2.2.2 = 0
          · rw [if_pos h4, if_neg (fun h => h h4), if_neg (fun h : (0 : Int) ≠ 0 => h rfl)]
            refine Sim.of ?_
            dsimp only
            rw [hall, drop_over, List.append_assoc]
          · rw [if_neg h4, if_pos h4, if_pos h4]
            exact ⟨rfl, he1.symm, rfl, fun e => absurd e h4⟩
      · rw [if_neg (fun h => h2 h.1)] at ha
        rw [chB_bad h1 h2, chB_bad (t := ⟨app t.r x, t.st, t.body⟩) h1 (by show (feedP d (t.r.buf ++ x)).2.2.2.2 ≠ 0; rw [ha]; exact h2)]
        rw [settle_dead (.inr (by unfold feedT feedR; dsimp only; rw [if_neg (by rw [hc]; simp)]; exact h2))]
        unfold feedT feedR app
        dsimp only
        rw [if_neg (by rw [hc]; simp), ha]
        exact ⟨rfl, rfl, rfl, fun e => absurd e h2⟩
  · -- up to the end
    have e3 : ∀ u : Tl, u.r.ph = .rest → bodyB u = ⟨{ u.r with buf := [], ended := u.r.closed, err := 0 }, u.st, u.body ++ u.r.buf⟩ := fun u h => by unfold bodyB; rw [h]
    rw [e3 t hph, e3 ⟨app t.r x, t.st, t.body⟩ hph]
    have eu : feedT ⟨{ t.r with buf := [], ended := t.r.closed, err := 0 }, t.st, t.body ++ t.r.buf⟩ x = ⟨{ t.r with buf := x, ended := t.r.closed, err := 0 }, t.st, t.body ++ t.r.buf⟩ := by
      unfold feedT feedR
      dsimp only
      rw [if_neg (by simp [hc])]
      rfl
    rw [eu, settle_body (by dsimp only; rw [hc]; simp) (by dsimp only; rw [hph]; simp), e3 _ (by exact hph)]
    refine Sim.of ?_
    simp only [app]
    rw [List.append_assoc]
  · have e3 : ∀ u : Tl, u.r.ph = .finish → bodyB u = { u with r := { u.r with ended := true, err := 0 } } := fun u h => by unfold bodyB; rw [h]
    rw [e3 t hph, e3 ⟨app t.r x, t.st, t.body⟩ hph, settle_dead (.inl (by unfold feedT feedR; dsimp only; rw [if_neg (by rw [hc]; simp)]))]
    unfold feedT feedR app
    dsimp only
    rw [if_neg (by rw [hc]; simp)]
    exact Sim.refl _
theorem startP_live : ∀ {k : Nat} {r : Rdr}, (startP k r).1.closed = r.closed
  | 0, r => rfl
  | k + 1, r => by
    rcases hr : respR r.buf with e | ⟨h9, fs, n⟩
    · rw [startP_err hr]
    · by_cases h2 : (frR r.meth h9 fs).2 = 0
      · by_cases h3 : h9.status < 200 ∧ h9.status ≠ 101
        · rw [startP_on hr h2 h3, startP_live]
        · rw [startP_go hr h2 h3]; rfl
      · rw [startP_bad hr h2]
theorem sim_settle {t : Tl} (hok : OkR t.r) (hc : t.r.closed = false) (x : Bs) : Sim (settleT (feedT (settleT t) x)) (settleT (feedT t x)) := by
  by_cases hl : t.r.ended = true ∨ t.r.err ≠ 0
  · rw [settle_dead hl]; exact Sim.refl _
  · obtain ⟨he1, he2⟩ := live_err hl
    have ef : feedT t x = ⟨app t.r x, t.st, t.body⟩ := by unfold feedT; rw [feedR_app hc]
    by_cases hp : t.r.ph = .start
    · have e1 : settleT t = stB t (startP (t.r.buf.length + 1) t.r) := by unfold settleT; rw [if_neg hl, if_pos hp]
      have e2 : settleT (feedT t x) = stB (feedT t x) (startP ((app t.r x).buf.length + 1) (app t.r x)) := by
        rw [ef]; unfold settleT; rw [if_neg (show ¬ ((app t.r x).ended = true ∨ (app t.r x).err ≠ 0) from hl), if_pos (show (app t.r x).ph = .start from hp)]
      rw [e1, e2]
      obtain ⟨a1, a2, a3⟩ := startP_app x (k := t.r.buf.length + 1) (K := (app t.r x).buf.length + 1) (r := t.r) (Nat.lt_succ_self _) (Nat.lt_succ_self _)
      have hcl := startP_live (k := t.r.buf.length + 1) (r := t.r)
      have hk := (keeps_start (k := t.r.buf.length + 1) hok (hok.start hp)).ok
      have hout := startP_out (k := t.r.buf.length + 1) (r := t.r) (Nat.lt_succ_self _)
      have hno := startP_no (k := t.r.buf.length + 1) (r := t.r)
      generalize startP (t.r.buf.length + 1) t.r = o at a1 a2 a3 hcl hk hout hno ⊢
      by_cases h1 : o.2.2.1 = true
      · rw [a1 h1]
        rcases hout with ⟨h2, _⟩ | ⟨h9, fs, h2, h3, h4, h5⟩
        · rw [h2] at h1; cases h1
        · unfold stB
          rw [if_pos h1, if_pos h1]
          have := sim_body (t := ⟨o.1, o.2.1.h.status, t.body⟩) hk (hcl.trans hc) (by dsimp only; rw [h4, h5]; exact hl) h3 x
          have ef2 : feedT ⟨o.1, o.2.1.h.status, t.body⟩ x = ⟨app o.1 x, o.2.1.h.status, t.body⟩ := by unfold feedT; rw [feedR_app (hcl.trans hc)]
          rw [ef2] at this
          exact this
      · have h1' : o.2.2.1 = false := by simpa using h1
        obtain ⟨bf, h4, h5, h6⟩ := hno h1'
        by_cases h2 : o.2.2.2 = 0
        · rw [a3 h1' h2]
          unfold stB
          rw [if_neg h1, h2, shortE_0, hcl, hc]
          have ef2 : feedT { t with r := { o.1 with err := shC false } } x = ⟨app o.1 x, t.st, t.body⟩ := by
            unfold feedT feedR app
            dsimp only
            rw [if_neg (by rw [hcl, hc]; simp)]
            have : o.1.err = 0 := by rw [h4]; exact he2
            simp only [shC, if_neg (show ¬ (false = true) by simp)]
            rw [← this]
          rw [ef2]
          have e3 : settleT ⟨app o.1 x, t.st, t.body⟩ = stB ⟨app o.1 x, t.st, t.body⟩ (startP ((app o.1 x).buf.length + 1) (app o.1 x)) :=
            settle_start (t := ⟨app o.1 x, t.st, t.body⟩) (show ¬ (o.1.ended = true ∨ o.1.err ≠ 0) by rw [h4]; exact hl) (show o.1.ph = .start by rw [h4]; exact hp)
          rw [e3]
          have hlen : (app o.1 x).buf.length < (app t.r x).buf.length + 1 := by rw [h4]; simp only [app, List.length_append]; omega
          rw [startP_fuel (k := (app o.1 x).buf.length + 1) (k' := (app t.r x).buf.length + 1) (Nat.lt_succ_self _) hlen]
          refine Sim.of ?_
          unfold stB
          rfl
        · have ha := a2 h1' h2
          unfold stB
          rw [if_neg h1]
          have hb1 : (startP ((app t.r x).buf.length + 1) (app t.r x)).2.2.1 = false := by rw [ha]; exact h1'
          rw [if_neg (by rw [hb1]; simp)]
          obtain ⟨bf2, h7, _, _⟩ := startP_no hb1
          rw [ha, shortE_x h2, shortE_x h2, h4, h7]
          rw [settle_dead (.inr (by unfold feedT feedR; dsimp only; rw [if_neg (by rw [hc]; simp)]; exact h2))]
          unfold feedT feedR
          dsimp only
          rw [if_neg (by rw [hc]; simp)]
          refine ⟨rfl, ?_, rfl, fun e => absurd e h2⟩
          rfl
    · rw [settle_body hl hp, settle_body (t := feedT t x) (by rw [ef]; exact hl) (by rw [ef]; exact hp)]
      exact sim_body hok hc hl hp x
/-! ### told -/
def t0 (m : Bs) : Tl := ⟨Rdr.new m, 0, []⟩
def inT (ps : List Bs) (en : Bool) (t : Tl) (i : Nat) : Tl := match ps[i]? with
  | some p => feedT t p
  | none => if en = true then endT t else t
def toldN (m : Bs) (ps : List Bs) (en : Bool) : Nat → Tl
  | 0 => t0 m
  | i + 1 => settleT (inT ps en (toldN m ps en i) i)
def toldR (m : Bs) (ps : List Bs) (en : Bool) : Tl := toldN m ps en (ps.length + 1)
theorem settle_t0 (m : Bs) : settleT (t0 m) = t0 m := by
  have e : startP 1 (Rdr.new m) = (Rdr.new m, Pc.zero, false, 0) := startP_err (r := Rdr.new m) (k := 0) rfl
  rw [settle_start (t := t0 m) (by simp [t0, Rdr.new]) rfl]
  show stB (t0 m) (startP 1 (Rdr.new m)) = t0 m
  rw [e]
  rfl
/-- What is kept while telling. -/
def TOk (n : Nat) (t : Tl) : Prop := OkR t.r ∧ t.body.length + t.r.buf.length ≤ n
theorem drainK_ok {n : Nat} : ∀ {k : Nat} {t u : Tl}, TOk n t → drainK k t = some u → TOk n u
  | 0, t, u, _, h => by simp [drainK] at h
  | k + 1, t, u, h, hu => by
    obtain ⟨h1, h2⟩ := keeps_next h.1
    have h3 := h.2
    rw [drainK] at hu
    split at hu
    · cases hu
      exact ⟨h1, by dsimp only; omega⟩
    · split at hu
      · exact drainK_ok ⟨h1, by dsimp only; omega⟩ hu
      · split at hu
        · split at hu
          · cases hu
          · exact drainK_ok ⟨h1, by simp only [List.length_append]; omega⟩ hu
        · exact drainK_ok ⟨h1, by dsimp only; omega⟩ hu
theorem settle_ok {n : Nat} {t : Tl} (h : TOk n t) : TOk n (settleT t) := drainK_ok h (drain_eq (k := 0) h.1)
def tot (ps : List Bs) : Nat := (ps.map List.length).sum
theorem tot_take {ps : List Bs} {i : Nat} (h : i < ps.length) : tot (ps.take (i + 1)) = tot (ps.take i) + ps[i].length := by
  unfold tot
  rw [List.take_succ_eq_append_getElem h, List.map_append, List.sum_append]
  simp
theorem tot_le (ps : List Bs) (i : Nat) : tot (ps.take i) ≤ tot ps := by
  unfold tot
  rw [← List.take_append_drop i ps, List.map_append, List.sum_append, List.take_append_drop]
  omega
theorem inT_lt {ps : List Bs} {en : Bool} {t : Tl} {i : Nat} (h : i < ps.length) : inT ps en t i = feedT t ps[i] := by unfold inT; rw [List.getElem?_eq_getElem h]
theorem inT_ge {ps : List Bs} {en : Bool} {t : Tl} {i : Nat} (h : ps.length ≤ i) : inT ps en t i = if en = true then endT t else t := by unfold inT; rw [List.getElem?_eq_none h]
theorem inT_ok {ps : List Bs} {en : Bool} {t : Tl} {i : Nat} (hs : Sml (tot ps)) (h : TOk (tot (ps.take i)) t) : TOk (tot (ps.take (i + 1))) (inT ps en t i) := by
  have h1 := h.2
  rcases Nat.lt_or_ge i ps.length with hi | hi
  · have h2 := tot_take hi
    have h3 := tot_le ps (i + 1)
    have h4 := feedR_len t.r ps[i]
    have h5 := hs.le
    rw [inT_lt hi]
    exact ⟨feedR_ok h.1 (by unfold Sml; omega), by unfold feedT; dsimp only; omega⟩
  · rw [inT_ge hi]
    have e : ps.take (i + 1) = ps.take i := by rw [List.take_of_length_le hi, List.take_of_length_le (by omega)]
    rw [e]
    split
    · exact ⟨endR_ok h.1, h1⟩
    · exact h
theorem toldN_ok {m : Bs} {ps : List Bs} {en : Bool} (hs : Sml (tot ps)) : ∀ i, TOk (tot (ps.take i)) (toldN m ps en i)
  | 0 => ⟨OkR.new, by simp [toldN, t0, Rdr.new]⟩
  | i + 1 => settle_ok (inT_ok hs (toldN_ok hs i))
theorem sim_fold {m : Bs} {ps : List Bs} {en : Bool} (hs : Sml (tot ps)) : ∀ i, i ≤ ps.length → Sim (toldN m ps en i) (settleT (feedT (t0 m) (ps.take i).flatten))
  | 0, _ => by
    refine Sim.of ?_
    have : feedT (t0 m) ([] : List Bs).flatten = t0 m := rfl
    rw [List.take_zero, this, settle_t0]
    rfl
  | i + 1, hi => by
    have ih := sim_fold (m := m) (en := en) hs i (by omega)
    have h1 := ih.feed ps[i]
    rw [toldN, inT_lt (by omega)]
    have hlen : (ps.take i).flatten.length = tot (ps.take i) := by unfold tot; rw [List.length_flatten]
    have h3 := tot_le ps i
    have h5 := hs.le
    have hok : OkR (feedT (t0 m) (ps.take i).flatten).r := feedR_ok OkR.new (by unfold Sml; rw [hlen]; simp only [Rdr.new, List.length_nil]; omega)
    have h2 := sim_settle hok (by rfl) ps[i]
    have e : feedT (feedT (t0 m) (ps.take i).flatten) ps[i] = feedT (t0 m) (ps.take (i + 1)).flatten := by
      rw [List.take_succ_eq_append_getElem (by omega), List.flatten_append]
      simp only [feedT, t0, feedR, Rdr.new, List.flatten_cons, List.flatten_nil, List.append_nil]
      rfl
    rw [e] at h2
    exact h1.trans h2
/-- The plain law of Pieces. -/
theorem told_pieces {m : Bs} {ps : List Bs} {en : Bool} (hs : Sml (tot ps)) : Sim (toldR m ps en) (toldR m [ps.flatten] en) := by
  have h1 := sim_fold (m := m) (en := en) hs ps.length (Nat.le_refl _)
  rw [List.take_length] at h1
  have e : toldN m [ps.flatten] en 1 = settleT (feedT (t0 m) ps.flatten) := by
    rw [toldN, inT_lt (by simp)]
    rfl
  rw [← e] at h1
  have h2 := h1.end en
  show Sim (settleT (inT ps en (toldN m ps en ps.length) ps.length)) (settleT (inT [ps.flatten] en (toldN m [ps.flatten] en 1) 1))
  rw [inT_ge (Nat.le_refl _), inT_ge (by simp)]
  exact h2
end Go.BK
