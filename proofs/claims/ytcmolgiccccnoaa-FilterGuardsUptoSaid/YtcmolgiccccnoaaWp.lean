/- The walks of functions: what each comes to. -/
import Derived.Test.YtcmolgiccccnoaaWv
import Derived.Test.YtcmolgiccccnoaaProg
set_option linter.unusedVariables false
set_option linter.unusedSimpArgs false
namespace Go.Proofs.Ytcmolgiccccnoaa
open Go.RowKit Go.BK

theorem w64_id {z : Int} (h0 : 0 ≤ z) (h1 : z < 18446744073709551616) : w64 z = z := by
  unfold w64 IntKind.wrap
  simp [IntKind.signed, IntKind.bits]
  omega
theorem w64_range (z : Int) : 0 ≤ w64 z ∧ w64 z < 18446744073709551616 := by
  unfold w64 IntKind.wrap
  simp [IntKind.signed, IntKind.bits]
  omega
theorem and64_mod {x : Int} (h0 : 0 ≤ x) (h1 : x < 18446744073709551616) : and64 x 4294967295 = x % 4294967296 := by
  obtain ⟨n, rfl⟩ := Int.eq_ofNat_of_zero_le h0
  have hn : n < 18446744073709551616 := by omega
  have e1 : (BitVec.ofInt 64 (n : Int)).toNat = n := by simp; omega
  have e2 : (BitVec.ofInt 64 (4294967295 : Int)).toNat = 4294967295 := by decide
  have e3 : ((BitVec.ofInt 64 (n : Int)) &&& (BitVec.ofInt 64 4294967295)).toNat = n % 4294967296 := by
    rw [BitVec.toNat_and, e1, e2]
    exact Nat.and_two_pow_sub_one_eq_mod n 32
  have e4 : and64 (n : Int) 4294967295 = w64 (((BitVec.ofInt 64 (n : Int)) &&& (BitVec.ofInt 64 4294967295)).toNat : Nat) := rfl
  rw [e4, e3, w64_id (by omega) (by omega)]
  omega
theorem shr64_32 (x : Int) : shr64 x 32 = x / 4294967296 := rfl
theorem mulHi_100 {x : Int} (h0 : 0 ≤ x) (h1 : x < 18446744073709551616) : 0 ≤ mulHiP x 100 ∧ mulHiP x 100 ≤ 99 := by
  unfold mulHiP
  simp only [and64_mod h0 h1, shr64_32]
  have y0 : and64 100 4294967295 = 100 := by decide
  rw [y0]
  have b0 := Int.emod_nonneg x (show (4294967296 : Int) ≠ 0 by decide)
  have b1 := Int.emod_lt_of_pos x (show (0 : Int) < 4294967296 by decide)
  generalize hx0 : x % 4294967296 = x0 at *
  have c0 : 0 ≤ x / 4294967296 := by omega
  have c1 : x / 4294967296 < 4294967296 := by omega
  generalize hx1 : x / 4294967296 = x1 at *
  rw [w64_id (z := x0 * 100) (by omega) (by omega), w64_id (z := x1 * 100) (by omega) (by omega)]
  have d0 : 0 ≤ x0 * 100 / 4294967296 ∧ x0 * 100 / 4294967296 ≤ 99 := by omega
  generalize x0 * 100 / 4294967296 = k at *
  rw [w64_id (z := x1 * 100 + k) (by omega) (by omega), and64_mod (x := x1 * 100 + k) (by omega) (by omega)]
  have e0 : 0 ≤ (x1 * 100 + k) % 4294967296 ∧ (x1 * 100 + k) % 4294967296 < 4294967296 := by omega
  have e1 : 0 ≤ (x1 * 100 + k) / 4294967296 ∧ (x1 * 100 + k) / 4294967296 ≤ 99 := by omega
  generalize (x1 * 100 + k) % 4294967296 = u at *
  generalize (x1 * 100 + k) / 4294967296 = v at *
  have z0 : (100 : Int) / 4294967296 = 0 := by decide
  rw [z0, Int.mul_zero, Int.mul_zero, w64_id (z := 0) (by omega) (by omega), Int.add_zero, Int.zero_add, w64_id (z := u) (by omega) (by omega), w64_id (z := v) (by omega) (by omega)]
  have f0 : u / 4294967296 = 0 := by omega
  rw [f0, Int.add_zero, w64_id (by omega) (by omega)]
  omega
theorem mixP_range (x : Int) : 0 ≤ mixP x ∧ mixP x < 18446744073709551616 := by
  have : ∀ a b, 0 ≤ xor64 a b ∧ xor64 a b < 18446744073709551616 := fun a b => w64_range _
  exact this _ _
theorem bel_100 (s : Int) : 0 ≤ belP s 100 ∧ belP s 100 ≤ 99 := by
  have h := mulHi_100 (mixP_range (stepD s)).1 (mixP_range (stepD s)).2
  have e : belP s 100 = mulHiP (mixP (stepD s)) 100 := by
    unfold belP
    rw [w64_id (z := 100) (by decide) (by decide)]
    exact wrap_i64 ⟨by omega, by omega⟩
  rw [e]; exact h
/-- What one filter's refusal is like. -/
theorem one_stop {x : Fx} (hr : rightF x.f = true) {s now size : Int} {m : Bs} {l : List Fld} {t : Int × List Fld × Bs} (h : (oneF x s now size m l).2.2.1 = some t) : (t.1 = 200 ∧ m = litOptions) ∨ (400 ≤ t.1 ∧ t.1 ≤ 599) := by
  unfold oneF at h
  split at h
  · cases h
  split at h
  · cases h
  split at h
  · split at h
    · cases h
    · cases h; right; decide
  split at h
  · split at h
    · cases h; right; decide
    · cases h
  split at h
  · split at h
    · rename_i hc; cases h; left; exact ⟨rfl, hc.1⟩
    · cases h
  split at h
  · split at h
    · cases h; right; decide
    · cases h
  split at h
  · rename_i h7
    split at h
    · cases h
      right
      unfold rightF at hr
      rw [if_neg (by omega), if_neg (by omega), if_neg (by omega), if_neg (by omega), if_neg (by omega), if_neg (by omega), if_pos h7] at hr
      simp only [bsimp] at hr
      exact hr.2.2
    · cases h
  · cases h
theorem run_stop (now size : Int) (m : Bs) {t : Int × List Fld × Bs} : ∀ (xs : List Fx) (s : Int) (l : List Fld), (∀ x ∈ xs, rightF x.f = true) → (runF now size m xs s l).2.2.1 = some t → (t.1 = 200 ∧ m = litOptions) ∨ (400 ≤ t.1 ∧ t.1 ≤ 599)
  | [], _, _, _, h => by cases h
  | x :: xs, s, l, hr, h => by
    cases hx : (oneF x s now size m l).2.2.1 with
    | none => rw [runF_none hx] at h; exact run_stop now size m xs _ _ (fun y hy => hr y (by simp [hy])) h
    | some t' =>
      rw [runF_some hx] at h
      obtain rfl : t' = t := by simpa using h
      exact one_stop (hr x (by simp)) hx
theorem one_pass {x : Fx} {s now size : Int} {m : Bs} {l : List Fld} (h : (oneF x s now size m l).2.2.1 = none) : ¬ (x.f.kind = 6 ∧ x.f.n < size) ∧ ¬ (x.f.kind = 7 ∧ x.f.n = 100) ∧ ((x.f.kind = 2 ∨ x.f.kind = 4) → (oneF x s now size m l).2.2.2 = removeF l x.f.name) ∧ (x.f.kind ≠ 1 → ∀ y ∈ (oneF x s now size m l).2.2.2, y ∈ l) := by
  refine ⟨fun hk => ?_, fun hk => ?_, fun hk => ?_, fun hk y hy => ?_⟩
  · unfold oneF at h
    rw [if_neg (by omega), if_neg (by omega), if_neg (by omega), if_neg (by omega), if_neg (by omega), if_pos hk.1] at h
    simp only [if_pos hk.2] at h
    cases h
  · have hb := bel_100 s
    unfold oneF at h
    rw [if_neg (by omega), if_neg (by omega), if_neg (by omega), if_neg (by omega), if_neg (by omega), if_neg (by omega), if_pos hk.1] at h
    simp only [if_pos (show belP s 100 < x.f.n by omega)] at h
    cases h
  · unfold oneF
    rcases hk with hk | hk
    · rw [if_neg (by omega), if_pos hk]
    · rw [if_neg (by omega), if_neg (by omega), if_neg (by omega), if_pos hk]
  · unfold oneF at hy
    rw [if_neg hk] at hy
    repeat' split at hy
    all_goals first | exact hy | exact (List.mem_filter.1 hy).1
theorem run_sub (now size : Int) (m : Bs) : ∀ (xs : List Fx) (s : Int) (l : List Fld), (∀ x ∈ xs, x.f.kind ≠ 1) → (runF now size m xs s l).2.2.1 = none → ∀ y ∈ (runF now size m xs s l).2.2.2, y ∈ l
  | [], _, _, _, _, y, hy => hy
  | x :: xs, s, l, h1, h, y, hy => by
    cases hx : (oneF x s now size m l).2.2.1 with
    | none =>
      rw [runF_none hx] at h hy
      have := run_sub now size m xs _ _ (fun z hz => h1 z (by simp [hz])) h y hy
      exact (one_pass hx).2.2.2 (h1 x (by simp)) y this
    | some t => rw [runF_some hx] at h; cases h
/-- What has gone by a filter has passed it. -/
theorem run_guard (now size : Int) (m : Bs) : ∀ (xs : List Fx) (s : Int) (l : List Fld), (runF now size m xs s l).2.2.1 = none → ∀ (i : Nat) (x : Fx), xs[i]? = some x → ¬ (x.f.kind = 6 ∧ x.f.n < size) ∧ ¬ (x.f.kind = 7 ∧ x.f.n = 100) ∧ ((x.f.kind = 2 ∨ x.f.kind = 4) → (∀ y ∈ xs.drop (i + 1), y.f.kind ≠ 1) → (getF (runF now size m xs s l).2.2.2 x.f.name).2 = 0)
  | [], _, _, _, i, x, hi => by simp at hi
  | z :: xs, s, l, h, i, x, hi => by
    cases hx : (oneF z s now size m l).2.2.1 with
    | none =>
      rw [runF_none hx] at h ⊢
      cases i with
      | zero =>
        obtain rfl : z = x := by simpa using hi
        obtain ⟨p1, p2, p3, p4⟩ := one_pass hx
        refine ⟨p1, p2, fun hk h1 => ?_⟩
        have hs := run_sub now size m xs _ _ (by simpa using h1) h
        unfold getF
        show (List.filter _ _).length = 0
        rw [List.length_eq_zero_iff, List.filter_eq_nil_iff]
        intro y hy
        have := hs y hy
        rw [p3 hk] at this
        have := (List.mem_filter.1 this).2
        simpa using this
      | succ i => exact run_guard now size m xs _ _ h i x (by simpa using hi)
    | some t => rw [runF_some hx] at h; cases h
end Go.Proofs.Ytcmolgiccccnoaa
