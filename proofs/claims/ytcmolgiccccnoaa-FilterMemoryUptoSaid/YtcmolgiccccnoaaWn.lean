/- The walks of functions: what each comes to. -/
import Derived.Test.YtcmolgiccccnoaaWm
import Derived.Test.YtcmolgiccccnoaaProg
set_option linter.unusedVariables false
set_option linter.unusedSimpArgs false
namespace Go.Proofs.Ytcmolgiccccnoaa
open Go.RowKit Go.BK
theorem fa91_5 : fldB Try.prog 91 5 5 = true := by kernel_rfl
theorem fa91_4 : fldB Try.prog 91 4 4 = true := by kernel_rfl
theorem fa91_2 : fldB Try.prog 91 2 2 = true := by kernel_rfl
theorem fa91_3 : fldB Try.prog 91 3 3 = true := by kernel_rfl
theorem fa91_1 : fldB Try.prog 91 1 1 = true := by kernel_rfl
theorem fa91_0 : fldB Try.prog 91 0 0 = true := by kernel_rfl
theorem cl46 : callB Try.prog 46 = true := by kernel_rfl
def stepB (b : Bst) (now : Int) (q : Nat) : Bst := { b with seen := now, filled := b.filled + (q : Int) * b.every, tokens := min b.most (b.tokens + (q : Int) * b.fill) }
theorem stepB_ok {b : Bst} (h : b.ok) {now : Int} (hn : inT b now) {q : Nat} (hq : b.filled + (q : Int) * b.every ≤ now) : (stepB b now q).ok := by
  obtain ⟨m1, m2, f1, f2, e1, e2, t1, t2, s1, s2, s3⟩ := h
  obtain ⟨n1, n2⟩ := hn
  have h1 : 0 ≤ (q : Int) * b.every := Int.mul_nonneg (by omega) (by omega)
  have h2 : 0 ≤ (q : Int) * b.fill := Int.mul_nonneg (by omega) (by omega)
  exact ⟨m1, m2, f1, f2, e1, e2, by simp only [stepB]; omega, by simp only [stepB]; omega, by simp only [stepB]; omega, by simp only [stepB]; omega, n2⟩
theorem stepB_zero {b : Bst} (h : b.ok) (now : Int) : stepB b now 0 = { b with seen := now } := by
  have := h.t2
  have e : min b.most (b.tokens + ((0 : Nat) : Int) * b.fill) = b.tokens := by omega
  have e2 : b.filled + ((0 : Nat) : Int) * b.every = b.filled := by omega
  simp only [stepB, e, e2]
theorem stepB_succ {b : Bst} (h : b.ok) (now : Int) (q : Nat) : stepB b now (q + 1) = { stepB b now q with filled := (stepB b now q).filled + b.every, tokens := min b.most ((stepB b now q).tokens + b.fill) } := by
  have := h.f1
  have e : ((q + 1 : Nat) : Int) * b.every = (q : Int) * b.every + b.every := by rw [Int.natCast_add, Int.add_mul]; omega
  have e2 : ((q + 1 : Nat) : Int) * b.fill = (q : Int) * b.fill + b.fill := by rw [Int.natCast_add, Int.add_mul]; omega
  simp only [stepB, e, e2, Bst.mk.injEq, true_and, and_true]
  omega
theorem stepB_hi {b : Bst} (h : b.ok) {now : Int} {q : Nat} (hh : b.most < (stepB b now q).tokens + b.fill) : stepB b now (q + 1) = { stepB b now q with filled := (stepB b now q).filled + b.every, tokens := b.most } := by
  rw [stepB_succ h, show min b.most ((stepB b now q).tokens + b.fill) = b.most by omega]
theorem stepB_lo {b : Bst} (h : b.ok) {now : Int} {q : Nat} (hh : (stepB b now q).tokens + b.fill ≤ b.most) : stepB b now (q + 1) = { stepB b now q with filled := (stepB b now q).filled + b.every, tokens := (stepB b now q).tokens + b.fill } := by
  rw [stepB_succ h, show min b.most ((stepB b now q).tokens + b.fill) = (stepB b now q).tokens + b.fill by omega]
theorem reck_min {b : Bst} (h : b.ok) (now : Int) : reck b now = { b with seen := now, filled := b.filled + (now - b.filled) / b.every * b.every, tokens := min b.most (b.tokens + (now - b.filled) / b.every * b.fill) } := by
  unfold reck
  have hf := h.f1
  have ht := h.t2
  generalize (now - b.filled) / b.every = T
  congr 1
  split
  · rename_i hc
    have h1 : (b.most - b.tokens) < T * b.fill := by
      have := Int.lt_mul_of_ediv_lt (a := b.most - b.tokens) (b := T) (c := b.fill) (by omega) hc
      exact this
    omega
  · rename_i hc
    have := le_div_mul (t := T) (a := b.most - b.tokens) (b := b.fill) (by omega) (by omega)
    omega
theorem reck_step {b : Bst} (h : b.ok) {now : Int} (hn : inT b now) {q : Nat} (hq : b.filled + (q : Int) * b.every ≤ now) : reck (stepB b now q) now = reck b now := by
  rw [reck_min h, reck_min (stepB_ok h hn hq)]
  have he := h.e1
  have hf := h.f1
  have e : (now - b.filled) / b.every = (now - (b.filled + (q : Int) * b.every)) / b.every + q := by
    rw [← Int.add_mul_ediv_right _ _ (show b.every ≠ 0 by omega)]
    congr 1; omega
  have h0 : 0 ≤ (now - (b.filled + (q : Int) * b.every)) / b.every := Int.ediv_nonneg (by omega) (by omega)
  simp only [stepB]
  rw [e]
  generalize (now - (b.filled + (q : Int) * b.every)) / b.every = k at h0 ⊢
  have e1 : (k + (q : Int)) * b.every = k * b.every + q * b.every := Int.add_mul _ _ _
  have e2 : (k + (q : Int)) * b.fill = k * b.fill + q * b.fill := Int.add_mul _ _ _
  have e3 : 0 ≤ k * b.fill := Int.mul_nonneg h0 (by omega)
  rw [e1, e2]
  simp only [Bst.mk.injEq, true_and, and_true]
  omega
theorem reck_hi {b : Bst} {now k : Int} (hk : (now - b.filled) / b.every = k) (h : (b.most - b.tokens) / b.fill < k) : reck b now = { b with seen := now, filled := b.filled + k * b.every, tokens := b.most } := by
  subst hk; unfold reck; rw [if_pos h]
theorem reck_lo {b : Bst} {now k : Int} (hk : (now - b.filled) / b.every = k) (h : ¬ (b.most - b.tokens) / b.fill < k) : reck b now = { b with seen := now, filled := b.filled + k * b.every, tokens := b.tokens + k * b.fill } := by
  subst hk; unfold reck; rw [if_neg h]
theorem reck_no {b : Bst} (hb : b.ok) {now k : Int} (hk : (now - b.filled) / b.every = k) (h : k = 0 ∨ b.tokens = b.most) (h0 : 0 ≤ k) : reck b now = { b with seen := now, filled := b.filled + k * b.every, tokens := b.tokens } := by
  have h3 := hb.t2
  have h4 := hb.f1
  have e3 : 0 ≤ k * b.fill := Int.mul_nonneg h0 (by omega)
  rw [reck_min hb, hk]
  rcases h with h | h
  · subst h
    rw [show min b.most (b.tokens + 0 * b.fill) = b.tokens by omega]
  · rw [show min b.most (b.tokens + k * b.fill) = b.tokens by omega]
theorem r3_reckon (b : Bst) (hb : b.ok) (now : Int) (hnow : I64 now) (B : Nat) (w : World) (H : St w (Bk [.blk B (encB b) 91 (0, 0)]) w [.blk B (encB b) 91 (0, 0)]) :
    Calls Try.prog 46 #[.pointer (some ⟨B, 0, none⟩), .int .i64 now] w fun e w' => e = .returned (.int .i64 (reckE b now)) ∧ St w (Bk [.blk B (encB b) 91 (0, 0)]) w' [.blk B (encB (reckB b now)) 91 (0, 0)] := by
  obtain ⟨m1, m2, f1, f2, e1, e2, t1, t2, s1, s2, s3⟩ := hb
  unfold I64 at hnow
  refine calls_of Try.func46 rfl Try.ntmps46 (by rfl) (K0 := [(0, _), (1, _)]) ⟨rfl, rfl, trivial⟩ (WC.seq (WC.reg (WL.v (Ev.assign rfl) rfl (WL.nil (WQ.tn (WC.seq (WC.seq (WC.reg (WL.v (Ev.move rfl) rfl (WL.v (Ev.move rfl) rfl (WL.v (Ev.nilCheck rfl) rfl (WL.v (Ev.fieldAddr fa91_5 rfl) rfl (WL.v (Ev.load fl3 rfl (H.cell 0 rfl rfl)) rfl (WL.v (Ev.lss rfl rfl) rfl (WL.v (Ev.move rfl) rfl (WL.g (Met.no rfl rfl) (fun hg => Ev.move rfl) rfl (WL.g (Met.no rfl rfl) (fun hg => Ev.gtr ((evG.un rfl).ev hg) rfl) rfl (WL.v (Ev.or rfl rfl rfl) rfl (WL.nil (WQ.tn (WC.cond rfl (fun h0 => ?_) (fun h0 => ?_))))))))))))))))))))))
  · try simp only [bsimp] at h0
    refine WC.seq (WC.reg (WL.v (Ev.assign rfl) rfl (WL.nil (WQ.tn (WC.ret (WQ.tn_ret (WQ.ret1 rfl rfl ?_)))))))
    have hin : ¬ inT b now := fun hh => by unfold inT at hh; omega
    exact ⟨by rw [reckE, if_neg hin], by rw [reckB, if_neg hin]; exact H⟩
  simp only [bsimp] at h0
  have hin : inT b now := by unfold inT; omega
  refine WC.skip (WQ.tn (WC.seq (WC.reg (WL.v (Ev.move rfl) rfl (WL.v (Ev.move rfl) rfl (WL.v (Ev.nilCheck rfl) rfl (WL.v (Ev.fieldAddr fa91_5 rfl) rfl (WL.store (i := 0) (vs := [_]) rfl rfl rfl sz3 rfl H rfl rfl fun w1 H L => (WL.nil (WQ.tn (WC.seq (WC.seq (WC.reg (WL.v (Ev.assign rfl) rfl (WL.nil (WQ.tn (WC.block (WC.loop (γ := Nat) (fun q => [(0, .pointer (some ⟨B, 0, none⟩)), (1, .int .i64 now), (5, .int .i64 (q : Nat))]) (fun q w1 => q ≤ 100 ∧ b.filled + (q : Int) * b.every ≤ now ∧ St w (Bk [.blk B (encB b) 91 (0, 0)]) w1 [.blk B (encB (stepB b now q)) 91 (0, 0)]) (fun q => 100 - q) 0 (⟨by omega, by unfold inT at hin; omega, by rw [stepB_zero ⟨m1, m2, f1, f2, e1, e2, t1, t2, s1, s2, s3⟩]; exact H⟩) ⟨rfl, rfl, rfl, trivial⟩ ?_))))))))))))))))))
  rintro q w1 ⟨hq, hfl, H⟩
  refine WC.seq (WC.seq ?_)
  have hme0 : (stepB b now q).every = b.every := rfl
  refine WC.drawT mixed (No) 15 [(false, 0), (false, 1), (false, 2), (false, 3), (false, 4), (false, 5), (false, 6), (false, 7), (false, 8), (false, 9), (false, 10), (false, 11), (false, 12), (false, 13), (false, 14)] (by kernel_rfl) ?_
  intro w1 L
  replace H := H.ext L
  refine WX.v rfl (fun w2 hC => Ev.move rfl) rfl (WX.v rfl (fun w2 hC => Ev.lssN (b := 100) rfl rfl) rfl (WX.v rfl (fun w2 hC => Ev.move rfl) rfl (WX.g rfl (Met.yes rfl rfl) (fun hg w2 hC => Ev.move rfl) rfl (WX.g rfl (Met.yes rfl rfl) (fun hg w2 hC => Ev.nilCheck ((evG.un rfl).ev hg)) rfl (WX.g rfl (Met.yes rfl rfl) (fun hg w2 hC => Ev.fieldAddr fa91_4 ((evG.un rfl).ev hg)) rfl (WX.g rfl (Met.yes rfl rfl) (fun hg w2 hC => Ev.load fl3 ((evG.un rfl).ev hg) (Gr.cell hC (fun h => h) (H.cell 0 rfl rfl))) rfl (WX.g rfl (Met.yes rfl rfl) (fun hg w2 hC => Ev.move rfl) rfl (WX.g rfl (Met.yes rfl rfl) (fun hg w2 hC => Ev.move rfl) rfl (WX.g rfl (Met.yes rfl rfl) (fun hg w2 hC => Ev.nilCheck ((evG.un rfl).ev hg)) rfl (WX.g rfl (Met.yes rfl rfl) (fun hg w2 hC => Ev.fieldAddr fa91_2 ((evG.un rfl).ev hg)) rfl (WX.g rfl (Met.yes rfl rfl) (fun hg w2 hC => Ev.load fl3 ((evG.un rfl).ev hg) (Gr.cell hC (fun h => h) (H.cell 0 rfl rfl))) rfl (WX.g rfl (Met.yes rfl rfl) (fun hg w2 hC => Ev.sub ((evG.un rfl).ev hg) ((evG.un rfl).ev hg) (by unfold I64; omega)) rfl (WX.g rfl (Met.yes rfl rfl) (fun hg w2 hC => Ev.leq ((evG.un rfl).ev hg) ((evG.un rfl).ev hg)) rfl (WX.v rfl (fun w2 hC => Ev.and rfl rfl rfl) rfl (WX.nil ?_)))))))))))))))
  refine WQ.tn (WC.cond rfl (fun h2 => ?_) (fun h2 => ?_))
  · simp only [bsimp] at h2
    have hok := stepB_ok (b := b) ⟨m1, m2, f1, f2, e1, e2, t1, t2, s1, s2, s3⟩ hin hfl
    obtain ⟨u1, u2, v1, v2, x1, x2, y1, y2, z1, z2, z3⟩ := hok
    have hme : (stepB b now q).every = b.every := rfl
    have hmf : (stepB b now q).fill = b.fill := rfl
    have hmm : (stepB b now q).most = b.most := rfl
    have hmx : (stepB b now q).filled = b.filled + q * b.every := rfl
    rw [hmm] at y2 u1 u2
    have hqq : ((q + 1 : Nat) : Int) * b.every = (q : Int) * b.every + b.every := by rw [Int.natCast_add, Int.add_mul]; omega
    refine WC.skip (WQ.tn (WC.seq (WC.block (WC.seq (WC.drawT mixed (No) 11 [(false, 0), (false, 1), (false, 2), (false, 3), (false, 4), (false, 5), (false, 6), (false, 7), (false, 8), (false, 9), (false, 10), (true, 11)] (by kernel_rfl) ?_)))))
    intro w1 L
    replace H := H.ext L
    have hK := Gr.refl (No) w1
    have HD := H
    refine WX.v rfl (fun w2 hC => Ev.move rfl) rfl (WX.v rfl (fun w2 hC => Ev.nilCheck rfl) rfl (WX.v rfl (fun w2 hC => Ev.fieldAddr fa91_4 rfl) rfl (WX.v rfl (fun w2 hC => Ev.load fl3 rfl (Gr.cell hC (fun h => h) (HD.cell 0 rfl rfl))) rfl (WX.v rfl (fun w2 hC => Ev.move rfl) rfl (WX.v rfl (fun w2 hC => Ev.nilCheck rfl) rfl (WX.v rfl (fun w2 hC => Ev.fieldAddr fa91_2 rfl) rfl (WX.v rfl (fun w2 hC => Ev.load fl3 rfl (Gr.cell hC (fun h => h) (HD.cell 0 rfl rfl))) rfl (WX.v rfl (fun w2 hC => Ev.add rfl rfl (by unfold I64; omega)) rfl (WX.v rfl (fun w2 hC => Ev.nilCheck rfl) rfl (WX.v rfl (fun w2 hC => Ev.fieldAddr fa91_4 rfl) rfl (WX.loud rfl rfl (WL.store (i := 0) (vs := [_]) rfl rfl rfl sz3 rfl H rfl rfl fun w1 H L => (WL.nil (WQ.back (fun h => absurd rfl h) (WX.nil ?_)))))))))))))))
    refine WQ.tn (WC.seq (WC.drawT mixed (No) 11 [(false, 0), (false, 1), (false, 2), (false, 3), (false, 4), (false, 5), (false, 6), (false, 7), (false, 8), (false, 9), (false, 10), (true, 11)] (by kernel_rfl) ?_))
    intro w1 L
    replace H := H.ext L
    have hK := Gr.refl (No) w1
    have HD := H
    refine WX.v rfl (fun w2 hC => Ev.move rfl) rfl (WX.v rfl (fun w2 hC => Ev.nilCheck rfl) rfl (WX.v rfl (fun w2 hC => Ev.fieldAddr fa91_3 rfl) rfl (WX.v rfl (fun w2 hC => Ev.load fl3 rfl (Gr.cell hC (fun h => h) (HD.cell 0 rfl rfl))) rfl (WX.v rfl (fun w2 hC => Ev.move rfl) rfl (WX.v rfl (fun w2 hC => Ev.nilCheck rfl) rfl (WX.v rfl (fun w2 hC => Ev.fieldAddr fa91_1 rfl) rfl (WX.v rfl (fun w2 hC => Ev.load fl3 rfl (Gr.cell hC (fun h => h) (HD.cell 0 rfl rfl))) rfl (WX.v rfl (fun w2 hC => Ev.add rfl rfl (by unfold I64; omega)) rfl (WX.v rfl (fun w2 hC => Ev.nilCheck rfl) rfl (WX.v rfl (fun w2 hC => Ev.fieldAddr fa91_3 rfl) rfl (WX.loud rfl rfl (WL.store (i := 0) (vs := [_]) rfl rfl rfl sz3 rfl H rfl rfl fun w1 H L => (WL.nil (WQ.back (fun h => absurd rfl h) (WX.nil ?_)))))))))))))))
    refine WQ.tn (WC.seq (WC.drawT mixed (No) 9 [(false, 0), (false, 1), (false, 2), (false, 3), (false, 4), (false, 5), (false, 6), (false, 7), (false, 8)] (by kernel_rfl) ?_))
    intro w1 L
    replace H := H.ext L
    refine WX.v rfl (fun w2 hC => Ev.move rfl) rfl (WX.v rfl (fun w2 hC => Ev.nilCheck rfl) rfl (WX.v rfl (fun w2 hC => Ev.fieldAddr fa91_3 rfl) rfl (WX.v rfl (fun w2 hC => Ev.load fl3 rfl (Gr.cell hC (fun h => h) (H.cell 0 rfl rfl))) rfl (WX.v rfl (fun w2 hC => Ev.move rfl) rfl (WX.v rfl (fun w2 hC => Ev.nilCheck rfl) rfl (WX.v rfl (fun w2 hC => Ev.fieldAddr fa91_0 rfl) rfl (WX.v rfl (fun w2 hC => Ev.load fl3 rfl (Gr.cell hC (fun h => h) (H.cell 0 rfl rfl))) rfl (WX.v rfl (fun w2 hC => Ev.gtr rfl rfl) rfl (WX.nil (WQ.tn (WC.cond rfl (fun h3 => ?_) (fun h3 => ?_))))))))))))
    · try simp only [bsimp] at h3
      refine WC.reg (WL.v (Ev.move rfl) rfl (WL.v (Ev.move rfl) rfl (WL.v (Ev.nilCheck rfl) rfl (WL.v (Ev.fieldAddr fa91_0 rfl) rfl (WL.v (Ev.load fl3 rfl (H.cell 0 rfl rfl)) rfl (WL.v (Ev.nilCheck rfl) rfl (WL.v (Ev.fieldAddr fa91_3 rfl) rfl (WL.store (i := 0) (vs := [_]) rfl rfl rfl sz3 rfl H rfl rfl fun w1 H L => (WL.nil (WQ.blk (WQ.tn (WC.reg (WL.v (Ev.move rfl) rfl (WL.v (Ev.addN (b := 1) rfl rfl (by omega)) rfl (WL.v (Ev.assign rfl) rfl (WL.nil ?_))))))))))))))))
      exact WQ.again (q + 1) (⟨by omega, by omega, by rw [stepB_hi ⟨m1, m2, f1, f2, e1, e2, t1, t2, s1, s2, s3⟩ (by omega)]; exact H⟩) ⟨rfl, rfl, rfl, trivial⟩ (by first | omega | (dsimp only; omega))
    try simp only [bsimp] at h3
    refine WC.skip (WQ.blk (WQ.tn (WC.reg (WL.v (Ev.move rfl) rfl (WL.v (Ev.addN (b := 1) rfl rfl (by omega)) rfl (WL.v (Ev.assign rfl) rfl (WL.nil ?_)))))))
    exact WQ.again (q + 1) (⟨by omega, by omega, by rw [stepB_lo ⟨m1, m2, f1, f2, e1, e2, t1, t2, s1, s2, s3⟩ (by omega)]; exact H⟩) ⟨rfl, rfl, rfl, trivial⟩ (by first | omega | (dsimp only; omega))
  try simp only [bsimp] at h2
  refine WC.exit (WQ.tn_exit (WQ.loop_exit (WQ.blk_here rfl (WQ.tn (WC.seq ?_)))))
  have hq9 := stepB_ok (b := b) ⟨m1, m2, f1, f2, e1, e2, t1, t2, s1, s2, s3⟩ hin hfl
  have hR := reck_step (b := b) ⟨m1, m2, f1, f2, e1, e2, t1, t2, s1, s2, s3⟩ hin hfl
  have hS : (stepB b now q).seen = now := rfl
  have hF : (stepB b now q).filled ≤ now := hfl
  generalize stepB b now q = b2 at hq9 hR hS hF H
  have hq9' := hq9
  obtain ⟨u1, u2, v1, v2, x1, x2, y1, y2, z1, z2, z3⟩ := hq9'
  have hq1 := div_mul_le (a := now - b2.filled) (b := b2.every) (by omega)
  have hq2 := div_mul_nn (a := now - b2.filled) (b := b2.every) (by omega) (by omega)
  have hq5 := div_mul_nn (a := b2.most - b2.tokens) (b := b2.fill) (by omega) (by omega)
  have hq6 := div_mul_le (a := b2.most - b2.tokens) (b := b2.fill) (by omega)
  have hq7 : (b2.most - b2.tokens) / b2.fill ≤ b2.most - b2.tokens := Int.ediv_le_self _ (by omega)
  have hq8 : (now - b2.filled) / b2.every ≤ now - b2.filled := Int.ediv_le_self _ (by omega)
  refine WC.drawT mixed (No) 12 [(false, 0), (false, 1), (false, 2), (false, 3), (false, 4), (false, 5), (false, 6), (false, 7), (false, 8), (false, 9), (false, 10), (false, 11)] (by kernel_rfl) ?_
  intro w1 L
  replace H := H.ext L
  refine WX.v rfl (fun w2 hC => Ev.move rfl) rfl (WX.v rfl (fun w2 hC => Ev.move rfl) rfl (WX.v rfl (fun w2 hC => Ev.nilCheck rfl) rfl (WX.v rfl (fun w2 hC => Ev.fieldAddr fa91_4 rfl) rfl (WX.v rfl (fun w2 hC => Ev.load fl3 rfl (Gr.cell hC (fun h => h) (H.cell 0 rfl rfl))) rfl (WX.v rfl (fun w2 hC => Ev.sub rfl rfl (by unfold I64; omega)) rfl (WX.v rfl (fun w2 hC => Ev.move rfl) rfl (WX.v rfl (fun w2 hC => Ev.nilCheck rfl) rfl (WX.v rfl (fun w2 hC => Ev.fieldAddr fa91_2 rfl) rfl (WX.v rfl (fun w2 hC => Ev.load fl3 rfl (Gr.cell hC (fun h => h) (H.cell 0 rfl rfl))) rfl (WX.v rfl (fun w2 hC => Ev.quo rfl rfl (by omega) (by omega) (by unfold I64; omega)) rfl (WX.v rfl (fun w2 hC => Ev.assign rfl) rfl (WX.nil ?_))))))))))))
  refine WQ.tn (WC.seq (WC.seq (WC.drawT mixed (No) 13 [(false, 0), (false, 1), (false, 2), (false, 3), (false, 4), (false, 5), (false, 6), (false, 7), (false, 8), (false, 9), (false, 10), (false, 11), (false, 12)] (by kernel_rfl) ?_)))
  intro w1 L
  replace H := H.ext L
  refine WX.v rfl (fun w2 hC => Ev.move rfl) rfl (WX.v rfl (fun w2 hC => Ev.gtr rfl rfl) rfl (WX.v rfl (fun w2 hC => Ev.move rfl) rfl (WX.g rfl (Met.yes rfl rfl) (fun hg w2 hC => Ev.move rfl) rfl (WX.g rfl (Met.yes rfl rfl) (fun hg w2 hC => Ev.nilCheck ((evG.un rfl).ev hg)) rfl (WX.g rfl (Met.yes rfl rfl) (fun hg w2 hC => Ev.fieldAddr fa91_3 ((evG.un rfl).ev hg)) rfl (WX.g rfl (Met.yes rfl rfl) (fun hg w2 hC => Ev.load fl3 ((evG.un rfl).ev hg) (Gr.cell hC (fun h => h) (H.cell 0 rfl rfl))) rfl (WX.g rfl (Met.yes rfl rfl) (fun hg w2 hC => Ev.move rfl) rfl (WX.g rfl (Met.yes rfl rfl) (fun hg w2 hC => Ev.nilCheck ((evG.un rfl).ev hg)) rfl (WX.g rfl (Met.yes rfl rfl) (fun hg w2 hC => Ev.fieldAddr fa91_0 ((evG.un rfl).ev hg)) rfl (WX.g rfl (Met.yes rfl rfl) (fun hg w2 hC => Ev.load fl3 ((evG.un rfl).ev hg) (Gr.cell hC (fun h => h) (H.cell 0 rfl rfl))) rfl (WX.g rfl (Met.yes rfl rfl) (fun hg w2 hC => Ev.lss ((evG.un rfl).ev hg) ((evG.un rfl).ev hg)) rfl (WX.v rfl (fun w2 hC => Ev.and rfl rfl rfl) rfl (WX.nil ?_)))))))))))))
  refine WQ.tn (WC.cond rfl (fun h4 => ?_) (fun h4 => ?_))
  · simp only [bsimp] at h4
    refine WC.seq (WC.drawT mixed (No) 10 [(false, 0), (false, 1), (false, 2), (false, 3), (false, 4), (false, 5), (false, 6), (false, 7), (false, 8), (false, 9)] (by kernel_rfl) ?_)
    intro w1 L
    replace H := H.ext L
    refine WX.v rfl (fun w2 hC => Ev.move rfl) rfl (WX.v rfl (fun w2 hC => Ev.nilCheck rfl) rfl (WX.v rfl (fun w2 hC => Ev.fieldAddr fa91_0 rfl) rfl (WX.v rfl (fun w2 hC => Ev.load fl3 rfl (Gr.cell hC (fun h => h) (H.cell 0 rfl rfl))) rfl (WX.v rfl (fun w2 hC => Ev.move rfl) rfl (WX.v rfl (fun w2 hC => Ev.nilCheck rfl) rfl (WX.v rfl (fun w2 hC => Ev.fieldAddr fa91_3 rfl) rfl (WX.v rfl (fun w2 hC => Ev.load fl3 rfl (Gr.cell hC (fun h => h) (H.cell 0 rfl rfl))) rfl (WX.v rfl (fun w2 hC => Ev.sub rfl rfl (by unfold I64; omega)) rfl (WX.v rfl (fun w2 hC => Ev.assign rfl) rfl (WX.nil (WQ.tn ?_)))))))))))
    refine WC.seq (WC.reg (WL.v (Ev.move rfl) rfl (WL.v (Ev.move rfl) rfl (WL.v (Ev.move rfl) rfl (WL.v (Ev.nilCheck rfl) rfl (WL.v (Ev.fieldAddr fa91_1 rfl) rfl (WL.v (Ev.load fl3 rfl (H.cell 0 rfl rfl)) rfl (WL.v (Ev.quo rfl rfl (by omega) (by omega) (by unfold I64; omega)) rfl (WL.v (Ev.add rfl rfl (by unfold I64; omega)) rfl (WL.v (Ev.geq rfl rfl) rfl (WL.nil (WQ.tn (WC.cond rfl (fun h5 => ?_) (fun h5 => ?_))))))))))))))
    · simp only [bsimp] at h5
      have hE := reck_hi (b := b2) (now := now) rfl (by omega)
      refine WC.reg (WL.v (Ev.move rfl) rfl (WL.v (Ev.move rfl) rfl (WL.v (Ev.nilCheck rfl) rfl (WL.v (Ev.fieldAddr fa91_0 rfl) rfl (WL.v (Ev.load fl3 rfl (H.cell 0 rfl rfl)) rfl (WL.v (Ev.nilCheck rfl) rfl (WL.v (Ev.fieldAddr fa91_3 rfl) rfl (WL.store (i := 0) (vs := [_]) rfl rfl rfl sz3 rfl H rfl rfl fun w1 H L => (WL.nil (WQ.tn (WC.seq (WC.drawT mixed (No) 13 [(false, 0), (false, 1), (false, 2), (false, 3), (false, 4), (false, 5), (false, 6), (false, 7), (false, 8), (false, 9), (false, 10), (false, 11), (false, 12), (true, 13)] (by kernel_rfl) ?_))))))))))))
      intro w1 L
      replace H := H.ext L
      have hK := Gr.refl (No) w1
      have HD := H
      refine WX.v rfl (fun w2 hC => Ev.move rfl) rfl (WX.v rfl (fun w2 hC => Ev.nilCheck rfl) rfl (WX.v rfl (fun w2 hC => Ev.fieldAddr fa91_4 rfl) rfl (WX.v rfl (fun w2 hC => Ev.load fl3 rfl (Gr.cell hC (fun h => h) (HD.cell 0 rfl rfl))) rfl (WX.v rfl (fun w2 hC => Ev.move rfl) rfl (WX.v rfl (fun w2 hC => Ev.move rfl) rfl (WX.v rfl (fun w2 hC => Ev.nilCheck rfl) rfl (WX.v rfl (fun w2 hC => Ev.fieldAddr fa91_2 rfl) rfl (WX.v rfl (fun w2 hC => Ev.load fl3 rfl (Gr.cell hC (fun h => h) (HD.cell 0 rfl rfl))) rfl (WX.v rfl (fun w2 hC => Ev.mul rfl rfl (by unfold I64; omega)) rfl (WX.v rfl (fun w2 hC => Ev.add rfl rfl (by unfold I64; omega)) rfl (WX.v rfl (fun w2 hC => Ev.nilCheck rfl) rfl (WX.v rfl (fun w2 hC => Ev.fieldAddr fa91_4 rfl) rfl (WX.loud rfl rfl (WL.store (i := 0) (vs := [_]) rfl rfl rfl sz3 rfl H rfl rfl fun w1 H L => (WL.nil (WQ.back (fun h => absurd rfl h) (WX.nil ?_)))))))))))))))))
      refine WQ.tn (WC.seq (WC.seq (WC.drawT mixed (No) 9 [(false, 0), (false, 1), (false, 2), (false, 3), (false, 4), (false, 5), (false, 6), (false, 7), (false, 8)] (by kernel_rfl) ?_)))
      intro w1 L
      replace H := H.ext L
      refine WX.v rfl (fun w2 hC => Ev.move rfl) rfl (WX.v rfl (fun w2 hC => Ev.nilCheck rfl) rfl (WX.v rfl (fun w2 hC => Ev.fieldAddr fa91_3 rfl) rfl (WX.v rfl (fun w2 hC => Ev.load fl3 rfl (Gr.cell hC (fun h => h) (H.cell 0 rfl rfl))) rfl (WX.v rfl (fun w2 hC => Ev.move rfl) rfl (WX.v rfl (fun w2 hC => Ev.nilCheck rfl) rfl (WX.v rfl (fun w2 hC => Ev.fieldAddr fa91_0 rfl) rfl (WX.v rfl (fun w2 hC => Ev.load fl3 rfl (Gr.cell hC (fun h => h) (H.cell 0 rfl rfl))) rfl (WX.v rfl (fun w2 hC => Ev.gtr rfl rfl) rfl (WX.nil (WQ.tn (WC.cond rfl (fun h6 => ?_) (fun h6 => ?_))))))))))))
      · simp only [bsimp] at h6
        exfalso; omega
      try simp only [bsimp] at h6
      refine WC.skip (WQ.tn (WC.seq (WC.reg (WL.v (Ev.assign rfl) rfl (WL.nil (WQ.tn (WC.ret (WQ.ret1 rfl rfl ?_))))))))
      subst hS
      exact ⟨by rw [reckE, if_pos hin], by rw [reckB, if_pos hin, ← hR, hE]; exact H⟩
    simp only [bsimp] at h5
    have hq3 := le_div_mul (t := (now - b2.filled) / b2.every) (a := b2.most - b2.tokens) (b := b2.fill) (by omega) (by omega)
    have hq4 := Int.mul_nonneg hq2.1 (show 0 ≤ b2.fill by omega)
    have hE := reck_lo (b := b2) (now := now) rfl (by omega)
    refine WC.drawT mixed (No) 13 [(false, 0), (false, 1), (false, 2), (false, 3), (false, 4), (false, 5), (false, 6), (false, 7), (false, 8), (false, 9), (false, 10), (false, 11), (false, 12), (true, 13)] (by kernel_rfl) ?_
    intro w1 L
    replace H := H.ext L
    have hK := Gr.refl (No) w1
    have HD := H
    refine WX.v rfl (fun w2 hC => Ev.move rfl) rfl (WX.v rfl (fun w2 hC => Ev.nilCheck rfl) rfl (WX.v rfl (fun w2 hC => Ev.fieldAddr fa91_3 rfl) rfl (WX.v rfl (fun w2 hC => Ev.load fl3 rfl (Gr.cell hC (fun h => h) (HD.cell 0 rfl rfl))) rfl (WX.v rfl (fun w2 hC => Ev.move rfl) rfl (WX.v rfl (fun w2 hC => Ev.move rfl) rfl (WX.v rfl (fun w2 hC => Ev.nilCheck rfl) rfl (WX.v rfl (fun w2 hC => Ev.fieldAddr fa91_1 rfl) rfl (WX.v rfl (fun w2 hC => Ev.load fl3 rfl (Gr.cell hC (fun h => h) (HD.cell 0 rfl rfl))) rfl (WX.v rfl (fun w2 hC => Ev.mul rfl rfl (by unfold I64; omega)) rfl (WX.v rfl (fun w2 hC => Ev.add rfl rfl (by unfold I64; omega)) rfl (WX.v rfl (fun w2 hC => Ev.nilCheck rfl) rfl (WX.v rfl (fun w2 hC => Ev.fieldAddr fa91_3 rfl) rfl (WX.loud rfl rfl (WL.store (i := 0) (vs := [_]) rfl rfl rfl sz3 rfl H rfl rfl fun w1 H L => (WL.nil (WQ.back (fun h => absurd rfl h) (WX.nil ?_)))))))))))))))))
    refine WQ.tn (WC.seq (WC.drawT mixed (No) 13 [(false, 0), (false, 1), (false, 2), (false, 3), (false, 4), (false, 5), (false, 6), (false, 7), (false, 8), (false, 9), (false, 10), (false, 11), (false, 12), (true, 13)] (by kernel_rfl) ?_))
    intro w1 L
    replace H := H.ext L
    have hK := Gr.refl (No) w1
    have HD := H
    refine WX.v rfl (fun w2 hC => Ev.move rfl) rfl (WX.v rfl (fun w2 hC => Ev.nilCheck rfl) rfl (WX.v rfl (fun w2 hC => Ev.fieldAddr fa91_4 rfl) rfl (WX.v rfl (fun w2 hC => Ev.load fl3 rfl (Gr.cell hC (fun h => h) (HD.cell 0 rfl rfl))) rfl (WX.v rfl (fun w2 hC => Ev.move rfl) rfl (WX.v rfl (fun w2 hC => Ev.move rfl) rfl (WX.v rfl (fun w2 hC => Ev.nilCheck rfl) rfl (WX.v rfl (fun w2 hC => Ev.fieldAddr fa91_2 rfl) rfl (WX.v rfl (fun w2 hC => Ev.load fl3 rfl (Gr.cell hC (fun h => h) (HD.cell 0 rfl rfl))) rfl (WX.v rfl (fun w2 hC => Ev.mul rfl rfl (by unfold I64; omega)) rfl (WX.v rfl (fun w2 hC => Ev.add rfl rfl (by unfold I64; omega)) rfl (WX.v rfl (fun w2 hC => Ev.nilCheck rfl) rfl (WX.v rfl (fun w2 hC => Ev.fieldAddr fa91_4 rfl) rfl (WX.loud rfl rfl (WL.store (i := 0) (vs := [_]) rfl rfl rfl sz3 rfl H rfl rfl fun w1 H L => (WL.nil (WQ.back (fun h => absurd rfl h) (WX.nil ?_)))))))))))))))))
    refine WQ.tn (WC.seq (WC.seq (WC.drawT mixed (No) 9 [(false, 0), (false, 1), (false, 2), (false, 3), (false, 4), (false, 5), (false, 6), (false, 7), (false, 8)] (by kernel_rfl) ?_)))
    intro w1 L
    replace H := H.ext L
    refine WX.v rfl (fun w2 hC => Ev.move rfl) rfl (WX.v rfl (fun w2 hC => Ev.nilCheck rfl) rfl (WX.v rfl (fun w2 hC => Ev.fieldAddr fa91_3 rfl) rfl (WX.v rfl (fun w2 hC => Ev.load fl3 rfl (Gr.cell hC (fun h => h) (H.cell 0 rfl rfl))) rfl (WX.v rfl (fun w2 hC => Ev.move rfl) rfl (WX.v rfl (fun w2 hC => Ev.nilCheck rfl) rfl (WX.v rfl (fun w2 hC => Ev.fieldAddr fa91_0 rfl) rfl (WX.v rfl (fun w2 hC => Ev.load fl3 rfl (Gr.cell hC (fun h => h) (H.cell 0 rfl rfl))) rfl (WX.v rfl (fun w2 hC => Ev.gtr rfl rfl) rfl (WX.nil (WQ.tn (WC.cond rfl (fun h6 => ?_) (fun h6 => ?_))))))))))))
    · simp only [bsimp] at h6
      exfalso; omega
    try simp only [bsimp] at h6
    refine WC.skip (WQ.tn (WC.seq (WC.reg (WL.v (Ev.assign rfl) rfl (WL.nil (WQ.tn (WC.ret (WQ.ret1 rfl rfl ?_))))))))
    subst hS
    exact ⟨by rw [reckE, if_pos hin], by rw [reckB, if_pos hin, ← hR, hE]; exact H⟩
  try simp only [bsimp] at h4
  refine WC.skip (WQ.tn (WC.seq ?_))
  have hE := reck_no hq9 (now := now) rfl (by omega) hq2.1
  refine WC.drawT mixed (No) 13 [(false, 0), (false, 1), (false, 2), (false, 3), (false, 4), (false, 5), (false, 6), (false, 7), (false, 8), (false, 9), (false, 10), (false, 11), (false, 12), (true, 13)] (by kernel_rfl) ?_
  intro w1 L
  replace H := H.ext L
  have hK := Gr.refl (No) w1
  have HD := H
  refine WX.v rfl (fun w2 hC => Ev.move rfl) rfl (WX.v rfl (fun w2 hC => Ev.nilCheck rfl) rfl (WX.v rfl (fun w2 hC => Ev.fieldAddr fa91_4 rfl) rfl (WX.v rfl (fun w2 hC => Ev.load fl3 rfl (Gr.cell hC (fun h => h) (HD.cell 0 rfl rfl))) rfl (WX.v rfl (fun w2 hC => Ev.move rfl) rfl (WX.v rfl (fun w2 hC => Ev.move rfl) rfl (WX.v rfl (fun w2 hC => Ev.nilCheck rfl) rfl (WX.v rfl (fun w2 hC => Ev.fieldAddr fa91_2 rfl) rfl (WX.v rfl (fun w2 hC => Ev.load fl3 rfl (Gr.cell hC (fun h => h) (HD.cell 0 rfl rfl))) rfl (WX.v rfl (fun w2 hC => Ev.mul rfl rfl (by unfold I64; omega)) rfl (WX.v rfl (fun w2 hC => Ev.add rfl rfl (by unfold I64; omega)) rfl (WX.v rfl (fun w2 hC => Ev.nilCheck rfl) rfl (WX.v rfl (fun w2 hC => Ev.fieldAddr fa91_4 rfl) rfl (WX.loud rfl rfl (WL.store (i := 0) (vs := [_]) rfl rfl rfl sz3 rfl H rfl rfl fun w1 H L => (WL.nil (WQ.back (fun h => absurd rfl h) (WX.nil ?_)))))))))))))))))
  refine WQ.tn (WC.seq (WC.seq (WC.drawT mixed (No) 9 [(false, 0), (false, 1), (false, 2), (false, 3), (false, 4), (false, 5), (false, 6), (false, 7), (false, 8)] (by kernel_rfl) ?_)))
  intro w1 L
  replace H := H.ext L
  refine WX.v rfl (fun w2 hC => Ev.move rfl) rfl (WX.v rfl (fun w2 hC => Ev.nilCheck rfl) rfl (WX.v rfl (fun w2 hC => Ev.fieldAddr fa91_3 rfl) rfl (WX.v rfl (fun w2 hC => Ev.load fl3 rfl (Gr.cell hC (fun h => h) (H.cell 0 rfl rfl))) rfl (WX.v rfl (fun w2 hC => Ev.move rfl) rfl (WX.v rfl (fun w2 hC => Ev.nilCheck rfl) rfl (WX.v rfl (fun w2 hC => Ev.fieldAddr fa91_0 rfl) rfl (WX.v rfl (fun w2 hC => Ev.load fl3 rfl (Gr.cell hC (fun h => h) (H.cell 0 rfl rfl))) rfl (WX.v rfl (fun w2 hC => Ev.gtr rfl rfl) rfl (WX.nil (WQ.tn (WC.cond rfl (fun h6 => ?_) (fun h6 => ?_))))))))))))
  · simp only [bsimp] at h6
    exfalso; omega
  try simp only [bsimp] at h6
  refine WC.skip (WQ.tn (WC.seq (WC.reg (WL.v (Ev.assign rfl) rfl (WL.nil (WQ.tn (WC.ret (WQ.ret1 rfl rfl ?_))))))))
  subst hS
  exact ⟨by rw [reckE, if_pos hin], by rw [reckB, if_pos hin, ← hR, hE]; exact H⟩
theorem r3_Take (b : Bst) (hb : b.ok) (now n : Int) (hnow : I64 now) (hn : I64 n) (B : Nat) (w : World) (H : St w (Bk [.blk B (encB b) 91 (0, 0)]) w [.blk B (encB b) 91 (0, 0)]) :
    Calls Try.prog 38 #[.pointer (some ⟨B, 0, none⟩), .int .i64 now, .int .i64 n] w fun e w' => e = .returned (.tuple #[.bool (takeR b now n).1, .int .i64 (takeR b now n).2.1]) ∧ St w (Bk [.blk B (encB b) 91 (0, 0)]) w' [.blk B (encB (takeR b now n).2.2) 91 (0, 0)] := by
  obtain ⟨m1, m2, f1, f2, e1, e2, t1, t2, s1, s2, s3⟩ := reckB_ok hb now
  unfold I64 at hn
  refine calls_of Try.func38 rfl Try.ntmps38 (by rfl) (K0 := [(0, _), (1, _), (2, _)]) ⟨rfl, rfl, rfl, trivial⟩ (WC.seq (WC.reg (WL.v (Ev.assign rfl) rfl (WL.v (Ev.assign rfl) rfl (WL.nil (WQ.tn (WC.seq (WC.reg (WL.v (Ev.move rfl) rfl (WL.v (Ev.move rfl) rfl (WL.call (vs := [_, _]) rfl cl46 rfl (r3_reckon b hb now hnow B w H) ?_)))))))))))
  rintro _ w1 ⟨rfl, H⟩
  refine ⟨_, rfl, ?_⟩
  refine WL.v (Ev.assign rfl) rfl (WL.nil (WQ.tn (WC.seq (WC.seq (WC.reg (WL.v (Ev.move rfl) rfl (WL.v (Ev.nei rfl rfl) rfl (WL.nil (WQ.tn (WC.cond rfl (fun h0 => ?_) (fun h0 => ?_)))))))))))
  · try simp only [bsimp] at h0
    refine WC.seq (WC.reg (WL.v (Ev.move rfl) rfl (WL.v (Ev.assign rfl) rfl (WL.v (Ev.assign rfl) rfl (WL.nil (WQ.tn (WC.ret (WQ.tn_ret (WQ.ret2 rfl rfl rfl ?_)))))))))
    unfold takeR; rw [if_pos h0]; exact ⟨rfl, H⟩
  try simp only [bsimp] at h0
  refine WC.skip (WQ.tn (WC.seq (WC.seq (WC.reg (WL.v (Ev.move rfl) rfl (WL.v (Ev.lss rfl rfl) rfl (WL.v (Ev.move rfl) rfl (WL.g (Met.no rfl rfl) (fun hg => Ev.move rfl) rfl (WL.g (Met.no rfl rfl) (fun hg => Ev.move rfl) rfl (WL.g (Met.no rfl rfl) (fun hg => Ev.nilCheck ((evG.un rfl).ev hg)) rfl (WL.g (Met.no rfl rfl) (fun hg => Ev.fieldAddr fa91_3 ((evG.un rfl).ev hg)) rfl (WL.g (Met.no rfl rfl) (fun hg => Ev.load fl3 ((evG.un rfl).ev hg) (H.cell 0 rfl rfl)) rfl (WL.g (Met.no rfl rfl) (fun hg => Ev.gtr ((evG.un rfl).ev hg) ((evG.un rfl).ev hg)) rfl (WL.v (Ev.or rfl rfl rfl) rfl (WL.nil ?_)))))))))))))))
  refine WQ.tn (WC.cond rfl (fun h1 => ?_) (fun h1 => ?_))
  · try simp only [bsimp] at h1
    refine WC.seq (WC.reg (WL.v (Ev.assign rfl) rfl (WL.v (Ev.assign rfl) rfl (WL.nil (WQ.tn (WC.ret (WQ.tn_ret (WQ.ret2 rfl rfl rfl ?_))))))))
    unfold takeR; rw [if_neg (by omega), if_neg (by omega)]; exact ⟨rfl, H⟩
  try simp only [bsimp] at h1
  refine WC.skip (WQ.tn (WC.seq (WC.reg (WL.v (Ev.move rfl) rfl (WL.v (Ev.nilCheck rfl) rfl (WL.v (Ev.fieldAddr fa91_3 rfl) rfl (WL.v (Ev.load fl3 rfl (H.cell 0 rfl rfl)) rfl (WL.v (Ev.move rfl) rfl (WL.v (Ev.sub rfl rfl (by unfold I64; omega)) rfl (WL.v (Ev.nilCheck rfl) rfl (WL.v (Ev.fieldAddr fa91_3 rfl) rfl (WL.store (i := 0) (vs := [_]) rfl rfl rfl sz3 rfl H rfl rfl fun w1 H L => (WL.nil (WQ.tn (WC.seq (WC.reg (WL.v (Ev.assign rfl) rfl (WL.v (Ev.assign rfl) rfl (WL.nil (WQ.tn (WC.ret (WQ.ret2 rfl rfl rfl ?_))))))))))))))))))))))
  unfold takeR; rw [if_neg (by omega), if_pos (by omega)]; exact ⟨rfl, H⟩
end Go.Proofs.Ytcmolgiccccnoaa
