/- The walks of functions: what each comes to. -/
import Derived.Test.YtcmolgiccccnoaaWg
import Derived.Test.YtcmolgiccccnoaaProg
set_option linter.unusedVariables false
set_option linter.unusedSimpArgs false
namespace Go.Proofs.Ytcmolgiccccnoaa
open Go.RowKit Go.BK
theorem fa112_5 : fldB Try.prog 112 5 5 = true := by kernel_rfl
theorem cl35 : callB Try.prog 35 = true := by kernel_rfl
theorem fa112_4 : fldB Try.prog 112 4 4 = true := by kernel_rfl
theorem fa112_2 : fldB Try.prog 112 2 2 = true := by kernel_rfl
theorem fa112_0 : fldB Try.prog 112 0 0 = true := by kernel_rfl
theorem fa112_3 : fldB Try.prog 112 3 3 = true := by kernel_rfl
theorem fa112_1 : fldB Try.prog 112 1 1 = true := by kernel_rfl
theorem cl77 : callB Try.prog 77 = true := by kernel_rfl
theorem pl112 : plOf Try.prog 112 = some [(0, 1), (1, 1), (2, 1), (3, 1), (4, 1), (5, 1)] := by kernel_rfl
theorem z112 : zOk Try.prog 112 (.agg #[.int .i64 0, .int .i64 0, .int .i64 0, .int .i64 0, .int .i64 0, .int .i64 0]) := by unfold zOk; kernel_rfl
theorem pl110 : plOf Try.prog 110 = some [(0, 1), (1, 1)] := by kernel_rfl
theorem z110 : zOk Try.prog 110 (.agg #[.int .u64 0, .int .i64 0]) := by unfold zOk; kernel_rfl
structure Bst where
  most : Int
  fill : Int
  every : Int
  tokens : Int
  filled : Int
  seen : Int
def encB (b : Bst) : List Value := [.int .i64 b.most, .int .i64 b.fill, .int .i64 b.every, .int .i64 b.tokens, .int .i64 b.filled, .int .i64 b.seen]
structure Bst.ok (b : Bst) : Prop where
  m1 : 1 ≤ b.most
  m2 : b.most ≤ 1073741824
  f1 : 1 ≤ b.fill
  f2 : b.fill ≤ 1073741824
  e1 : 1 ≤ b.every
  e2 : b.every ≤ 1073741824
  t1 : 0 ≤ b.tokens
  t2 : b.tokens ≤ b.most
  s1 : 0 ≤ b.filled
  s2 : b.filled ≤ b.seen
  s3 : b.seen ≤ 1099511627776
def inT (b : Bst) (now : Int) : Prop := b.seen ≤ now ∧ now ≤ 1099511627776
instance (b : Bst) (now : Int) : Decidable (inT b now) := inferInstanceAs (Decidable (_ ∧ _))
def reck (b : Bst) (now : Int) : Bst := { b with seen := now, filled := b.filled + (now - b.filled) / b.every * b.every, tokens := if (b.most - b.tokens) / b.fill < (now - b.filled) / b.every then b.most else b.tokens + (now - b.filled) / b.every * b.fill }
def reckB (b : Bst) (now : Int) : Bst := if inT b now then reck b now else b
def reckE (b : Bst) (now : Int) : Int := if inT b now then 0 else 20
theorem div_mul_le {a b : Int} (h : 0 < b) : a / b * b ≤ a := Int.ediv_mul_le a (by omega)
theorem div_mul_nn {a b : Int} (ha : 0 ≤ a) (h : 0 < b) : 0 ≤ a / b ∧ 0 ≤ a / b * b := ⟨Int.ediv_nonneg ha (by omega), Int.mul_nonneg (Int.ediv_nonneg ha (by omega)) (by omega)⟩
theorem le_div_mul {t a b : Int} (h : 0 < b) (ht : t ≤ a / b) : t * b ≤ a := Int.le_trans (Int.mul_le_mul_of_nonneg_right ht (by omega)) (div_mul_le h)
theorem reck_ok {b : Bst} (h : b.ok) {now : Int} (hn : inT b now) : (reck b now).ok := by
  obtain ⟨m1, m2, f1, f2, e1, e2, t1, t2, s1, s2, s3⟩ := h
  obtain ⟨n1, n2⟩ := hn
  have h1 := div_mul_le (a := now - b.filled) (b := b.every) (by omega)
  have h2 := div_mul_nn (a := now - b.filled) (b := b.every) (by omega) (by omega)
  have h3 := div_mul_nn (a := b.most - b.tokens) (b := b.fill) (by omega) (by omega)
  refine ⟨m1, m2, f1, f2, e1, e2, ?_, ?_, ?_, ?_, n2⟩ <;> simp only [reck]
  · split
    · omega
    · have := Int.mul_nonneg h2.1 (show 0 ≤ b.fill by omega); omega
  · split
    · omega
    · rename_i h; have := le_div_mul (t := (now - b.filled) / b.every) (a := b.most - b.tokens) (b := b.fill) (by omega) (by omega); omega
  · omega
  · omega
theorem reckB_ok {b : Bst} (h : b.ok) (now : Int) : (reckB b now).ok := by
  unfold reckB; split
  · exact reck_ok h (by assumption)
  · exact h
/-- What Take gives: whether, the error, the bucket behind. -/
def takeR (b : Bst) (now n : Int) : Bool × Int × Bst :=
  if reckE b now ≠ 0 then (false, reckE b now, reckB b now)
  else if 1 ≤ n ∧ n ≤ (reckB b now).tokens then (true, 0, { reckB b now with tokens := (reckB b now).tokens - n })
  else (false, 0, reckB b now)
theorem takeR_ok {b : Bst} (h : b.ok) (now n : Int) : (takeR b now n).2.2.ok := by
  unfold takeR
  have h1 := reckB_ok h now
  split
  · exact h1
  · split
    · obtain ⟨m1, m2, f1, f2, e1, e2, t1, t2, s1, s2, s3⟩ := h1
      exact ⟨m1, m2, f1, f2, e1, e2, by simp only; omega, by simp only; omega, s1, s2, s3⟩
    · exact h1
def newB (most fill every now : Int) : Bst := ⟨most, fill, every, most, now, now⟩
def goodB (most fill every : Int) : Prop := (1 ≤ most ∧ most ≤ 1073741824) ∧ (1 ≤ fill ∧ fill ≤ 1073741824) ∧ (1 ≤ every ∧ every ≤ 1073741824)
instance (a b c : Int) : Decidable (goodB a b c) := inferInstanceAs (Decidable (_ ∧ _))
theorem newB_ok {m f e : Int} (h : goodB m f e) : (newB m f e 0).ok := by
  obtain ⟨h1, h2, h3⟩ := h
  exact ⟨h1.1, h1.2, h2.1, h2.2, h3.1, h3.2, by simp only [newB]; omega, by simp only [newB]; omega, by simp only [newB]; omega, by simp only [newB]; omega, by simp only [newB]; omega⟩
theorem bk_within (n lo hi : Int) (w : World) :
    Calls Try.prog 35 #[.int .i64 n, .int .i64 lo, .int .i64 hi] w fun e w' => e = .returned (.bool (decide (lo ≤ n) && decide (n ≤ hi))) ∧ St w No w' [] := by
  refine calls_of Try.func35 rfl Try.ntmps35 (by rfl) (K0 := [(0, _), (1, _), (2, _)]) ⟨rfl, rfl, rfl, trivial⟩ ?_
  have H := St.init w
  refine WC.seq (WC.reg (WL.v (Ev.assign rfl) rfl (WL.nil (WQ.tn (WC.seq (WC.reg (WL.v (Ev.move rfl) rfl (WL.v (Ev.move rfl) rfl (WL.v (Ev.geq rfl rfl) rfl (WL.v (Ev.move rfl) rfl (WL.g (Met.yes rfl rfl) (fun hg => Ev.move rfl) rfl (WL.g (Met.yes rfl rfl) (fun hg => Ev.move rfl) rfl (WL.g (Met.yes rfl rfl) (fun hg => Ev.leq ((evG.un rfl).ev hg) ((evG.un rfl).ev hg)) rfl (WL.v (Ev.and rfl rfl rfl) rfl (WL.v (Ev.assign rfl) rfl (WL.nil (WQ.tn (WC.ret (WQ.ret1 rfl rfl ?_)))))))))))))))))))
  exact ⟨rfl, H⟩
theorem bk_reckon (b : Bst) (hb : b.ok) (now : Int) (hnow : I64 now) (B : Nat) (w : World) (H : St w (Bk [.blk B (encB b) 112 (0, 0)]) w [.blk B (encB b) 112 (0, 0)]) :
    Calls Try.prog 77 #[.pointer (some ⟨B, 0, none⟩), .int .i64 now] w fun e w' => e = .returned (.int .i64 (reckE b now)) ∧ St w (Bk [.blk B (encB b) 112 (0, 0)]) w' [.blk B (encB (reckB b now)) 112 (0, 0)] := by
  obtain ⟨m1, m2, f1, f2, e1, e2, t1, t2, s1, s2, s3⟩ := hb
  unfold I64 at hnow
  refine calls_of Try.func77 rfl Try.ntmps77 (by rfl) (K0 := [(0, _), (1, _)]) ⟨rfl, rfl, trivial⟩ (WC.seq (WC.reg (WL.v (Ev.assign rfl) rfl (WL.nil (WQ.tn (WC.seq (WC.seq (WC.reg (WL.v (Ev.move rfl) rfl (WL.v (Ev.move rfl) rfl (WL.v (Ev.nilCheck rfl) rfl (WL.v (Ev.fieldAddr fa112_5 rfl) rfl (WL.v (Ev.load fl3 rfl (H.cell 0 rfl rfl)) rfl (WL.callS (vs := [_, _, _]) rfl cl35 rfl H (bk_within _ _ _ _) fun w1 H L => (WL.v (Ev.not rfl) rfl (WL.nil (WQ.tn (WC.cond rfl (fun h0 => ?_) (fun h0 => ?_)))))))))))))))))))
  · try simp only [bsimp] at h0
    refine WC.seq (WC.reg (WL.v (Ev.assign rfl) rfl (WL.nil (WQ.tn (WC.ret (WQ.tn_ret (WQ.ret1 rfl rfl ?_)))))))
    have hin : ¬ inT b now := fun hh => by unfold inT at hh; omega
    exact ⟨by rw [reckE, if_neg hin], by rw [reckB, if_neg hin]; exact H⟩
  simp only [bsimp] at h0
  have hin : inT b now := h0
  have hq1 := div_mul_le (a := now - b.filled) (b := b.every) (by omega)
  have hq2 := div_mul_nn (a := now - b.filled) (b := b.every) (by omega) (by omega)
  refine WC.skip (WQ.tn (WC.seq (WC.reg (WL.v (Ev.move rfl) rfl (WL.v (Ev.move rfl) rfl (WL.v (Ev.nilCheck rfl) rfl (WL.v (Ev.fieldAddr fa112_5 rfl) rfl (WL.store (i := 0) (vs := [_]) rfl rfl rfl sz3 rfl H rfl rfl fun w1 H L => (WL.nil (WQ.tn (WC.seq (WC.drawT mixed (No) 12 [(false, 0), (false, 1), (false, 2), (false, 3), (false, 4), (false, 5), (false, 6), (false, 7), (false, 8), (false, 9), (false, 10), (false, 11)] (by kernel_rfl) ?_))))))))))))
  intro w1 L
  replace H := H.ext L
  refine WX.v rfl (fun w2 hC => Ev.move rfl) rfl (WX.v rfl (fun w2 hC => Ev.move rfl) rfl (WX.v rfl (fun w2 hC => Ev.nilCheck rfl) rfl (WX.v rfl (fun w2 hC => Ev.fieldAddr fa112_4 rfl) rfl (WX.v rfl (fun w2 hC => Ev.load fl3 rfl (Gr.cell hC (fun h => h) (H.cell 0 rfl rfl))) rfl (WX.v rfl (fun w2 hC => Ev.sub rfl rfl (by unfold I64; omega)) rfl (WX.v rfl (fun w2 hC => Ev.move rfl) rfl (WX.v rfl (fun w2 hC => Ev.nilCheck rfl) rfl (WX.v rfl (fun w2 hC => Ev.fieldAddr fa112_2 rfl) rfl (WX.v rfl (fun w2 hC => Ev.load fl3 rfl (Gr.cell hC (fun h => h) (H.cell 0 rfl rfl))) rfl (WX.v rfl (fun w2 hC => Ev.quo rfl rfl (by omega) (by omega) (by unfold I64; omega)) rfl (WX.v rfl (fun w2 hC => Ev.assign rfl) rfl (WX.nil ?_))))))))))))
  refine WQ.tn (WC.seq (WC.drawT mixed (No) 13 [(false, 0), (false, 1), (false, 2), (false, 3), (false, 4), (false, 5), (false, 6), (false, 7), (false, 8), (false, 9), (false, 10), (false, 11), (false, 12), (true, 13)] (by kernel_rfl) ?_))
  intro w1 L
  replace H := H.ext L
  have hK := Gr.refl (No) w1
  have HD := H
  refine WX.v rfl (fun w2 hC => Ev.move rfl) rfl (WX.v rfl (fun w2 hC => Ev.nilCheck rfl) rfl (WX.v rfl (fun w2 hC => Ev.fieldAddr fa112_4 rfl) rfl (WX.v rfl (fun w2 hC => Ev.load fl3 rfl (Gr.cell hC (fun h => h) (HD.cell 0 rfl rfl))) rfl (WX.v rfl (fun w2 hC => Ev.move rfl) rfl (WX.v rfl (fun w2 hC => Ev.move rfl) rfl (WX.v rfl (fun w2 hC => Ev.nilCheck rfl) rfl (WX.v rfl (fun w2 hC => Ev.fieldAddr fa112_2 rfl) rfl (WX.v rfl (fun w2 hC => Ev.load fl3 rfl (Gr.cell hC (fun h => h) (HD.cell 0 rfl rfl))) rfl (WX.v rfl (fun w2 hC => Ev.mul rfl rfl (by unfold I64; omega)) rfl (WX.v rfl (fun w2 hC => Ev.add rfl rfl (by unfold I64; omega)) rfl (WX.v rfl (fun w2 hC => Ev.nilCheck rfl) rfl (WX.v rfl (fun w2 hC => Ev.fieldAddr fa112_4 rfl) rfl (WX.loud rfl rfl (WL.store (i := 0) (vs := [_]) rfl rfl rfl sz3 rfl H rfl rfl fun w1 H L => (WL.nil (WQ.back (fun h => absurd rfl h) (WX.nil ?_)))))))))))))))))
  refine WQ.tn (WC.seq (WC.seq (WC.drawT mixed (No) 16 [(false, 0), (false, 1), (false, 2), (false, 3), (false, 4), (false, 5), (false, 6), (false, 7), (false, 8), (false, 9), (false, 10), (false, 11), (false, 12), (false, 13), (false, 14), (false, 15)] (by kernel_rfl) ?_)))
  intro w1 L
  replace H := H.ext L
  refine WX.v rfl (fun w2 hC => Ev.move rfl) rfl (WX.v rfl (fun w2 hC => Ev.move rfl) rfl (WX.v rfl (fun w2 hC => Ev.nilCheck rfl) rfl (WX.v rfl (fun w2 hC => Ev.fieldAddr fa112_0 rfl) rfl (WX.v rfl (fun w2 hC => Ev.load fl3 rfl (Gr.cell hC (fun h => h) (H.cell 0 rfl rfl))) rfl (WX.v rfl (fun w2 hC => Ev.move rfl) rfl (WX.v rfl (fun w2 hC => Ev.nilCheck rfl) rfl (WX.v rfl (fun w2 hC => Ev.fieldAddr fa112_3 rfl) rfl (WX.v rfl (fun w2 hC => Ev.load fl3 rfl (Gr.cell hC (fun h => h) (H.cell 0 rfl rfl))) rfl (WX.v rfl (fun w2 hC => Ev.sub rfl rfl (by unfold I64; omega)) rfl (WX.v rfl (fun w2 hC => Ev.move rfl) rfl (WX.v rfl (fun w2 hC => Ev.nilCheck rfl) rfl (WX.v rfl (fun w2 hC => Ev.fieldAddr fa112_1 rfl) rfl (WX.v rfl (fun w2 hC => Ev.load fl3 rfl (Gr.cell hC (fun h => h) (H.cell 0 rfl rfl))) rfl (WX.v rfl (fun w2 hC => Ev.quo rfl rfl (by omega) (by omega) (by unfold I64; omega)) rfl (WX.v rfl (fun w2 hC => Ev.gtr rfl rfl) rfl (WX.nil ?_))))))))))))))))
  refine WQ.tn (WC.cond rfl (fun h1 => ?_) (fun h1 => ?_))
  · try simp only [bsimp] at h1
    refine WC.reg (WL.v (Ev.move rfl) rfl (WL.v (Ev.move rfl) rfl (WL.v (Ev.nilCheck rfl) rfl (WL.v (Ev.fieldAddr fa112_0 rfl) rfl (WL.v (Ev.load fl3 rfl (H.cell 0 rfl rfl)) rfl (WL.v (Ev.nilCheck rfl) rfl (WL.v (Ev.fieldAddr fa112_3 rfl) rfl (WL.store (i := 0) (vs := [_]) rfl rfl rfl sz3 rfl H rfl rfl fun w1 H L => (WL.nil (WQ.tn (WC.seq (WC.reg (WL.v (Ev.assign rfl) rfl (WL.nil (WQ.tn (WC.ret (WQ.ret1 rfl rfl ?_)))))))))))))))))
    exact ⟨by rw [reckE, if_pos hin], by rw [reckB, if_pos hin]; unfold reck; rw [if_pos h1]; exact H⟩
  simp only [bsimp] at h1
  have hq3 := le_div_mul (t := (now - b.filled) / b.every) (a := b.most - b.tokens) (b := b.fill) (by omega) (by omega)
  have hq4 := Int.mul_nonneg hq2.1 (show 0 ≤ b.fill by omega)
  refine WC.drawT mixed (No) 13 [(false, 0), (false, 1), (false, 2), (false, 3), (false, 4), (false, 5), (false, 6), (false, 7), (false, 8), (false, 9), (false, 10), (false, 11), (false, 12), (true, 13)] (by kernel_rfl) ?_
  intro w1 L
  replace H := H.ext L
  have hK := Gr.refl (No) w1
  have HD := H
  refine WX.v rfl (fun w2 hC => Ev.move rfl) rfl (WX.v rfl (fun w2 hC => Ev.nilCheck rfl) rfl (WX.v rfl (fun w2 hC => Ev.fieldAddr fa112_3 rfl) rfl (WX.v rfl (fun w2 hC => Ev.load fl3 rfl (Gr.cell hC (fun h => h) (HD.cell 0 rfl rfl))) rfl (WX.v rfl (fun w2 hC => Ev.move rfl) rfl (WX.v rfl (fun w2 hC => Ev.move rfl) rfl (WX.v rfl (fun w2 hC => Ev.nilCheck rfl) rfl (WX.v rfl (fun w2 hC => Ev.fieldAddr fa112_1 rfl) rfl (WX.v rfl (fun w2 hC => Ev.load fl3 rfl (Gr.cell hC (fun h => h) (HD.cell 0 rfl rfl))) rfl (WX.v rfl (fun w2 hC => Ev.mul rfl rfl (by unfold I64; omega)) rfl (WX.v rfl (fun w2 hC => Ev.add rfl rfl (by unfold I64; omega)) rfl (WX.v rfl (fun w2 hC => Ev.nilCheck rfl) rfl (WX.v rfl (fun w2 hC => Ev.fieldAddr fa112_3 rfl) rfl (WX.loud rfl rfl (WL.store (i := 0) (vs := [_]) rfl rfl rfl sz3 rfl H rfl rfl fun w1 H L => (WL.nil (WQ.back (fun h => absurd rfl h) (WX.nil ?_)))))))))))))))))
  refine WQ.tn (WC.seq (WC.reg (WL.v (Ev.assign rfl) rfl (WL.nil (WQ.tn (WC.ret (WQ.ret1 rfl rfl ?_)))))))
  exact ⟨by rw [reckE, if_pos hin], by rw [reckB, if_pos hin]; unfold reck; rw [if_neg (by omega)]; exact H⟩
theorem bk_Take (b : Bst) (hb : b.ok) (now n : Int) (hnow : I64 now) (hn : I64 n) (B : Nat) (w : World) (H : St w (Bk [.blk B (encB b) 112 (0, 0)]) w [.blk B (encB b) 112 (0, 0)]) :
    Calls Try.prog 79 #[.pointer (some ⟨B, 0, none⟩), .int .i64 now, .int .i64 n] w fun e w' => e = .returned (.tuple #[.bool (takeR b now n).1, .int .i64 (takeR b now n).2.1]) ∧ St w (Bk [.blk B (encB b) 112 (0, 0)]) w' [.blk B (encB (takeR b now n).2.2) 112 (0, 0)] := by
  obtain ⟨m1, m2, f1, f2, e1, e2, t1, t2, s1, s2, s3⟩ := reckB_ok hb now
  unfold I64 at hn
  refine calls_of Try.func79 rfl Try.ntmps79 (by rfl) (K0 := [(0, _), (1, _), (2, _)]) ⟨rfl, rfl, rfl, trivial⟩ (WC.seq (WC.reg (WL.v (Ev.assign rfl) rfl (WL.v (Ev.assign rfl) rfl (WL.nil (WQ.tn (WC.seq (WC.seq (WC.reg (WL.v (Ev.move rfl) rfl (WL.v (Ev.move rfl) rfl (WL.call (vs := [_, _]) rfl cl77 rfl (bk_reckon b hb now hnow B w H) ?_))))))))))))
  rintro _ w1 ⟨rfl, H⟩
  refine ⟨_, rfl, ?_⟩
  refine WL.v (Ev.assign rfl) rfl (WL.nil (WQ.tn (WC.seq (WC.reg (WL.v (Ev.move rfl) rfl (WL.v (Ev.nei rfl rfl) rfl (WL.nil (WQ.tn (WC.cond rfl (fun h0 => ?_) (fun h0 => ?_))))))))))
  · try simp only [bsimp] at h0
    refine WC.seq (WC.reg (WL.v (Ev.move rfl) rfl (WL.v (Ev.assign rfl) rfl (WL.v (Ev.assign rfl) rfl (WL.nil (WQ.tn (WC.ret (WQ.tn_ret (WQ.ret2 rfl rfl rfl ?_)))))))))
    unfold takeR; rw [if_pos h0]; exact ⟨rfl, H⟩
  try simp only [bsimp] at h0
  refine WC.skip (WQ.tn (WC.seq (WC.seq (WC.reg (WL.v (Ev.move rfl) rfl (WL.v (Ev.move rfl) rfl (WL.v (Ev.nilCheck rfl) rfl (WL.v (Ev.fieldAddr fa112_3 rfl) rfl (WL.v (Ev.load fl3 rfl (H.cell 0 rfl rfl)) rfl (WL.callS (vs := [_, _, _]) rfl cl35 rfl H (bk_within _ _ _ _) fun w1 H L => (WL.v (Ev.not rfl) rfl (WL.nil (WQ.tn (WC.cond rfl (fun h1 => ?_) (fun h1 => ?_)))))))))))))))
  · try simp only [bsimp] at h1
    refine WC.seq (WC.reg (WL.v (Ev.assign rfl) rfl (WL.v (Ev.assign rfl) rfl (WL.nil (WQ.tn (WC.ret (WQ.tn_ret (WQ.ret2 rfl rfl rfl ?_))))))))
    unfold takeR; rw [if_neg (by omega), if_neg (by omega)]; exact ⟨rfl, H⟩
  try simp only [bsimp] at h1
  refine WC.skip (WQ.tn (WC.seq (WC.reg (WL.v (Ev.move rfl) rfl (WL.v (Ev.nilCheck rfl) rfl (WL.v (Ev.fieldAddr fa112_3 rfl) rfl (WL.v (Ev.load fl3 rfl (H.cell 0 rfl rfl)) rfl (WL.v (Ev.move rfl) rfl (WL.v (Ev.sub rfl rfl (by unfold I64; omega)) rfl (WL.v (Ev.nilCheck rfl) rfl (WL.v (Ev.fieldAddr fa112_3 rfl) rfl (WL.store (i := 0) (vs := [_]) rfl rfl rfl sz3 rfl H rfl rfl fun w1 H L => (WL.nil (WQ.tn (WC.seq (WC.reg (WL.v (Ev.assign rfl) rfl (WL.v (Ev.assign rfl) rfl (WL.nil (WQ.tn (WC.ret (WQ.ret2 rfl rfl rfl ?_))))))))))))))))))))))
  unfold takeR; rw [if_neg (by omega), if_pos (by omega)]; exact ⟨rfl, H⟩
theorem bk_New (m f e : Int) (hg : goodB m f e) (w : World) :
    Calls Try.prog 24 #[.int .i64 m, .int .i64 f, .int .i64 e, .int .i64 0] w fun r w' => ∃ B, r = .returned (.tuple #[.pointer (some ⟨B, 0, none⟩), .int .i64 0]) ∧ St w No w' [.blk B (encB (newB m f e 0)) 112 (0, 0)] := by
  obtain ⟨g1, g2, g3⟩ := hg
  refine calls_of Try.func24 rfl Try.ntmps24 (by rfl) (K0 := [(0, _), (1, _), (2, _), (3, _)]) ⟨rfl, rfl, rfl, rfl, trivial⟩ ?_
  have H := St.init w
  refine WC.seq (WC.reg (WL.v (Ev.assign rfl) rfl (WL.v (Ev.assign rfl) rfl (WL.nil (WQ.tn (WC.seq (WC.seq (WC.reg (WL.v (Ev.move rfl) rfl (WL.callS (vs := [_, _, _]) rfl cl35 rfl H (bk_within _ _ _ _) fun w1 H L => (WL.v (Ev.not rfl) rfl (WL.v (Ev.move rfl) rfl (WL.g (Met.no rfl rfl) (fun hg => Ev.move rfl) rfl (WL.gcallS (vs := [_, _, _]) (Met.no rfl rfl) (fun hg => (evs_cons ((evG.un rfl).ev hg) (evs_cons rfl (evs_cons rfl rfl)))) cl35 rfl H (fun hg => bk_within _ _ _ _) fun w1 H L => (WL.g (Met.no rfl rfl) (fun hg => Ev.not ((evG.un rfl).ev hg)) rfl (WL.v (Ev.or rfl rfl rfl) rfl (WL.v (Ev.move rfl) rfl (WL.g (Met.no rfl rfl) (fun hg => Ev.move rfl) rfl (WL.gcallS (vs := [_, _, _]) (Met.no rfl rfl) (fun hg => (evs_cons ((evG.un rfl).ev hg) (evs_cons rfl (evs_cons rfl rfl)))) cl35 rfl H (fun hg => bk_within _ _ _ _) fun w1 H L => (WL.g (Met.no rfl rfl) (fun hg => Ev.not ((evG.un rfl).ev hg)) rfl (WL.v (Ev.or rfl rfl rfl) rfl (WL.nil ?_))))))))))))))))))))))
  refine WQ.tn (WC.cond rfl (fun h0 => ?_) (fun h0 => ?_))
  · simp only [bsimp] at h0
    exfalso; omega
  try simp only [bsimp] at h0
  refine WC.skip (WQ.tn (WC.seq (WC.seq (WC.reg (WL.v (Ev.move rfl) rfl (WL.callS (vs := [_, _, _]) rfl cl35 rfl H (bk_within _ _ _ _) fun w1 H L => (WL.v (Ev.not rfl) rfl (WL.nil (WQ.tn (WC.cond rfl (fun h1 => ?_) (fun h1 => ?_)))))))))))
  · simp only [bsimp] at h1
    exfalso; omega
  try simp only [bsimp] at h1
  refine WC.skip (WQ.tn (WC.seq (WC.reg (WL.v (Ev.move rfl) rfl (WL.v (Ev.move rfl) rfl (WL.v (Ev.move rfl) rfl (WL.v (Ev.move rfl) rfl (WL.v (Ev.move rfl) rfl (WL.v (Ev.move rfl) rfl (WL.v (Ev.build (vs := [_, _, _, _, _, _]) (ps := [(_, _), (_, _), (_, _), (_, _), (_, _), (_, _)]) pl112 z112 rfl rfl) rfl (WL.box (t := 112) (cs := [_, _, _, _, _, _]) rfl rfl H rfl fun b1 w1 hb1 H L => (WL.v (Ev.assign rfl) rfl (WL.v (Ev.assign rfl) rfl (WL.nil (WQ.tn (WC.ret (WQ.ret2 rfl rfl rfl ?_)))))))))))))))))
  exact ⟨_, rfl, H⟩
theorem dc_New (s : Int) (w : World) :
    Calls Try.prog 23 #[.int .i64 s] w fun r w' => ∃ d, r = .returned (.pointer (some ⟨d, 0, none⟩)) ∧ St w No w' [.blk d [.int .u64 (IntKind.u64.wrap s), .int .i64 0] 110 (0, 0)] := by
  refine calls_of Try.func23 rfl Try.ntmps23 (by rfl) (K0 := [(0, _)]) ⟨rfl, trivial⟩ ?_
  have H := St.init w
  refine WC.seq (WC.reg (WL.v (Ev.assign rfl) rfl (WL.nil (WQ.tn (WC.seq (WC.reg (WL.v (Ev.move rfl) rfl (WL.v (Ev.conv Try.underlying3 Try.underlying82 rfl) rfl (WL.v (Ev.build (vs := [_, _]) (ps := [(_, _)]) pl110 z110 rfl rfl) rfl (WL.box (t := 110) (cs := [_, _]) rfl rfl H rfl fun b1 w1 hb1 H L => (WL.v (Ev.assign rfl) rfl (WL.nil (WQ.tn (WC.ret (WQ.ret1 rfl rfl ?_)))))))))))))))
  exact ⟨_, rfl, H⟩
end Go.Proofs.Ytcmolgiccccnoaa
