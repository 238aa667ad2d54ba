/- The walks of functions: what each comes to. -/
import Derived.Test.YtodappgiadelaaaDoorXl0
import Derived.Test.YtodappgiadelaaaDoorProg
set_option linter.unusedVariables false
set_option linter.unusedSimpArgs false
namespace Go.Proofs.YtodappgiadelaaaDoor
open Go.RowKit Go.BK
theorem cl68 : callB Tryd.prog 68 = true := by kernel_rfl
theorem cl57 : callB Tryd.prog 57 = true := by kernel_rfl
theorem cl69 : callB Tryd.prog 69 = true := by kernel_rfl
theorem cl62 : callB Tryd.prog 62 = true := by kernel_rfl
theorem cl47 : callB Tryd.prog 47 = true := by kernel_rfl
theorem lx_letter (c : Int) (w : World) :
    Calls Tryd.prog 68 #[.int .u8 c] w fun e w' => e = .returned (.bool (isLetter c)) ∧ St w No w' [] := by
  refine calls_of Tryd.func68 rfl Tryd.ntmps68 (by rfl) (K0 := [(0, _)]) ⟨rfl, trivial⟩ ?_
  have H := St.init w
  refine WC.seq (WC.reg (WL.v (Ev.assign rfl) rfl (WL.nil (WQ.tn (WC.seq (WC.reg (WL.v (Ev.move rfl) rfl (WL.v (Ev.geq rfl rfl) rfl (WL.v (Ev.move rfl) rfl (WL.g (Met.yes rfl rfl) (fun hg => Ev.move rfl) rfl (WL.g (Met.yes rfl rfl) (fun hg => Ev.leq ((evG.un rfl).ev hg) rfl) rfl (WL.v (Ev.and rfl rfl rfl) rfl (WL.v (Ev.move rfl) rfl (WL.g (Met.no rfl rfl) (fun hg => Ev.move rfl) rfl (WL.g (Met.no rfl rfl) (fun hg => Ev.geq ((evG.un rfl).ev hg) rfl) rfl (WL.g (Met.no rfl rfl) (fun hg => Ev.move ((evG.un rfl).ev hg)) rfl (WL.g (Met.gyes rfl rfl) (fun hg => Ev.move rfl) rfl (WL.g (Met.gyes rfl rfl) (fun hg => Ev.leq ((evG.un rfl).ev hg) rfl) rfl (WL.g (Met.no rfl rfl) (fun hg => Ev.and ((evG.un rfl).ev hg) ((evG.nest rfl).ev hg) rfl) rfl (WL.v (Ev.or rfl rfl rfl) rfl (WL.v (Ev.assign rfl) rfl (WL.nil ?_))))))))))))))))))))))
  refine WQ.tn (WC.ret (WQ.ret1 rfl rfl ?_))
  exact ⟨rfl, H⟩
theorem lx_digit (c : Int) (w : World) :
    Calls Tryd.prog 57 #[.int .u8 c] w fun e w' => e = .returned (.bool (isDigit c)) ∧ St w No w' [] := by
  refine calls_of Tryd.func57 rfl Tryd.ntmps57 (by rfl) (K0 := [(0, _)]) ⟨rfl, trivial⟩ ?_
  have H := St.init w
  refine WC.seq (WC.reg (WL.v (Ev.assign rfl) rfl (WL.nil (WQ.tn (WC.seq (WC.reg (WL.v (Ev.move rfl) rfl (WL.v (Ev.geq rfl rfl) rfl (WL.v (Ev.move rfl) rfl (WL.g (Met.yes rfl rfl) (fun hg => Ev.move rfl) rfl (WL.g (Met.yes rfl rfl) (fun hg => Ev.leq ((evG.un rfl).ev hg) rfl) rfl (WL.v (Ev.and rfl rfl rfl) rfl (WL.v (Ev.assign rfl) rfl (WL.nil (WQ.tn (WC.ret (WQ.ret1 rfl rfl ?_)))))))))))))))))
  exact ⟨rfl, H⟩
def litMarks : Bs := ([33, 35, 36, 37, 38, 39, 42, 43, 45, 46, 94, 95, 124, 126, 96] : Bs)
theorem marks_all : ∀ c : Fin 256, decide (Lib.indexByte litMarks (UInt8.ofNat c.1) < 0) = !isMark (c.1 : Int) := by decide +kernel
theorem marks_at (c : UInt8) : decide (Lib.indexByte litMarks c < 0) = !isMark (c.toNat : Int) := by
  have h := marks_all ⟨c.toNat, c.toNat_lt⟩
  simpa using h
theorem marks_byte {s : Bs} {j : Nat} (h : j < s.length) : decide (Lib.indexByte litMarks (byteAt s j).toNat.toUInt8 < 0) = !isMark (byteAt s j) := by
  rw [byteAt_get h]
  have e : ((s[j].toNat : Int)).toNat.toUInt8 = s[j] := by rw [Int.toNat_natCast]; simp [Nat.toUInt8]
  rw [e]; exact marks_at _
theorem tok_no {s : Bs} {j : Nat} (hj : j < s.length) (h : tokc (byteAt s j) = false) : token s = false := by
  rw [byteAt_get hj] at h
  have := all_no (p := fun c : UInt8 => tokc (c.toNat : Int)) hj h
  unfold token; rw [this]; simp
theorem tok_end {s : Bs} (h : (s.take s.length).all (fun c => tokc (c.toNat : Int)) = true) : token s = decide (s ≠ []) := by
  rw [List.take_length] at h
  unfold token; rw [h]; simp
theorem lx_Token (s : Bs) (hs : Sml s.length) (w : World) :
    Calls Tryd.prog 55 #[str s] w fun e w' => e = .returned (.bool (token s)) ∧ St w No w' [] := by
  have hs := hs.le
  refine calls_of Tryd.func55 rfl Tryd.ntmps55 (by rfl) (K0 := [(0, _)]) ⟨rfl, trivial⟩ ?_
  have H := St.init w
  refine WC.seq (WC.reg (WL.v (Ev.assign rfl) rfl (WL.nil (WQ.tn (WC.seq (WC.seq (WC.reg (WL.v (Ev.move rfl) rfl (WL.v (Ev.lens Tryd.underlying9 rfl) rfl (WL.v (Ev.move rfl) rfl (WL.nil (WQ.tn (WC.block (WC.loop (γ := Nat) (fun j => [(0, str s), (6, .int .i64 (s.length : Nat)), (7, .int .i64 (j : Nat))]) (fun j w1 => j ≤ s.length ∧ (s.take j).all (fun c => tokc (c.toNat : Int)) = true ∧ St w No w1 []) (fun j => s.length - j) 0 (⟨Nat.zero_le _, by simp, H⟩) ⟨rfl, rfl, rfl, trivial⟩ ?_))))))))))))))
  rintro j w1 ⟨hj, ha, H⟩
  refine WC.seq (WC.reg (WL.v (Ev.lssN rfl rfl) rfl (WL.nil (WQ.tn (WC.seq (WC.cond rfl (fun h1 => ?_) (fun h1 => ?_)))))))
  · try simp only [bsimp] at h1
    refine WC.skip (WQ.tn (WC.seq (WC.block (WC.seq (WC.reg (WL.v (Ev.move rfl) rfl (WL.v (Ev.assign rfl) rfl (WL.nil (WQ.tn (WC.seq (WC.reg (WL.v (Ev.move rfl) rfl (WL.v (Ev.move rfl) rfl (WL.v (Ev.ch Tryd.underlying9 rfl rfl (by omega)) rfl (WL.v (Ev.assign rfl) rfl (WL.nil (WQ.tn (WC.seq (WC.reg (WL.v (Ev.move rfl) rfl (WL.callS (vs := [_]) rfl cl68 rfl H (lx_letter _ _) fun w1 H L => (WL.v (Ev.not rfl) rfl (WL.v (Ev.move rfl) rfl (WL.g (Met.yes rfl rfl) (fun hg => Ev.move rfl) rfl (WL.gcallS (vs := [_]) (Met.yes rfl rfl) (fun hg => (evs_cons ((evG.un rfl).ev hg) rfl)) cl57 rfl H (fun hg => lx_digit _ _) fun w1 H L => (WL.g (Met.yes rfl rfl) (fun hg => Ev.not ((evG.un rfl).ev hg)) rfl (WL.v (Ev.and rfl rfl rfl) rfl (WL.v (Ev.move rfl) rfl (WL.g (Met.yes rfl rfl) (fun hg => Ev.move rfl) rfl (WL.gcallS (vs := [_, _]) (Met.yes rfl rfl) (fun hg => (evs_cons rfl (evs_cons ((evG.un rfl).ev hg) rfl))) cl69 rfl H (fun hg => lb_IndexByte litMarks _ _) fun w1 H L => (WL.g (Met.yes rfl rfl) (fun hg => Ev.lss ((evG.un rfl).ev hg) rfl) rfl (WL.v (Ev.and rfl rfl rfl) rfl (WL.nil ?_)))))))))))))))))))))))))))))))))
    refine WQ.tn (WC.cond rfl (fun h2 => ?_) (fun h2 => ?_))
    · have hno : tokc (byteAt s j) = false := by
        simp only [bsimp, marks_byte h1] at h2
        unfold tokc
        simp only [h2.1.1, h2.1.2, h2.2, Bool.or_false]
      refine WC.seq (WC.reg (WL.v (Ev.assign rfl) rfl (WL.nil (WQ.tn (WC.ret (WQ.blk_ret (WQ.tn_ret (WQ.loop_ret (WQ.blk_ret (WQ.tn_ret (WQ.ret1 rfl rfl ?_)))))))))))
      exact ⟨by rw [tok_no h1 hno], H⟩
    have hyes : tokc (byteAt s j) = true := by
      simp only [bsimp, marks_byte h1] at h2
      unfold tokc
      simp only [Bool.or_eq_true]
      exact h2
    refine WC.skip (WQ.blk (WQ.tn (WC.reg (WL.v (Ev.addN (b := 1) rfl rfl (by omega)) rfl (WL.v (Ev.move rfl) rfl (WL.nil ?_))))))
    exact WQ.again (j + 1) (⟨by omega, all_take_succ h1 ha (by rw [← byteAt_get h1]; exact hyes), H⟩) ⟨rfl, rfl, rfl, trivial⟩ (by first | omega | (dsimp only; omega))
  try simp only [bsimp] at h1
  refine WC.exit (WQ.tn_exit (WQ.loop_exit (WQ.blk_here rfl (WQ.tn (WC.seq (WC.reg (WL.v (Ev.move rfl) rfl (WL.v (Ev.nes rfl rfl) rfl (WL.v (Ev.assign rfl) rfl (WL.nil (WQ.tn (WC.ret (WQ.ret1 rfl rfl ?_)))))))))))))
  obtain rfl : j = s.length := by omega
  exact ⟨by rw [tok_end ha], H⟩
theorem lx_Trim (s : Bs) (hs : Sml s.length) (w : World) :
    Calls Tryd.prog 47 #[str s] w fun e w' => e = .returned (str (trim s)) ∧ St w No w' [] := by
  refine calls_of Tryd.func47 rfl Tryd.ntmps47 (by rfl) (K0 := [(0, _)]) ⟨rfl, trivial⟩ ?_
  have H := St.init w
  refine WC.seq (WC.reg (WL.v (Ev.assign rfl) rfl (WL.nil (WQ.tn (WC.seq (WC.reg (WL.v (Ev.move rfl) rfl (WL.callS (vs := [_, _]) rfl cl62 rfl H (lb_Trim s hs _) fun w1 H L => (WL.v (Ev.assign rfl) rfl (WL.nil (WQ.tn (WC.ret (WQ.ret1 rfl rfl ?_)))))))))))))
  exact ⟨rfl, H⟩
theorem valc_i (c : UInt8) : valc c = !(decide ((c.toNat : Int) ≠ 9) && (decide ((c.toNat : Int) < 32) || decide ((c.toNat : Int) = 127))) := by
  unfold valc
  rw [Bool.eq_iff_iff]
  simp only [Bool.not_eq_true', Bool.or_eq_false_iff, Bool.and_eq_false_iff, decide_eq_false_iff_not, Bool.not_eq_false', decide_eq_true_eq, ne_eq]
  omega
theorem valc_byte {s : Bs} {j : Nat} (h : j < s.length) : valc s[j] = !(decide (byteAt s j ≠ 9) && (decide (byteAt s j < 32) || decide (byteAt s j = 127))) := by rw [byteAt_get h, valc_i]
theorem val_no {s : Bs} {j : Nat} (h : j < s.length) (hv : valc s[j] = false) : value s = false := by
  have := all_no (p := valc) h hv
  simp [value, this]
theorem lx_Value (s : Bs) (hs : Sml s.length) (w : World) :
    Calls Tryd.prog 56 #[str s] w fun e w' => e = .returned (.bool (value s)) ∧ St w No w' [] := by
  have hs9 := hs.le
  refine calls_of Tryd.func56 rfl Tryd.ntmps56 (by rfl) (K0 := [(0, _)]) ⟨rfl, trivial⟩ ?_
  have H := St.init w
  refine WC.seq (WC.reg (WL.v (Ev.assign rfl) rfl (WL.nil (WQ.tn (WC.seq (WC.seq (WC.reg (WL.v (Ev.move rfl) rfl (WL.v (Ev.lens Tryd.underlying9 rfl) rfl (WL.v (Ev.move rfl) rfl (WL.nil (WQ.tn (WC.block (WC.loop (γ := Nat) (fun j => [(0, str s), (6, .int .i64 (s.length : Nat)), (7, .int .i64 (j : Nat))]) (fun j w1 => j ≤ s.length ∧ (s.take j).all valc = true ∧ St w No w1 []) (fun j => s.length - j) 0 (⟨Nat.zero_le _, by simp, H⟩) ⟨rfl, rfl, rfl, trivial⟩ ?_))))))))))))))
  rintro j w1 ⟨hj, ha, H⟩
  refine WC.seq (WC.reg (WL.v (Ev.lssN rfl rfl) rfl (WL.nil (WQ.tn (WC.seq (WC.cond rfl (fun h1 => ?_) (fun h1 => ?_)))))))
  · try simp only [bsimp] at h1
    refine WC.skip (WQ.tn (WC.seq (WC.block (WC.seq (WC.reg (WL.v (Ev.move rfl) rfl (WL.v (Ev.assign rfl) rfl (WL.nil (WQ.tn (WC.seq (WC.reg (WL.v (Ev.move rfl) rfl (WL.v (Ev.move rfl) rfl (WL.v (Ev.ch Tryd.underlying9 rfl rfl (by omega)) rfl (WL.v (Ev.assign rfl) rfl (WL.nil (WQ.tn (WC.seq (WC.reg (WL.v (Ev.move rfl) rfl (WL.v (Ev.nei rfl rfl) rfl (WL.v (Ev.move rfl) rfl (WL.g (Met.yes rfl rfl) (fun hg => Ev.move rfl) rfl (WL.g (Met.yes rfl rfl) (fun hg => Ev.lss ((evG.un rfl).ev hg) rfl) rfl (WL.g (Met.yes rfl rfl) (fun hg => Ev.move ((evG.un rfl).ev hg)) rfl (WL.g (Met.gno rfl rfl) (fun hg => Ev.move rfl) rfl (WL.g (Met.gno rfl rfl) (fun hg => Ev.eqi ((evG.un rfl).ev hg) rfl) rfl (WL.g (Met.yes rfl rfl) (fun hg => Ev.or ((evG.un rfl).ev hg) rfl ((evG.nest rfl).ev hg)) rfl (WL.v (Ev.and rfl rfl rfl) rfl (WL.nil ?_))))))))))))))))))))))))))))))
    refine WQ.tn (WC.cond rfl (fun h2 => ?_) (fun h2 => ?_))
    · have hv : valc s[j] = false := by rw [valc_byte h1, h2]; rfl
      refine WC.seq (WC.reg (WL.v (Ev.assign rfl) rfl (WL.nil (WQ.tn (WC.ret (WQ.blk_ret (WQ.tn_ret (WQ.loop_ret (WQ.blk_ret (WQ.tn_ret (WQ.ret1 rfl rfl ?_)))))))))))
      exact ⟨by rw [val_no h1 hv], H⟩
    have hv : valc s[j] = true := by rw [valc_byte h1, h2]; rfl
    refine WC.skip (WQ.blk (WQ.tn (WC.reg (WL.v (Ev.addN (b := 1) rfl rfl (by omega)) rfl (WL.v (Ev.move rfl) rfl (WL.nil ?_))))))
    exact WQ.again (j + 1) (⟨by omega, all_take_succ h1 ha hv, H⟩) ⟨rfl, rfl, rfl, trivial⟩ (by first | omega | (dsimp only; omega))
  try simp only [bsimp] at h1
  refine WC.exit (WQ.tn_exit (WQ.loop_exit (WQ.blk_here rfl (WQ.tn (WC.seq (WC.reg (WL.v (Ev.move rfl) rfl (WL.callS (vs := [_]) rfl cl47 rfl H (lx_Trim s hs _) fun w1 H L => (WL.v (Ev.move rfl) rfl (WL.v (Ev.eqs rfl rfl) rfl (WL.v (Ev.assign rfl) rfl (WL.nil (WQ.tn (WC.ret (WQ.ret1 rfl rfl ?_)))))))))))))))
  obtain rfl : j = s.length := by omega
  rw [List.take_length] at ha
  exact ⟨by unfold value; rw [ha, Bool.true_and], H⟩
theorem dec_no {s : Bs} {k : Int} {j : Nat} (h0 : ¬ (s = [] ∨ min k 18 < (s.length : Int))) (hj : j < s.length) (h : digc s[j] = false) : decP s k = (0, false) := by
  unfold decP; rw [if_neg h0, if_neg (by rw [all_no hj h]; simp)]
theorem dec_yes {s : Bs} {k : Int} (h0 : ¬ (s = [] ∨ min k 18 < (s.length : Int))) (h : s.all digc = true) : decP s k = (decV s, true) := by
  unfold decP; rw [if_neg h0, if_pos h]
theorem wrap_u8m {x : Int} (h1 : 48 ≤ x) (h2 : x ≤ 57) : IntKind.i64.wrap (IntKind.u8.wrap (x - 48)) = x - 48 := by
  rw [wrap_u8 ⟨by omega, by omega⟩, wrap_i64 (by unfold I64; omega)]
theorem lx_Decimal (s : Bs) (hs : Sml s.length) (k : Int) (hk : I64 k) (w : World) :
    Calls Tryd.prog 41 #[str s, .int .i64 k] w fun e w' => e = .returned (.tuple #[.int .i64 (decP s k).1, .bool (decP s k).2]) ∧ St w No w' [] := by
  have hs9 := hs.le
  unfold I64 at hk
  refine calls_of Tryd.func41 rfl Tryd.ntmps41 (by rfl) (K0 := [(0, _), (1, _)]) ⟨rfl, rfl, trivial⟩ ?_
  have H := St.init w
  refine WC.seq (WC.reg (WL.v (Ev.assign rfl) rfl (WL.v (Ev.assign rfl) rfl (WL.nil (WQ.tn (WC.seq (WC.seq (WC.reg (WL.v (Ev.move rfl) rfl (WL.v (Ev.eqs rfl rfl) rfl (WL.v (Ev.move rfl) rfl (WL.g (Met.no rfl rfl) (fun hg => Ev.move rfl) rfl (WL.g (Met.no rfl rfl) (fun hg => Ev.lens Tryd.underlying9 ((evG.un rfl).ev hg)) rfl (WL.g (Met.no rfl rfl) (fun hg => Ev.move rfl) rfl (WL.g (Met.no rfl rfl) (fun hg => Ev.min2 ((evG.un rfl).ev hg) rfl) rfl (WL.g (Met.no rfl rfl) (fun hg => Ev.gtr ((evG.un rfl).ev hg) ((evG.un rfl).ev hg)) rfl (WL.v (Ev.or rfl rfl rfl) rfl (WL.nil (WQ.tn ?_)))))))))))))))))))
  refine WC.cond rfl (fun h0 => ?_) (fun h0 => ?_)
  · try simp only [bsimp] at h0
    refine WC.seq (WC.reg (WL.v (Ev.assign rfl) rfl (WL.v (Ev.assign rfl) rfl (WL.nil (WQ.tn (WC.ret (WQ.tn_ret (WQ.ret2 rfl rfl rfl ?_))))))))
    exact ⟨by unfold decP; rw [if_pos h0], H⟩
  have h0n : ¬ (s = [] ∨ min k 18 < (s.length : Int)) := by
    simp only [bsimp] at h0
    rintro (hh | hh)
    · exact h0.1 hh
    · omega
  have h0l : s.length ≤ 18 := by
    rcases Nat.lt_or_ge 18 s.length with hh | hh
    · exact (h0n (.inr (by omega))).elim
    · exact hh
  refine WC.skip (WQ.tn (WC.seq (WC.reg (WL.v (Ev.assign rfl) rfl (WL.nil (WQ.tn (WC.seq (WC.seq (WC.reg (WL.v (Ev.move rfl) rfl (WL.v (Ev.lens Tryd.underlying9 rfl) rfl (WL.v (Ev.move rfl) rfl (WL.nil (WQ.tn (WC.block (WC.loop (γ := Nat) (fun j => [(0, str s), (6, .int .i64 (decV (s.take j))), (18, .int .i64 (s.length : Nat)), (19, .int .i64 (j : Nat))]) (fun j w1 => j ≤ s.length ∧ (s.take j).all digc = true ∧ St w No w1 []) (fun j => s.length - j) 0 (⟨Nat.zero_le _, by simp, H⟩) ⟨rfl, rfl, rfl, rfl, trivial⟩ ?_))))))))))))))))
  rintro j w1 ⟨hj, ha, H⟩
  refine WC.seq (WC.reg (WL.v (Ev.lssN rfl rfl) rfl (WL.nil (WQ.tn (WC.seq (WC.cond rfl (fun h2 => ?_) (fun h2 => ?_)))))))
  · try simp only [bsimp] at h2
    refine WC.skip (WQ.tn (WC.seq (WC.block (WC.seq (WC.reg (WL.v (Ev.move rfl) rfl (WL.v (Ev.assign rfl) rfl (WL.nil (WQ.tn (WC.seq (WC.seq (WC.reg (WL.v (Ev.move rfl) rfl (WL.v (Ev.move rfl) rfl (WL.v (Ev.ch Tryd.underlying9 rfl rfl (by omega)) rfl (WL.callS (vs := [_]) rfl cl57 rfl H (lx_digit _ _) fun w1 H L => (WL.v (Ev.not rfl) rfl (WL.nil (WQ.tn (WC.cond rfl (fun h3 => ?_) (fun h3 => ?_)))))))))))))))))))))
    · have hd : digc s[j] = false := by
        unfold digc; rw [← byteAt_get h2]; simpa using h3
      refine WC.seq (WC.reg (WL.v (Ev.assign rfl) rfl (WL.v (Ev.assign rfl) rfl (WL.nil (WQ.tn (WC.ret (WQ.tn_ret (WQ.blk_ret (WQ.tn_ret (WQ.loop_ret (WQ.blk_ret (WQ.tn_ret (WQ.ret2 rfl rfl rfl ?_)))))))))))))
      exact ⟨by rw [dec_no h0n h2 hd], H⟩
    have hd : digc s[j] = true := by
      unfold digc; rw [← byteAt_get h2]; simpa using h3
    have hr := digc_range hd
    have hbd := decV_bound _ ha
    rw [List.length_take, Nat.min_eq_left (by omega)] at hbd
    have hp := pow10_le (j := j) (by omega)
    have hp1 := pow10_le (j := j + 1) (by omega)
    rw [Int.pow_succ] at hp1
    rw [← byteAt_get h2] at hr
    refine WC.skip (WQ.tn (WC.reg (WL.v (Ev.move rfl) rfl (WL.v (Ev.mul rfl rfl (by unfold I64; omega)) rfl (WL.v (Ev.move rfl) rfl (WL.v (Ev.move rfl) rfl (WL.v (Ev.ch Tryd.underlying9 rfl rfl (by omega)) rfl (WL.v (Ev.subw rfl rfl) rfl (WL.v (Ev.conv Tryd.underlying5 Tryd.underlying3 rfl) rfl (WL.v (Ev.add (b := byteAt s j - 48) rfl (by rw [wrap_u8m hr.1 hr.2]; rfl) (by unfold I64; omega)) rfl (WL.v (Ev.assign rfl) rfl (WL.nil (WQ.blk (WQ.tn (WC.reg (WL.v (Ev.addN (b := 1) rfl rfl (by omega)) rfl (WL.v (Ev.move rfl) rfl (WL.nil ?_))))))))))))))))))
    exact WQ.again (j + 1) (⟨by omega, all_take_succ h2 ha hd, H⟩) ⟨rfl, (by rw [take_succ_get h2, decV_snoc, ← byteAt_get h2]; rfl), rfl, rfl, trivial⟩ (by first | omega | (dsimp only; omega))
  try simp only [bsimp] at h2
  refine WC.exit (WQ.tn_exit (WQ.loop_exit (WQ.blk_here rfl (WQ.tn (WC.seq (WC.reg (WL.v (Ev.move rfl) rfl (WL.v (Ev.assign rfl) rfl (WL.v (Ev.assign rfl) rfl (WL.nil (WQ.tn (WC.ret (WQ.ret2 rfl rfl rfl ?_)))))))))))))
  obtain rfl : j = s.length := by omega
  rw [List.take_length] at ha
  exact ⟨by rw [dec_yes h0n ha, List.take_length], H⟩
end Go.Proofs.YtodappgiadelaaaDoor
