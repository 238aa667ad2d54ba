/- The walks of functions: what each comes to. -/
import Derived.Test.YtcmolgiccccnoaaEq
import Derived.Test.YtcmolgiccccnoaaProg
set_option linter.unusedVariables false
set_option linter.unusedSimpArgs false
namespace Go.Proofs.Ytcmolgiccccnoaa
open Go.RowKit Go.BK
theorem cl53 : callB Try.prog 53 = true := by kernel_rfl
theorem cl51 : callB Try.prog 51 = true := by kernel_rfl
theorem sz5 : szOk Try.prog 5 1 := by unfold szOk; kernel_rfl
theorem z5 : zOk Try.prog 5 (.int .u8 0) := by unfold zOk; kernel_rfl
theorem by5 : byOk Try.prog 5 1 := by unfold byOk; kernel_rfl
theorem cl49 : callB Try.prog 49 = true := by kernel_rfl
theorem sz9 : szOk Try.prog 9 1 := by unfold szOk; kernel_rfl
theorem z9 : zOk Try.prog 9 (str []) := by unfold zOk; kernel_rfl
theorem by9 : byOk Try.prog 9 16 := by unfold byOk; kernel_rfl
theorem ref04_Marks (c : Int) (w : World) :
    Calls Try.prog 53 #[.int .u8 c] w fun e w' => e = .returned (.bool (tokc c)) ∧ St w No w' [] := by
  refine calls_of Try.func53 rfl Try.ntmps53 (by rfl) (K0 := [(0, _)]) ⟨rfl, trivial⟩ ?_
  have H := St.init w
  refine WC.seq (WC.reg (WL.v (Ev.assign rfl) rfl (WL.nil (WQ.tn (WC.seq (WC.seq (WC.reg (WL.v (Ev.move rfl) rfl (WL.v (Ev.geq rfl rfl) rfl (WL.v (Ev.move rfl) rfl (WL.g (Met.yes rfl rfl) (fun hg => Ev.move rfl) rfl (WL.g (Met.yes rfl rfl) (fun hg => Ev.leq ((evG.un rfl).ev hg) rfl) rfl (WL.v (Ev.and rfl rfl rfl) rfl (WL.v (Ev.move rfl) rfl (WL.g (Met.no rfl rfl) (fun hg => Ev.move rfl) rfl (WL.g (Met.no rfl rfl) (fun hg => Ev.geq ((evG.un rfl).ev hg) rfl) rfl (WL.g (Met.no rfl rfl) (fun hg => Ev.move ((evG.un rfl).ev hg)) rfl (WL.g (Met.gyes rfl rfl) (fun hg => Ev.move rfl) rfl (WL.g (Met.gyes rfl rfl) (fun hg => Ev.leq ((evG.un rfl).ev hg) rfl) rfl (WL.g (Met.no rfl rfl) (fun hg => Ev.and ((evG.un rfl).ev hg) ((evG.nest rfl).ev hg) rfl) rfl (WL.v (Ev.or rfl rfl rfl) rfl (WL.v (Ev.move rfl) rfl (WL.g (Met.no rfl rfl) (fun hg => Ev.move rfl) rfl (WL.g (Met.no rfl rfl) (fun hg => Ev.geq ((evG.un rfl).ev hg) rfl) rfl (WL.g (Met.no rfl rfl) (fun hg => Ev.move ((evG.un rfl).ev hg)) rfl (WL.g (Met.gyes rfl rfl) (fun hg => Ev.move rfl) rfl (WL.g (Met.gyes rfl rfl) (fun hg => Ev.leq ((evG.un rfl).ev hg) rfl) rfl (WL.g (Met.no rfl rfl) (fun hg => Ev.and ((evG.un rfl).ev hg) ((evG.nest rfl).ev hg) rfl) rfl (WL.v (Ev.or rfl rfl rfl) rfl (WL.nil ?_))))))))))))))))))))))))))))))
  refine WQ.tn (WC.cond rfl (fun h0 => ?_) (fun h0 => ?_))
  · try simp only [bsimp] at h0
    refine WC.seq (WC.reg (WL.v (Ev.assign rfl) rfl (WL.nil (WQ.tn (WC.ret (WQ.tn_ret (WQ.ret1 rfl rfl ?_)))))))
    exact ⟨by congr 2; simp only [tokc, isLetter, isDigit]; simp; omega, H⟩
  try simp only [bsimp] at h0
  refine WC.skip (WQ.tn (WC.seq (WC.seq (WC.reg (WL.v (Ev.move rfl) rfl (WL.nil (WQ.tn (WC.block (WC.cut (γ := Bool) (fun b => [(0, .int .u8 c), (26, .bool b)]) (fun b w1 => b = isMark c ∧ St w No w1 []) ?_ ?_)))))))))
  · refine WC.seq (WC.reg (WL.v (Ev.eqi rfl rfl) rfl (WL.v (Ev.assign rfl) rfl (WL.nil (WQ.tn (WC.cond rfl (fun h1 => ?_) (fun h1 => ?_)))))))
    · try simp only [bsimp] at h1
      refine WC.skip ?_
      exact WQ.meet (_) (⟨by simp_all [isMark], H⟩) ⟨rfl, rfl, trivial⟩
    try simp only [bsimp] at h1
    refine WC.seq (WC.reg (WL.v (Ev.eqi rfl rfl) rfl (WL.v (Ev.assign rfl) rfl (WL.nil (WQ.tn (WC.cond rfl (fun h2 => ?_) (fun h2 => ?_)))))))
    · try simp only [bsimp] at h2
      refine WC.skip ?_
      exact WQ.meet (_) (⟨by simp_all [isMark], H⟩) ⟨rfl, rfl, trivial⟩
    try simp only [bsimp] at h2
    refine WC.seq (WC.reg (WL.v (Ev.eqi rfl rfl) rfl (WL.v (Ev.assign rfl) rfl (WL.nil (WQ.tn (WC.cond rfl (fun h3 => ?_) (fun h3 => ?_)))))))
    · try simp only [bsimp] at h3
      refine WC.skip ?_
      exact WQ.meet (_) (⟨by simp_all [isMark], H⟩) ⟨rfl, rfl, trivial⟩
    try simp only [bsimp] at h3
    refine WC.seq (WC.reg (WL.v (Ev.eqi rfl rfl) rfl (WL.v (Ev.assign rfl) rfl (WL.nil (WQ.tn (WC.cond rfl (fun h4 => ?_) (fun h4 => ?_)))))))
    · try simp only [bsimp] at h4
      refine WC.skip ?_
      exact WQ.meet (_) (⟨by simp_all [isMark], H⟩) ⟨rfl, rfl, trivial⟩
    try simp only [bsimp] at h4
    refine WC.seq (WC.reg (WL.v (Ev.eqi rfl rfl) rfl (WL.v (Ev.assign rfl) rfl (WL.nil (WQ.tn (WC.cond rfl (fun h5 => ?_) (fun h5 => ?_)))))))
    · try simp only [bsimp] at h5
      refine WC.skip ?_
      exact WQ.meet (_) (⟨by simp_all [isMark], H⟩) ⟨rfl, rfl, trivial⟩
    try simp only [bsimp] at h5
    refine WC.seq (WC.reg (WL.v (Ev.eqi rfl rfl) rfl (WL.v (Ev.assign rfl) rfl (WL.nil (WQ.tn (WC.cond rfl (fun h6 => ?_) (fun h6 => ?_)))))))
    · try simp only [bsimp] at h6
      refine WC.skip ?_
      exact WQ.meet (_) (⟨by simp_all [isMark], H⟩) ⟨rfl, rfl, trivial⟩
    try simp only [bsimp] at h6
    refine WC.seq (WC.reg (WL.v (Ev.eqi rfl rfl) rfl (WL.v (Ev.assign rfl) rfl (WL.nil (WQ.tn (WC.cond rfl (fun h7 => ?_) (fun h7 => ?_)))))))
    · try simp only [bsimp] at h7
      refine WC.skip ?_
      exact WQ.meet (_) (⟨by simp_all [isMark], H⟩) ⟨rfl, rfl, trivial⟩
    try simp only [bsimp] at h7
    refine WC.seq (WC.reg (WL.v (Ev.eqi rfl rfl) rfl (WL.v (Ev.assign rfl) rfl (WL.nil (WQ.tn (WC.cond rfl (fun h8 => ?_) (fun h8 => ?_)))))))
    · try simp only [bsimp] at h8
      refine WC.skip ?_
      exact WQ.meet (_) (⟨by simp_all [isMark], H⟩) ⟨rfl, rfl, trivial⟩
    try simp only [bsimp] at h8
    refine WC.seq (WC.reg (WL.v (Ev.eqi rfl rfl) rfl (WL.v (Ev.assign rfl) rfl (WL.nil (WQ.tn (WC.cond rfl (fun h9 => ?_) (fun h9 => ?_)))))))
    · try simp only [bsimp] at h9
      refine WC.skip ?_
      exact WQ.meet (_) (⟨by simp_all [isMark], H⟩) ⟨rfl, rfl, trivial⟩
    try simp only [bsimp] at h9
    refine WC.seq (WC.reg (WL.v (Ev.eqi rfl rfl) rfl (WL.v (Ev.assign rfl) rfl (WL.nil (WQ.tn (WC.cond rfl (fun h10 => ?_) (fun h10 => ?_)))))))
    · try simp only [bsimp] at h10
      refine WC.skip ?_
      exact WQ.meet (_) (⟨by simp_all [isMark], H⟩) ⟨rfl, rfl, trivial⟩
    try simp only [bsimp] at h10
    refine WC.seq (WC.reg (WL.v (Ev.eqi rfl rfl) rfl (WL.v (Ev.assign rfl) rfl (WL.nil (WQ.tn (WC.cond rfl (fun h11 => ?_) (fun h11 => ?_)))))))
    · try simp only [bsimp] at h11
      refine WC.skip ?_
      exact WQ.meet (_) (⟨by simp_all [isMark], H⟩) ⟨rfl, rfl, trivial⟩
    try simp only [bsimp] at h11
    refine WC.seq (WC.reg (WL.v (Ev.eqi rfl rfl) rfl (WL.v (Ev.assign rfl) rfl (WL.nil (WQ.tn (WC.cond rfl (fun h12 => ?_) (fun h12 => ?_)))))))
    · try simp only [bsimp] at h12
      refine WC.skip ?_
      exact WQ.meet (_) (⟨by simp_all [isMark], H⟩) ⟨rfl, rfl, trivial⟩
    try simp only [bsimp] at h12
    refine WC.seq (WC.reg (WL.v (Ev.eqi rfl rfl) rfl (WL.v (Ev.assign rfl) rfl (WL.nil (WQ.tn (WC.cond rfl (fun h13 => ?_) (fun h13 => ?_)))))))
    · try simp only [bsimp] at h13
      refine WC.skip ?_
      exact WQ.meet (_) (⟨by simp_all [isMark], H⟩) ⟨rfl, rfl, trivial⟩
    try simp only [bsimp] at h13
    refine WC.seq (WC.reg (WL.v (Ev.eqi rfl rfl) rfl (WL.v (Ev.assign rfl) rfl (WL.nil (WQ.tn (WC.cond rfl (fun h14 => ?_) (fun h14 => ?_)))))))
    · try simp only [bsimp] at h14
      refine WC.skip ?_
      exact WQ.meet (_) (⟨by simp_all [isMark], H⟩) ⟨rfl, rfl, trivial⟩
    try simp only [bsimp] at h14
    refine WC.reg (WL.v (Ev.eqi rfl rfl) rfl (WL.v (Ev.assign rfl) rfl (WL.nil ?_)))
    exact WQ.meet (_) (⟨by simp_all [isMark], H⟩) ⟨rfl, rfl, trivial⟩
  · rintro _ w1 ⟨rfl, H⟩
    refine WC.cond rfl (fun h15 => ?_) (fun h15 => ?_)
    · try simp only [bsimp] at h15
      refine WC.seq (WC.reg (WL.v (Ev.assign rfl) rfl (WL.nil (WQ.tn (WC.ret (WQ.blk_ret (WQ.tn_ret (WQ.ret1 rfl rfl ?_))))))))
      exact ⟨by congr 2; simp_all [tokc], H⟩
    try simp only [bsimp] at h15
    refine WC.skip (WQ.blk (WQ.tn (WC.seq (WC.reg (WL.v (Ev.assign rfl) rfl (WL.nil (WQ.tn (WC.ret (WQ.ret1 rfl rfl ?_)))))))))
    exact ⟨by congr 2; simp only [tokc, isLetter, isDigit]; simp_all; omega, H⟩
theorem token_no {s : Bs} {j : Nat} (hj : j < s.length) (h : tokc (byteAt s j) = false) : token s = false := by
  rw [byteAt_get hj] at h
  have := all_no (p := fun c : UInt8 => tokc (c.toNat : Int)) hj h
  unfold token; rw [this]; simp
theorem token_end {s : Bs} (h : (s.take s.length).all (fun c => tokc (c.toNat : Int)) = true) : token s = decide (0 < s.length) := by
  rw [List.take_length] at h
  cases s <;> simp_all [token]
theorem ref04_Token (s : Bs) (hs : Sml s.length) (w : World) :
    Calls Try.prog 50 #[str s] w fun e w' => e = .returned (.bool (token s)) ∧ St w No w' [] := by
  have hs := hs.le
  refine calls_of Try.func50 rfl Try.ntmps50 (by rfl) (K0 := [(0, _)]) ⟨rfl, trivial⟩ ?_
  have H := St.init w
  refine WC.seq (WC.reg (WL.v (Ev.assign rfl) rfl (WL.nil (WQ.tn (WC.seq (WC.seq (WC.reg (WL.v (Ev.assign rfl) rfl (WL.nil (WQ.tn (WC.block (WC.loop (γ := Nat) (fun j => [(0, str s), (3, .int .i64 (j : Nat))]) (fun j w1 => j ≤ s.length ∧ (s.take j).all (fun c => tokc (c.toNat : Int)) = true ∧ St w No w1 []) (fun j => s.length - j) 0 (⟨Nat.zero_le _, by simp, H⟩) ⟨rfl, rfl, trivial⟩ ?_))))))))))))
  rintro j w1 ⟨hj, ha, H⟩
  refine WC.seq (WC.seq (WC.reg (WL.v (Ev.move rfl) rfl (WL.v (Ev.move rfl) rfl (WL.v (Ev.lens Try.underlying9 rfl) rfl (WL.v (Ev.lssN rfl rfl) rfl (WL.nil (WQ.tn (WC.cond rfl (fun h1 => ?_) (fun h1 => ?_))))))))))
  · try simp only [bsimp] at h1
    refine WC.skip (WQ.tn (WC.seq (WC.block (WC.seq (WC.reg (WL.v (Ev.move rfl) rfl (WL.v (Ev.move rfl) rfl (WL.v (Ev.ch Try.underlying9 rfl rfl (by omega)) rfl (WL.callS (vs := [_]) rfl cl53 rfl H (ref04_Marks _ _) fun w1 H L => (WL.v (Ev.not rfl) rfl (WL.nil (WQ.tn (WC.cond rfl (fun h2 => ?_) (fun h2 => ?_))))))))))))))
    · try simp only [bsimp] at h2
      refine WC.seq (WC.reg (WL.v (Ev.assign rfl) rfl (WL.nil (WQ.tn (WC.ret (WQ.blk_ret (WQ.tn_ret (WQ.loop_ret (WQ.blk_ret (WQ.tn_ret (WQ.ret1 rfl rfl ?_)))))))))))
      exact ⟨by rw [token_no h1 h2], H⟩
    try simp only [bsimp] at h2
    refine WC.skip (WQ.blk (WQ.tn (WC.reg (WL.v (Ev.move rfl) rfl (WL.v (Ev.addN (b := 1) rfl rfl (by omega)) rfl (WL.v (Ev.assign rfl) rfl (WL.nil ?_)))))))
    exact WQ.again (j + 1) (⟨by omega, all_take_succ h1 ha (by rw [← byteAt_get h1]; exact h2), H⟩) ⟨rfl, rfl, trivial⟩ (by first | omega | (dsimp only; omega))
  try simp only [bsimp] at h1
  refine WC.exit (WQ.tn_exit (WQ.loop_exit (WQ.blk_here rfl (WQ.tn (WC.seq (WC.reg (WL.v (Ev.move rfl) rfl (WL.v (Ev.lens Try.underlying9 rfl) rfl (WL.v (Ev.gtrN (b := 0) rfl rfl) rfl (WL.v (Ev.assign rfl) rfl (WL.nil (WQ.tn (WC.ret (WQ.ret1 rfl rfl ?_))))))))))))))
  obtain rfl : j = s.length := by omega
  exact ⟨by rw [token_end ha], H⟩
theorem ref04_Blank (c : UInt8) (w : World) :
    Calls Try.prog 51 #[ch c] w fun e w' => e = .returned (.bool (isBlank c)) ∧ St w No w' [] := by
  refine calls_of Try.func51 rfl Try.ntmps51 (by rfl) (K0 := [(0, _)]) ⟨rfl, trivial⟩ ?_
  have H := St.init w
  refine WC.seq (WC.reg (WL.v (Ev.assign rfl) rfl (WL.nil (WQ.tn (WC.seq (WC.reg (WL.v (Ev.move rfl) rfl (WL.v (Ev.eqi rfl rfl) rfl (WL.v (Ev.move rfl) rfl (WL.g (Met.no rfl rfl) (fun hg => Ev.move rfl) rfl (WL.g (Met.no rfl rfl) (fun hg => Ev.eqi ((evG.un rfl).ev hg) rfl) rfl (WL.v (Ev.or rfl rfl rfl) rfl (WL.v (Ev.assign rfl) rfl (WL.nil (WQ.tn (WC.ret (WQ.ret1 rfl rfl ?_)))))))))))))))))
  exact ⟨by congr 2; exact (isBlank_int c).symm, H⟩
theorem ch_get {s : Bs} {j : Nat} (h : j < s.length) : Value.int .u8 (byteAt s j) = ch s[j] := by rw [byteAt_get h]
theorem ref04_Blank' {s : Bs} {j : Nat} (h : j < s.length) (w : World) : Pur Try.prog 51 #[.int .u8 (byteAt s j)] w (.bool (isBlank (s.getD j 0))) := by
  have e : s.getD j 0 = s[j] := by rw [List.getD_eq_getElem?_getD, List.getElem?_eq_getElem h]; rfl
  rw [ch_get h, e]; exact ref04_Blank _ _
theorem getD_of {s : Bs} {j : Nat} {x : UInt8} (h : s[j]? = some x) : s.getD j 0 = x := by rw [List.getD_eq_getElem?_getD, h]; rfl
theorem all_snoc {s : Bs} {j : Nat} (ha : (s.take j).all isBlank = true) (h : isBlank (s.getD j 0) = true) (hj : j < s.length) : (s.take (j + 1)).all isBlank = true :=
  all_take_succ hj ha (by rw [← getD_of (getx hj)]; exact h)
theorem drop_snoc {s : Bs} {t : Nat} (ha : (s.drop t).all isBlank = true) (h0 : 0 < t) (ht : t ≤ s.length) (h : isBlank (s.getD (t - 1) 0) = true) : (s.drop (t - 1)).all isBlank = true := by
  rw [List.drop_eq_getElem_cons (show t - 1 < s.length by omega), List.all_cons, show t - 1 + 1 = t by omega, ha, ← getD_of (getx (show t - 1 < s.length by omega)), h]; rfl
theorem ref04_Trim (s : Bs) (hs : Sml s.length) (w : World) :
    Calls Try.prog 49 #[str s] w fun e w' => e = .returned (str (trim s)) ∧ St w No w' [] := by
  have hs := hs.le
  refine calls_of Try.func49 rfl Try.ntmps49 (by rfl) (K0 := [(0, _)]) ⟨rfl, trivial⟩ ?_
  have H := St.init w
  refine WC.seq (WC.reg (WL.v (Ev.assign rfl) rfl (WL.nil (WQ.tn (WC.seq (WC.reg (WL.v (Ev.move rfl) rfl (WL.v (Ev.lens Try.underlying9 rfl) rfl (WL.v (Ev.assign rfl) rfl (WL.v (Ev.assign rfl) rfl (WL.nil (WQ.tn (WC.seq (WC.block (WC.loop (γ := Nat) (fun j => [(0, str s), (3, .int .i64 (j : Nat)), (4, .int .i64 (s.length : Nat))]) (fun j w1 => j ≤ s.length ∧ (s.take j).all isBlank = true ∧ St w No w1 []) (fun j => s.length - j) 0 (⟨Nat.zero_le _, by simp, H⟩) ⟨rfl, rfl, rfl, trivial⟩ ?_)))))))))))))))
  rintro j w1 ⟨hj, ha, H⟩
  refine WC.seq (WC.seq (WC.reg (WL.v (Ev.move rfl) rfl (WL.v (Ev.move rfl) rfl (WL.v (Ev.lssN rfl rfl) rfl (WL.v (Ev.move rfl) rfl (WL.g (Met.yes rfl rfl) (fun hg => Ev.move rfl) rfl (WL.g (Met.yes rfl rfl) (fun hg => Ev.move rfl) rfl (WL.g (Met.yes rfl rfl) (fun hg => Ev.ch Try.underlying9 ((evG.un rfl).ev hg) ((evG.un rfl).ev hg) (by simp at hg; omega)) rfl (WL.gcallS (vs := [_]) (Met.yes rfl rfl) (fun hg => (evs_cons ((evG.un rfl).ev hg) rfl)) cl51 rfl H (fun hg => ref04_Blank' (by simp at hg; omega) _) fun w1 H L => (WL.v (Ev.and rfl rfl rfl) rfl (WL.nil (WQ.tn (WC.cond rfl (fun h1 => ?_) (fun h1 => ?_)))))))))))))))
  · try simp only [bsimp] at h1
    refine WC.skip (WQ.tn (WC.block (WC.reg (WL.v (Ev.move rfl) rfl (WL.v (Ev.addN (b := 1) rfl rfl (by omega)) rfl (WL.v (Ev.assign rfl) rfl (WL.nil (WQ.blk ?_))))))))
    exact WQ.again (j + 1) (⟨by omega, all_snoc ha h1.2 h1.1, H⟩) ⟨rfl, rfl, rfl, trivial⟩ (by first | omega | (dsimp only; omega))
  try simp only [bsimp] at h1
  refine WC.exit (WQ.tn_exit (WQ.loop_exit (WQ.blk_here rfl (WQ.tn (WC.seq (WC.block ?_))))))
  have hn : j < s.length → isBlank (s.getD j 0) = false := fun h => h1.resolve_left (by omega)
  refine WC.loop (γ := Nat) (fun t => [(0, str s), (3, .int .i64 (j : Nat)), (4, .int .i64 (t : Nat))]) (fun t w1 => j ≤ t ∧ t ≤ s.length ∧ (s.drop t).all isBlank = true ∧ St w No w1 []) (fun t => t) s.length (⟨hj, Nat.le_refl _, by simp, H⟩) ⟨rfl, rfl, rfl, trivial⟩ ?_
  rintro t w1 ⟨hjt, ht, hb, H⟩
  refine WC.seq (WC.seq (WC.reg (WL.v (Ev.move rfl) rfl (WL.v (Ev.move rfl) rfl (WL.v (Ev.gtrN rfl rfl) rfl (WL.v (Ev.move rfl) rfl (WL.g (Met.yes rfl rfl) (fun hg => Ev.move rfl) rfl (WL.g (Met.yes rfl rfl) (fun hg => Ev.move rfl) rfl (WL.g (Met.yes rfl rfl) (fun hg => Ev.subN (b := 1) ((evG.un rfl).ev hg) rfl (by simp at hg; omega) (by simp at hg; omega)) rfl (WL.g (Met.yes rfl rfl) (fun hg => Ev.ch Try.underlying9 ((evG.un rfl).ev hg) ((evG.un rfl).ev hg) (by simp at hg; omega)) rfl (WL.gcallS (vs := [_]) (Met.yes rfl rfl) (fun hg => (evs_cons ((evG.un rfl).ev hg) rfl)) cl51 rfl H (fun hg => ref04_Blank' (by simp at hg; omega) _) fun w1 H L => (WL.v (Ev.and rfl rfl rfl) rfl (WL.nil ?_)))))))))))))
  refine WQ.tn (WC.cond rfl (fun h3 => ?_) (fun h3 => ?_))
  · try simp only [bsimp] at h3
    refine WC.skip (WQ.tn (WC.block (WC.reg (WL.v (Ev.move rfl) rfl (WL.v (Ev.subN (b := 1) rfl rfl (by omega) (by omega)) rfl (WL.v (Ev.assign rfl) rfl (WL.nil (WQ.blk ?_))))))))
    exact WQ.again (t - 1) (⟨by omega, by omega, drop_snoc hb (by omega) ht h3.2, H⟩) ⟨rfl, rfl, rfl, trivial⟩ (by first | omega | (dsimp only; omega))
  try simp only [bsimp] at h3
  refine WC.exit (WQ.tn_exit (WQ.loop_exit (WQ.blk_here rfl (WQ.tn (WC.seq (WC.reg (WL.v (Ev.move rfl) rfl (WL.v (Ev.move rfl) rfl (WL.v (Ev.move rfl) rfl (WL.v (Ev.subN' Try.underlying9 rfl rfl rfl (by omega) (by omega)) rfl (WL.v (Ev.assign rfl) rfl (WL.nil (WQ.tn (WC.ret (WQ.ret1 rfl rfl ?_)))))))))))))))
  exact ⟨by congr 2; exact trim_of hjt ht ha (fun hl x hx => by rw [← getD_of hx]; exact hn (by omega)) hb (fun hl x hx => by rw [← getD_of hx]; exact h3.resolve_left (by omega)), H⟩
theorem valc_int (c : UInt8) : valc c = !(decide ((c.toNat : Int) = 127) || (decide ((c.toNat : Int) < 32) && decide ((c.toNat : Int) ≠ 9))) := by
  unfold valc
  congr 2
  · rw [decide_eq_decide]; omega
  · congr 1
    · rw [decide_eq_decide]; omega
    · rw [← decide_not, decide_eq_decide]; omega
theorem valc_at {s : Bs} {j : Nat} (h : j < s.length) : valc s[j] = !(decide (byteAt s j = 127) || (decide (byteAt s j < 32) && decide (byteAt s j ≠ 9))) := by rw [valc_int, byteAt_get h]
theorem value_no {s : Bs} {j : Nat} (h : j < s.length) (hv : valc s[j] = false) : value s = false := by
  have := all_no (p := valc) h hv
  simp [value, this]
theorem ref04_Value (s : Bs) (hs : Sml s.length) (w : World) :
    Calls Try.prog 45 #[str s] w fun e w' => e = .returned (.bool (value s)) ∧ St w No w' [] := by
  have hs := hs.le
  refine calls_of Try.func45 rfl Try.ntmps45 (by rfl) (K0 := [(0, _)]) ⟨rfl, trivial⟩ ?_
  have H := St.init w
  refine WC.seq (WC.reg (WL.v (Ev.assign rfl) rfl (WL.nil (WQ.tn (WC.seq (WC.seq (WC.reg (WL.v (Ev.assign rfl) rfl (WL.nil (WQ.tn (WC.block (WC.loop (γ := Nat) (fun j => [(0, str s), (3, .int .i64 (j : Nat))]) (fun j w1 => j ≤ s.length ∧ (s.take j).all valc = true ∧ St w No w1 []) (fun j => s.length - j) 0 (⟨Nat.zero_le _, by simp, H⟩) ⟨rfl, rfl, trivial⟩ ?_))))))))))))
  rintro j w1 ⟨hj, ha, H⟩
  refine WC.seq (WC.seq (WC.reg (WL.v (Ev.move rfl) rfl (WL.v (Ev.move rfl) rfl (WL.v (Ev.lens Try.underlying9 rfl) rfl (WL.v (Ev.lssN rfl rfl) rfl (WL.nil (WQ.tn (WC.cond rfl (fun h1 => ?_) (fun h1 => ?_))))))))))
  · try simp only [bsimp] at h1
    refine WC.skip (WQ.tn (WC.seq (WC.block (WC.seq (WC.reg (WL.v (Ev.move rfl) rfl (WL.v (Ev.move rfl) rfl (WL.v (Ev.ch Try.underlying9 rfl rfl (by omega)) rfl (WL.v (Ev.assign rfl) rfl (WL.nil (WQ.tn (WC.seq (WC.reg (WL.v (Ev.move rfl) rfl (WL.v (Ev.eqi rfl rfl) rfl (WL.v (Ev.move rfl) rfl (WL.g (Met.no rfl rfl) (fun hg => Ev.move rfl) rfl (WL.g (Met.no rfl rfl) (fun hg => Ev.lss ((evG.un rfl).ev hg) rfl) rfl (WL.g (Met.no rfl rfl) (fun hg => Ev.move ((evG.un rfl).ev hg)) rfl (WL.g (Met.gyes rfl rfl) (fun hg => Ev.move rfl) rfl (WL.g (Met.gyes rfl rfl) (fun hg => Ev.nei ((evG.un rfl).ev hg) rfl) rfl (WL.g (Met.no rfl rfl) (fun hg => Ev.and ((evG.un rfl).ev hg) ((evG.nest rfl).ev hg) rfl) rfl (WL.v (Ev.or rfl rfl rfl) rfl (WL.nil ?_))))))))))))))))))))))))
    refine WQ.tn (WC.cond rfl (fun h2 => ?_) (fun h2 => ?_))
    · have hv : valc s[j] = false := by rw [valc_at h1, h2]; rfl
      refine WC.seq (WC.reg (WL.v (Ev.assign rfl) rfl (WL.nil (WQ.tn (WC.ret (WQ.blk_ret (WQ.tn_ret (WQ.loop_ret (WQ.blk_ret (WQ.tn_ret (WQ.ret1 rfl rfl ?_)))))))))))
      exact ⟨by rw [value_no h1 hv], H⟩
    have hv : valc s[j] = true := by rw [valc_at h1, h2]; rfl
    refine WC.skip (WQ.blk (WQ.tn (WC.reg (WL.v (Ev.move rfl) rfl (WL.v (Ev.addN (b := 1) rfl rfl (by omega)) rfl (WL.v (Ev.assign rfl) rfl (WL.nil ?_)))))))
    exact WQ.again (j + 1) (⟨by omega, all_take_succ h1 ha hv, H⟩) ⟨rfl, rfl, trivial⟩ (by first | omega | (dsimp only; omega))
  try simp only [bsimp] at h1
  refine WC.exit (WQ.tn_exit (WQ.loop_exit (WQ.blk_here rfl (WQ.tn (WC.seq (WC.reg (WL.v (Ev.move rfl) rfl (WL.v (Ev.lens Try.underlying9 rfl) rfl (WL.v (Ev.eqN (b := 0) rfl rfl) rfl (WL.v (Ev.move rfl) rfl (WL.g (Met.no rfl rfl) (fun hg => Ev.move rfl) rfl (WL.g (Met.no rfl rfl) (fun hg => Ev.ch (j := 0) Try.underlying9 ((evG.un rfl).ev hg) rfl (by simp at hg; exact List.length_pos_iff.2 hg)) rfl (WL.gcallS (vs := [_]) (Met.no rfl rfl) (fun hg => (evs_cons ((evG.un rfl).ev hg) rfl)) cl51 rfl H (fun hg => ref04_Blank' (by simp at hg; exact List.length_pos_iff.2 hg) _) fun w1 H L => (WL.g (Met.no rfl rfl) (fun hg => Ev.not ((evG.un rfl).ev hg)) rfl (WL.g (Met.no rfl rfl) (fun hg => Ev.move ((evG.un rfl).ev hg)) rfl (WL.g (Met.gyes rfl rfl) (fun hg => Ev.move rfl) rfl (WL.g (Met.gyes rfl rfl) (fun hg => Ev.move rfl) rfl (WL.g (Met.gyes rfl rfl) (fun hg => Ev.lens Try.underlying9 ((evG.un rfl).ev hg)) rfl (WL.g (Met.gyes rfl rfl) (fun hg => Ev.subN (b := 1) ((evG.un rfl).ev hg) rfl (by simp at hg; have := List.length_pos_iff.2 hg.1; omega) (by simp at hg; have := List.length_pos_iff.2 hg.1; omega)) rfl (WL.g (Met.gyes rfl rfl) (fun hg => Ev.ch Try.underlying9 ((evG.un rfl).ev hg) ((evG.un rfl).ev hg) (by simp at hg; have := List.length_pos_iff.2 hg.1; omega)) rfl (WL.gcallS (vs := [_]) (Met.gyes rfl rfl) (fun hg => (evs_cons ((evG.un rfl).ev hg) rfl)) cl51 rfl H (fun hg => ref04_Blank' (by simp at hg; have := List.length_pos_iff.2 hg.1; omega) _) fun w1 H L => (WL.g (Met.gyes rfl rfl) (fun hg => Ev.not ((evG.un rfl).ev hg)) rfl (WL.g (Met.no rfl rfl) (fun hg => Ev.and ((evG.un rfl).ev hg) ((evG.nest rfl).ev hg) rfl) rfl (WL.v (Ev.or rfl rfl rfl) rfl (WL.v (Ev.assign rfl) rfl (WL.nil ?_))))))))))))))))))))))))))
  refine WQ.tn (WC.ret (WQ.ret1 rfl rfl ?_))
  obtain rfl : j = s.length := by omega
  rw [List.take_length] at ha
  exact ⟨by congr 2; unfold value; rw [ha, Bool.true_and, value_ends], H⟩
theorem low_yes {c : UInt8} {s : Bs} {j : Nat} (hj : j < s.length) (hc : c = s[j]) (h : 65 ≤ byteAt s j ∧ byteAt s j ≤ 90) : Value.int .u8 (IntKind.u8.wrap (IntKind.u8.wrap (byteAt s j - 65) + 97)) = ch (lowc c) := by
  rw [byteAt_get hj, ← hc] at *
  rw [wrap_u8 (x := (c.toNat : Int) - 65) ⟨by omega, by omega⟩, wrap_u8 ⟨by omega, by omega⟩]
  unfold ch
  rw [lowc_yes (by omega) (by omega)]
  congr 1; omega
theorem low_no {c : UInt8} {s : Bs} {j : Nat} (hj : j < s.length) (hc : c = s[j]) (h : byteAt s j < 65 ∨ 90 < byteAt s j) : Value.int .u8 (byteAt s j) = ch (lowc c) := by
  rw [byteAt_get hj, ← hc] at *
  rw [lowc_no (by omega)]
theorem low_snoc {s : Bs} {j : Nat} (h : j < s.length) : low (s.take (j + 1)) = low (s.take j) ++ [lowc s[j]] := by unfold low; rw [take_succ_get h, List.map_append]; rfl
theorem low_take_len {s : Bs} {j : Nat} (h : j ≤ s.length) : (low (s.take j)).length = j := by rw [low_length, List.length_take]; omega
theorem ref04_Lower (s : Bs) (hs : Sml s.length) (w : World) :
    Calls Try.prog 42 #[str s] w fun e w' => e = .returned (str (low s)) ∧ St w No w' [] := by
  have hs := hs.le
  refine calls_of Try.func42 rfl Try.ntmps42 (by rfl) (K0 := [(0, _)]) ⟨rfl, trivial⟩ ?_
  have H := (St.init w).nilrow 5 1
  refine WC.seq (WC.reg (WL.v (Ev.assign rfl) rfl (WL.nil (WQ.tn (WC.seq (WC.reg (WL.v (Ev.assign rfl) rfl (WL.nil (WQ.tn (WC.seq (WC.seq (WC.reg (WL.v (Ev.assign rfl) rfl (WL.nil (WQ.tn (WC.block (WC.loop (γ := Nat × Option Addr × Nat) (fun ⟨j, A, c⟩ => [(0, str s), (3, .slice A j c), (4, .int .i64 (j : Nat))]) (fun ⟨j, A, c⟩ w1 => j ≤ s.length ∧ St w No w1 [.row 5 1 A j c ((low (s.take j)).flatMap kCh.enc)]) (fun ⟨j, A, c⟩ => s.length - j) (0, none, 0) (⟨Nat.zero_le _, H⟩) ⟨rfl, rfl, rfl, trivial⟩ ?_)))))))))))))))))
  rintro ⟨j, A, c⟩ w1 ⟨hj, H⟩
  refine WC.seq (WC.seq (WC.reg (WL.v (Ev.move rfl) rfl (WL.v (Ev.move rfl) rfl (WL.v (Ev.lens Try.underlying9 rfl) rfl (WL.v (Ev.lssN rfl rfl) rfl (WL.nil (WQ.tn (WC.cond rfl (fun h1 => ?_) (fun h1 => ?_))))))))))
  · try simp only [bsimp] at h1
    refine WC.skip (WQ.tn (WC.seq (WC.block (WC.seq (WC.reg (WL.v (Ev.move rfl) rfl (WL.v (Ev.move rfl) rfl (WL.v (Ev.ch Try.underlying9 rfl rfl (by omega)) rfl (WL.v (Ev.assign rfl) rfl (WL.nil (WQ.tn (WC.cut (γ := Unit) (fun _ => [(0, str s), (3, .slice A j c), (4, .int .i64 (j : Nat)), (5, ch (lowc s[j]))]) (fun _ w1 => St w No w1 [.row 5 1 A j c ((low (s.take j)).flatMap kCh.enc)]) ?_ ?_))))))))))))
    · refine WC.seq (WC.reg (WL.v (Ev.move rfl) rfl (WL.v (Ev.geq rfl rfl) rfl (WL.v (Ev.move rfl) rfl (WL.g (Met.yes rfl rfl) (fun hg => Ev.move rfl) rfl (WL.g (Met.yes rfl rfl) (fun hg => Ev.leq ((evG.un rfl).ev hg) rfl) rfl (WL.v (Ev.and rfl rfl rfl) rfl (WL.nil (WQ.tn (WC.cond rfl (fun h2 => ?_) (fun h2 => ?_)))))))))))
      · try simp only [bsimp] at h2
        refine WC.reg (WL.v (Ev.move rfl) rfl (WL.v (Ev.subw rfl rfl) rfl (WL.v (Ev.addw rfl rfl) rfl (WL.v (Ev.assign rfl) rfl (WL.nil ?_)))))
        exact WQ.meet (()) (H) ⟨rfl, rfl, rfl, (congrArg some (low_yes h1 rfl h2)), trivial⟩
      try simp only [bsimp] at h2
      refine WC.skip ?_
      exact WQ.meet (()) (H) ⟨rfl, rfl, rfl, (congrArg some (low_no h1 rfl h2)), trivial⟩
    · rintro _ w1 H
      refine WC.reg (WL.v (Ev.move rfl) rfl (WL.v (Ev.move rfl) rfl (WL.buildSlice (vs := [_]) (ps := [(_, _)]) Try.underlying127 sz5 z5 rfl (by omega) (by omega) rfl rfl H rfl fun b1 w1 hb1 H L => (WL.append (i := 1) (news := [_]) Try.underlying127 sz5 by5 z5 rfl (by omega) rfl rfl H rfl rfl (H.cells 0 rfl rfl) (by exact allOne_mem rfl) (by omega) (by omega) rfl fun A1 c1 w1 H L LA LB => ?_))))
      replace H := H.tail
      refine WL.v (Ev.assign rfl) rfl (WL.nil (WQ.blk (WQ.tn (WC.reg (WL.v (Ev.move rfl) rfl (WL.v (Ev.addN (b := 1) rfl rfl (by omega)) rfl (WL.v (Ev.assign rfl) rfl (WL.nil ?_))))))))
      exact WQ.again ((j + 1, A1, c1)) (⟨by omega, by rw [low_snoc h1, flat_snoc]; exact H⟩) ⟨rfl, rfl, rfl, trivial⟩ (by first | omega | (dsimp only; omega))
  try simp only [bsimp] at h1
  refine WC.exit (WQ.tn_exit (WQ.loop_exit (WQ.blk_here rfl (WQ.tn (WC.seq ?_)))))
  obtain rfl : j = s.length := by omega
  rw [List.take_length] at H
  have R := H.rd kCh 0 rfl
  refine WC.reg (WL.v (Ev.move rfl) rfl (WL.v (Ev.toStr (s := low s) Try.underlying127 Try.underlying5 Try.underlying9 (by rw [low_length]; rfl) ⟨rfl, fun _ => rfl⟩ R.1) rfl (WL.v (Ev.assign rfl) rfl (WL.nil (WQ.tn (WC.ret (WQ.ret1 rfl rfl ?_)))))))
  exact ⟨rfl, H.done⟩
theorem el_step {s : Bs} {i f : Nat} {d : List Bs} (hi : i < s.length) (hf : f ≤ i) (h : splitC 44 (s.take i) = d ++ [(s.take i).drop f]) (hc : s[i] ≠ 44) : splitC 44 (s.take (i + 1)) = d ++ [(s.take (i + 1)).drop f] := by
  rw [take_succ_get hi, splitC_snoc 44 _ _ _ _ h, if_neg hc, List.drop_append_of_le_length (by rw [List.length_take]; omega)]
theorem el_sep {s : Bs} {i f : Nat} {d : List Bs} (hi : i < s.length) (hf : f ≤ i) (h : splitC 44 (s.take i) = d ++ [(s.take i).drop f]) (hc : s[i] = 44) : splitC 44 (s.take (i + 1)) = (d ++ [(s.take i).drop f]) ++ [(s.take (i + 1)).drop (i + 1)] := by
  rw [take_succ_get hi, splitC_snoc 44 _ _ _ _ h, if_pos hc]
  have : (s.take i ++ [s[i]]).drop (i + 1) = [] := List.drop_eq_nil_of_le (by simp; omega)
  rw [this]; simp
theorem piece (s : Bs) (f i : Nat) : (s.drop f).take (i - f) = (s.take i).drop f := by rw [List.drop_take]
theorem sml_piece {s : Bs} {f i : Nat} (hs : Sml s.length) : Sml ((s.drop f).take (i - f)).length := hs.mono (by simp; omega)
theorem chk_comma {s : Bs} {i : Nat} (h : i < s.length) : decide (byteAt s i = 44) = decide (s[i] = 44) := by
  rw [byteAt_get h, decide_eq_decide]; exact (u8_eq s[i] 44 (by omega)).symm
/-- What stands at the head of a round of Elements. -/
def ElI (s : Bs) (i f : Nat) (o : List Bs) : Prop := i ≤ s.length + 1 ∧ (i ≤ s.length → f ≤ i ∧ ∃ d, splitC 44 (s.take i) = d ++ [(s.take i).drop f] ∧ o = ne' (d.map trim)) ∧ (i = s.length + 1 → o = elements s)
theorem ElI.zero (s : Bs) : ElI s 0 0 [] := ⟨by omega, fun _ => ⟨Nat.le_refl _, [], by simp [splitC], rfl⟩, fun h => by omega⟩
theorem ElI.on {s : Bs} {i f : Nat} {o : List Bs} (h : ElI s i f o) (hi : i < s.length) (hc : s[i] ≠ 44) : ElI s (i + 1) f o := by
  obtain ⟨hf, d, h1, h2⟩ := h.2.1 (by omega)
  exact ⟨by omega, fun _ => ⟨by omega, d, el_step hi hf h1 hc, h2⟩, fun hh => by omega⟩
theorem ElI.cut {s : Bs} {i f : Nat} {o : List Bs} (h : ElI s i f o) (hi : i ≤ s.length) (hc : i = s.length ∨ ∃ h : i < s.length, s[i] = 44) :
    ElI s (i + 1) (i + 1) (if trim ((s.drop f).take (i - f)) = [] then o else o ++ [trim ((s.drop f).take (i - f))]) := by
  obtain ⟨hf, d, h1, h2⟩ := h.2.1 hi
  have e : (if trim ((s.drop f).take (i - f)) = [] then o else o ++ [trim ((s.drop f).take (i - f))]) = ne' ((d ++ [(s.take i).drop f]).map trim) := by
    rw [List.map_append, List.map_cons, List.map_nil, ne'_snoc, h2, piece]
  rw [e]
  refine ⟨by omega, fun hl => ?_, fun hl => ?_⟩
  · rcases hc with hc | ⟨hlt, hc⟩
    · omega
    · exact ⟨Nat.le_refl _, _, el_sep hlt hf h1 hc, rfl⟩
  · have : i = s.length := by omega
    subst this
    rw [List.take_length] at h1
    rw [elements_eq, h1, List.take_length]
theorem ref04_Elements (s : Bs) (hs : Sml s.length) (w : World) :
    Calls Try.prog 43 #[str s] w fun e w' => ∃ A c, e = .returned (.slice A (elements s).length c) ∧ St w No w' [.row 9 1 A (elements s).length c ((elements s).flatMap kStr.enc)] := by
  have hs' := hs.le
  refine calls_of Try.func43 rfl Try.ntmps43 (by rfl) (K0 := [(0, _)]) ⟨rfl, trivial⟩ ?_
  have H := (St.init w).nilrow 9 1
  refine WC.seq (WC.reg (WL.v (Ev.assign rfl) rfl (WL.nil (WQ.tn (WC.seq (WC.reg (WL.v (Ev.assign rfl) rfl (WL.nil (WQ.tn (WC.seq (WC.reg (WL.v (Ev.assign rfl) rfl (WL.nil (WQ.tn (WC.seq (WC.seq (WC.reg (WL.v (Ev.assign rfl) rfl (WL.nil (WQ.tn (WC.block (WC.loop (γ := Nat × Nat × List Bs × Option Addr × Nat) (fun ⟨i, f, o, A, c⟩ => [(0, str s), (3, .slice A o.length c), (4, .int .i64 (f : Nat)), (5, .int .i64 (i : Nat))]) (fun ⟨i, f, o, A, c⟩ w1 => ElI s i f o ∧ o.length ≤ i ∧ St w No w1 [.row 9 1 A o.length c (o.flatMap kStr.enc)]) (fun ⟨i, f, o, A, c⟩ => s.length + 1 - i) (0, 0, [], none, 0) (⟨ElI.zero s, Nat.le_refl _, H⟩) ⟨rfl, rfl, rfl, rfl, trivial⟩ ?_))))))))))))))))))))))
  rintro ⟨i, f, o, A, c⟩ w1 ⟨hI, ho, H⟩
  refine WC.seq (WC.seq (WC.reg (WL.v (Ev.move rfl) rfl (WL.v (Ev.move rfl) rfl (WL.v (Ev.lens Try.underlying9 rfl) rfl (WL.v (Ev.leqN rfl rfl) rfl (WL.nil (WQ.tn (WC.cond rfl (fun h1 => ?_) (fun h1 => ?_))))))))))
  · try simp only [bsimp] at h1
    refine WC.skip (WQ.tn (WC.seq (WC.block (WC.seq (WC.reg (WL.v (Ev.move rfl) rfl (WL.v (Ev.move rfl) rfl (WL.v (Ev.lens Try.underlying9 rfl) rfl (WL.v (Ev.eqN rfl rfl) rfl (WL.v (Ev.move rfl) rfl (WL.g (Met.no rfl rfl) (fun hg => Ev.move rfl) rfl (WL.g (Met.no rfl rfl) (fun hg => Ev.move rfl) rfl (WL.g (Met.no rfl rfl) (fun hg => Ev.ch Try.underlying9 ((evG.un rfl).ev hg) ((evG.un rfl).ev hg) (by simp at hg; omega)) rfl (WL.g (Met.no rfl rfl) (fun hg => Ev.eqi ((evG.un rfl).ev hg) rfl) rfl (WL.v (Ev.or rfl rfl rfl) rfl (WL.nil (WQ.tn (WC.cond rfl (fun h2 => ?_) (fun h2 => ?_)))))))))))))))))))
    · have h2' : i = s.length ∨ ∃ h : i < s.length, s[i] = 44 := by
        simp only [bsimp] at h2
        rcases h2 with h2 | h2
        · exact .inl h2
        · rcases Nat.lt_or_ge i s.length with hl | hl
          · exact .inr ⟨hl, by have := chk_comma hl; simp_all⟩
          · exact .inl (by omega)
      refine WC.seq (WC.reg (WL.v (Ev.move rfl) rfl (WL.v (Ev.move rfl) rfl (WL.v (Ev.move rfl) rfl (WL.v (Ev.subN' Try.underlying9 rfl rfl rfl (by have := (hI.2.1 h1).1; omega) (by omega)) rfl (WL.callS (vs := [_]) rfl cl49 rfl H (ref04_Trim _ (sml_piece hs) _) fun w1 H L => (WL.v (Ev.assign rfl) rfl (WL.nil (WQ.tn (WC.seq (WC.seq (WC.reg (WL.v (Ev.move rfl) rfl (WL.v (Ev.lens Try.underlying9 rfl) rfl (WL.v (Ev.gtrN (b := 0) rfl rfl) rfl (WL.nil (WQ.tn (WC.cond rfl (fun h3 => ?_) (fun h3 => ?_)))))))))))))))))))
      · simp only [bsimp] at h3
        have e : (if trim ((s.drop f).take (i - f)) = [] then o else o ++ [trim ((s.drop f).take (i - f))]) = o ++ [trim ((s.drop f).take (i - f))] := if_neg (by intro hh; rw [hh] at h3; simp at h3)
        refine WC.reg (WL.v (Ev.move rfl) rfl (WL.v (Ev.move rfl) rfl (WL.buildSlice (vs := [_]) (ps := [(_, _)]) Try.underlying50 sz9 z9 rfl (by omega) (by omega) rfl rfl H rfl fun b1 w1 hb1 H L => (WL.append (i := 1) (news := [_]) Try.underlying50 sz9 by9 z9 rfl (by omega) rfl rfl H rfl rfl (H.cells 0 rfl rfl) (by exact allOne_mem rfl) (by omega) (by have := ho; omega) rfl fun A1 c1 w1 H L LA LB => ?_))))
        replace H := H.tail
        refine WL.v (Ev.assign rfl) rfl (WL.nil (WQ.tn (WC.reg (WL.v (Ev.move rfl) rfl (WL.v (Ev.addN (b := 1) rfl rfl (by omega)) rfl (WL.v (Ev.assign rfl) rfl (WL.nil (WQ.blk (WQ.tn (WC.reg (WL.v (Ev.move rfl) rfl (WL.v (Ev.addN (b := 1) rfl rfl (by omega)) rfl (WL.v (Ev.assign rfl) rfl (WL.nil ?_))))))))))))))
        exact WQ.again ((i + 1, i + 1, o ++ [trim ((s.drop f).take (i - f))], A1, c1)) (⟨e ▸ hI.cut h1 h2', by simp; omega, by rw [flat_snoc, List.length_append]; exact H⟩) ⟨rfl, (by rw [List.length_append]; rfl), rfl, rfl, trivial⟩ (by first | omega | (dsimp only; omega))
      simp only [bsimp] at h3
      have e : (if trim ((s.drop f).take (i - f)) = [] then o else o ++ [trim ((s.drop f).take (i - f))]) = o := if_pos (List.eq_nil_of_length_eq_zero (by omega))
      refine WC.skip (WQ.tn (WC.reg (WL.v (Ev.move rfl) rfl (WL.v (Ev.addN (b := 1) rfl rfl (by omega)) rfl (WL.v (Ev.assign rfl) rfl (WL.nil (WQ.blk (WQ.tn (WC.reg (WL.v (Ev.move rfl) rfl (WL.v (Ev.addN (b := 1) rfl rfl (by omega)) rfl (WL.v (Ev.assign rfl) rfl (WL.nil ?_)))))))))))))
      exact WQ.again ((i + 1, i + 1, o, A, c)) (⟨e ▸ hI.cut h1 h2', by omega, H⟩) ⟨rfl, rfl, rfl, rfl, trivial⟩ (by first | omega | (dsimp only; omega))
    have h2' : ∃ h : i < s.length, s[i] ≠ 44 := by
      simp only [bsimp] at h2
      have hl : i < s.length := by omega
      exact ⟨hl, by have := chk_comma hl; simp_all⟩
    obtain ⟨hl, hne⟩ := h2'
    refine WC.skip (WQ.blk (WQ.tn (WC.reg (WL.v (Ev.move rfl) rfl (WL.v (Ev.addN (b := 1) rfl rfl (by omega)) rfl (WL.v (Ev.assign rfl) rfl (WL.nil ?_)))))))
    exact WQ.again ((i + 1, f, o, A, c)) (⟨hI.on hl hne, by omega, H⟩) ⟨rfl, rfl, rfl, rfl, trivial⟩ (by first | omega | (dsimp only; omega))
  try simp only [bsimp] at h1
  refine WC.exit (WQ.tn_exit (WQ.loop_exit (WQ.blk_here rfl (WQ.tn (WC.seq (WC.reg (WL.v (Ev.move rfl) rfl (WL.v (Ev.assign rfl) rfl (WL.nil (WQ.tn (WC.ret (WQ.ret1 rfl rfl ?_))))))))))))
  obtain rfl : o = elements s := hI.2.2 (by have := hI.1; omega)
  exact ⟨A, c, rfl, H⟩
end Go.Proofs.Ytcmolgiccccnoaa
