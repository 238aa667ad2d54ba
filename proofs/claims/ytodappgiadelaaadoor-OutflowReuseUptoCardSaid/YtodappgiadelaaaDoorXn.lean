/- The walks of functions: what each comes to. -/
import Derived.Test.YtodappgiadelaaaDoorXm
import Derived.Test.YtodappgiadelaaaDoorProg
set_option linter.unusedVariables false
set_option linter.unusedSimpArgs false
namespace Go.Proofs.YtodappgiadelaaaDoor
open Go.RowKit Go.BK
theorem z51 : zOk Tryd.prog 51 (.agg #[.int .i64 0, .int .i64 0]) := by unfold zOk; kernel_rfl
theorem fa39_2 : fldB Tryd.prog 39 2 2 = true := by kernel_rfl
theorem cl32 : callB Tryd.prog 32 = true := by kernel_rfl
theorem pl51 : plOf Tryd.prog 51 = some [(0, 1), (1, 1)] := by kernel_rfl
theorem sz51 : szOk Tryd.prog 51 2 := by unfold szOk; kernel_rfl
theorem ag51 : aggB Tryd.prog 51 = true := by kernel_rfl
theorem cl33 : callB Tryd.prog 33 = true := by kernel_rfl
theorem cl34 : callB Tryd.prog 34 = true := by kernel_rfl
theorem cl35 : callB Tryd.prog 35 = true := by kernel_rfl
@[reducible] def frV (r : (Int × Int) × Int) : Value := .tuple #[.agg #[.int .i64 r.1.1, .int .i64 r.1.2], .int .i64 r.2]
section
variable {m : Bs} {h : Hd} {fs : List Fld}
theorem frR_1 (h1 : h.status = 101 ∨ (((200 ≤ h.status ∧ h.status ≤ 299) ∧ h.status ≠ 204) ∧ m = litCONNECT)) : frR m h fs = ((5, 0), 0) := by
  unfold frR; rw [if_pos (by rcases h1 with h1 | ⟨⟨⟨a, b⟩, c⟩, d⟩; exact .inl h1; exact .inr ⟨a, b, c, d⟩)]
theorem frR_0 (h1 : ¬ (h.status = 101 ∨ (((200 ≤ h.status ∧ h.status ≤ 299) ∧ h.status ≠ 204) ∧ m = litCONNECT))) : frR m h fs = if (100 ≤ h.status ∧ h.status ≤ 199) ∨ h.status = 204 ∨ h.status = 304 ∨ m = litHEAD then ((1, 0), 0)
  else if isF fs litTE = true then (if h.minor = 0 ∨ isF fs litCL = true then ((0, 0), 90) else if (codP fs).1 = true then ((3, 0), 0) else ((0, 0), 91))
  else if isF fs litCL = true then (if (lenP fs).2 = true then ((2, (lenP fs).1), 0) else ((0, 0), 90))
  else ((4, 0), 0) := by
  unfold frR; rw [if_neg (by rintro (h2 | ⟨a, b, c, d⟩); exact h1 (.inl h2); exact h1 (.inr ⟨⟨⟨a, b⟩, c⟩, d⟩))]
theorem frR_2 (h1 : ¬ (h.status = 101 ∨ (((200 ≤ h.status ∧ h.status ≤ 299) ∧ h.status ≠ 204) ∧ m = litCONNECT))) (h2 : (((100 ≤ h.status ∧ h.status ≤ 199) ∨ h.status = 204) ∨ h.status = 304) ∨ m = litHEAD) : frR m h fs = ((1, 0), 0) := by
  rw [frR_0 h1, if_pos (by rcases h2 with ((h2 | h2) | h2) | h2; exact .inl h2; exact .inr (.inl h2); exact .inr (.inr (.inl h2)); exact .inr (.inr (.inr h2)))]
theorem frR_3 (h1 : ¬ (h.status = 101 ∨ (((200 ≤ h.status ∧ h.status ≤ 299) ∧ h.status ≠ 204) ∧ m = litCONNECT))) (h2 : ¬ ((((100 ≤ h.status ∧ h.status ≤ 199) ∨ h.status = 204) ∨ h.status = 304) ∨ m = litHEAD)) : frR m h fs = if isF fs litTE = true then (if h.minor = 0 ∨ isF fs litCL = true then ((0, 0), 90) else if (codP fs).1 = true then ((3, 0), 0) else ((0, 0), 91))
  else if isF fs litCL = true then (if (lenP fs).2 = true then ((2, (lenP fs).1), 0) else ((0, 0), 90))
  else ((4, 0), 0) := by
  rw [frR_0 h1, if_neg (by rintro (h3 | h3 | h3 | h3); exact h2 (.inl (.inl (.inl h3))); exact h2 (.inl (.inl (.inr h3))); exact h2 (.inl (.inr h3)); exact h2 (.inr h3))]
end
set_option maxRecDepth 20000 in
set_option maxHeartbeats 1000000 in
theorem fr_Response (m : Bs) (h : Hd) (A : Option Addr) (c : Nat) (fs : List Fld) (G : Nat → Prop) (hx : Okh fs) (w : World) (R : Rd kFd G w A c fs) :
    Calls Tryd.prog 23 #[str m, hdV h A fs.length c] w fun e w' => e = .returned (frV (frR m h fs)) ∧ St w No w' [] := by
  refine calls_of Tryd.func23 rfl Tryd.ntmps23 (by rfl) (K0 := [(0, _), (1, _)]) ⟨rfl, rfl, trivial⟩ ?_
  have H := St.init w
  refine WC.seq (WC.reg (WL.box (t := 39) (cs := [_, _, _, _, _, _]) rfl rfl H rfl fun b1 w1 hb1 H L => (WL.alloc z51 rfl H rfl fun b2 w1 hb2 H L => (WL.v (Ev.assign rfl) rfl (WL.nil (WQ.tn (WC.seq (WC.reg (WL.v (Ev.fieldAddr fa39_2 rfl) rfl (WL.v (Ev.load fl3 rfl (H.cell 1 rfl rfl)) rfl (WL.v (Ev.assign rfl) rfl (WL.nil (WQ.tn (WC.seq (WC.reg (WL.v (Ev.loadA (vs := [_, _, _, _, _, _]) ag39 sz39 rfl (H.cells 1 rfl rfl)) rfl (WL.callS (vs := [_, _]) rfl cl32 rfl H (fr_has h A c fs _ hx litCL (by unfold Sml; decide) _ (R.st H)) fun w1 H L => (WL.v (Ev.assign rfl) rfl (WL.nil ?_)))))))))))))))))))
  refine WQ.tn (WC.seq (WC.block (WC.seq (WC.reg (WL.v (Ev.move rfl) rfl (WL.v (Ev.eqi rfl rfl) rfl (WL.v (Ev.move rfl) rfl (WL.g (Met.no rfl rfl) (fun hg => Ev.move rfl) rfl (WL.g (Met.no rfl rfl) (fun hg => Ev.geq ((evG.un rfl).ev hg) rfl) rfl (WL.g (Met.no rfl rfl) (fun hg => Ev.move ((evG.un rfl).ev hg)) rfl (WL.g (Met.gyes rfl rfl) (fun hg => Ev.move rfl) rfl (WL.g (Met.gyes rfl rfl) (fun hg => Ev.leq ((evG.un rfl).ev hg) rfl) rfl (WL.g (Met.no rfl rfl) (fun hg => Ev.and ((evG.un rfl).ev hg) ((evG.nest rfl).ev hg) rfl) rfl (WL.g (Met.no rfl rfl) (fun hg => Ev.move ((evG.un rfl).ev hg)) rfl (WL.g (Met.gyes rfl rfl) (fun hg => Ev.move rfl) rfl (WL.g (Met.gyes rfl rfl) (fun hg => Ev.nei ((evG.un rfl).ev hg) rfl) rfl (WL.g (Met.no rfl rfl) (fun hg => Ev.and ((evG.un rfl).ev hg) ((evG.nest rfl).ev hg) rfl) rfl (WL.g (Met.no rfl rfl) (fun hg => Ev.move ((evG.un rfl).ev hg)) rfl (WL.g (Met.gyes rfl rfl) (fun hg => Ev.move rfl) rfl (WL.g (Met.gyes rfl rfl) (fun hg => Ev.eqs ((evG.un rfl).ev hg) rfl) rfl (WL.g (Met.no rfl rfl) (fun hg => Ev.and ((evG.un rfl).ev hg) ((evG.nest rfl).ev hg) rfl) rfl (WL.v (Ev.or rfl rfl rfl) rfl (WL.v (Ev.assign rfl) rfl (WL.nil ?_))))))))))))))))))))))))
  refine WQ.tn (WC.cond rfl (fun h0 => ?_) (fun h0 => ?_))
  · try simp only [bsimp] at h0
    refine WC.seq (WC.reg (WL.v (Ev.build (vs := [_, _]) (ps := [(_, _)]) pl51 z51 rfl rfl) rfl (WL.store (i := 0) (vs := [_, _]) rfl rfl rfl sz51 rfl H rfl rfl fun w1 H L => (WL.v (Ev.assign rfl) rfl (WL.nil (WQ.tn (WC.ret (WQ.blk_ret (WQ.tn_ret (WQ.retC2 (vs := [_, _]) rfl rfl rfl ag51 sz51 (H.cells 0 rfl rfl) (⟨?_, H.done⟩)))))))))))
    rw [frR_1 h0]
  have hn0 : ¬ (h.status = 101 ∨ (((200 ≤ h.status ∧ h.status ≤ 299) ∧ h.status ≠ 204) ∧ m = litCONNECT)) := fun hh => by
    have h9 := h0
    rw [Bool.eq_false_iff] at h9
    apply h9
    simp only [bsimp]
    exact hh
  refine WC.seq (WC.reg (WL.v (Ev.move rfl) rfl (WL.v (Ev.geq rfl rfl) rfl (WL.v (Ev.move rfl) rfl (WL.g (Met.yes rfl rfl) (fun hg => Ev.move rfl) rfl (WL.g (Met.yes rfl rfl) (fun hg => Ev.leq ((evG.un rfl).ev hg) rfl) rfl (WL.v (Ev.and rfl rfl rfl) rfl (WL.v (Ev.move rfl) rfl (WL.g (Met.no rfl rfl) (fun hg => Ev.move rfl) rfl (WL.g (Met.no rfl rfl) (fun hg => Ev.eqi ((evG.un rfl).ev hg) rfl) rfl (WL.v (Ev.or rfl rfl rfl) rfl (WL.v (Ev.move rfl) rfl (WL.g (Met.no rfl rfl) (fun hg => Ev.move rfl) rfl (WL.g (Met.no rfl rfl) (fun hg => Ev.eqi ((evG.un rfl).ev hg) rfl) rfl (WL.v (Ev.or rfl rfl rfl) rfl (WL.v (Ev.move rfl) rfl (WL.g (Met.no rfl rfl) (fun hg => Ev.move rfl) rfl (WL.g (Met.no rfl rfl) (fun hg => Ev.eqs ((evG.un rfl).ev hg) rfl) rfl (WL.v (Ev.or rfl rfl rfl) rfl (WL.v (Ev.assign rfl) rfl (WL.nil ?_)))))))))))))))))))))
  refine WQ.tn (WC.cond rfl (fun h1 => ?_) (fun h1 => ?_))
  · try simp only [bsimp] at h1
    refine WC.seq (WC.reg (WL.v (Ev.build (vs := [_, _]) (ps := [(_, _)]) pl51 z51 rfl rfl) rfl (WL.store (i := 0) (vs := [_, _]) rfl rfl rfl sz51 rfl H rfl rfl fun w1 H L => (WL.v (Ev.assign rfl) rfl (WL.nil (WQ.tn (WC.ret (WQ.blk_ret (WQ.tn_ret (WQ.retC2 (vs := [_, _]) rfl rfl rfl ag51 sz51 (H.cells 0 rfl rfl) (⟨?_, H.done⟩)))))))))))
    rw [frR_2 hn0 h1]
  have hn1 : ¬ ((((100 ≤ h.status ∧ h.status ≤ 199) ∨ h.status = 204) ∨ h.status = 304) ∨ m = litHEAD) := fun hh => by
    have h9 := h1
    rw [Bool.eq_false_iff] at h9
    apply h9
    simp only [bsimp]
    exact hh
  refine WC.seq (WC.reg (WL.v (Ev.loadA (vs := [_, _, _, _, _, _]) ag39 sz39 rfl (H.cells 1 rfl rfl)) rfl (WL.callS (vs := [_, _]) rfl cl32 rfl H (fr_has h A c fs _ hx litTE (by unfold Sml; decide) _ (R.st H)) fun w1 H L => (WL.v (Ev.assign rfl) rfl (WL.nil (WQ.tn (WC.cond rfl (fun h2 => ?_) (fun h2 => ?_))))))))
  · try simp only [bsimp] at h2
    refine WC.seq (WC.reg (WL.v (Ev.loadA (vs := [_, _, _, _, _, _]) ag39 sz39 rfl (H.cells 1 rfl rfl)) rfl (WL.callS (vs := [_]) rfl cl33 rfl H (fr_coding h A c fs _ hx _ (R.st H)) fun w1 H L => (WL.v (Ev.move rfl) rfl (WL.v (Ev.extract rfl rfl) rfl (WL.v (Ev.extract rfl rfl) rfl (WL.v (Ev.assign rfl) rfl (WL.v (Ev.assign rfl) rfl (WL.nil (WQ.tn (WC.seq (WC.block (WC.seq (WC.reg (WL.v (Ev.fieldAddr fa39_4 rfl) rfl (WL.v (Ev.load fl3 rfl (H.cell 1 rfl rfl)) rfl (WL.v (Ev.eqi rfl rfl) rfl (WL.v (Ev.move rfl) rfl (WL.g (Met.no rfl rfl) (fun hg => Ev.move rfl) rfl (WL.v (Ev.or rfl rfl rfl) rfl (WL.v (Ev.assign rfl) rfl (WL.nil ?_))))))))))))))))))))))
    refine WQ.tn (WC.cond rfl (fun h3 => ?_) (fun h3 => ?_))
    · try simp only [bsimp] at h3
      refine WC.seq (WC.reg (WL.v (Ev.build (vs := [_, _]) (ps := []) pl51 z51 rfl rfl) rfl (WL.store (i := 0) (vs := [_, _]) rfl rfl rfl sz51 rfl H rfl rfl fun w1 H L => (WL.v (Ev.assign rfl) rfl (WL.nil (WQ.tn (WC.ret (WQ.blk_ret (WQ.tn_ret (WQ.blk_ret (WQ.tn_ret (WQ.retC2 (vs := [_, _]) rfl rfl rfl ag51 sz51 (H.cells 0 rfl rfl) (⟨?_, H.done⟩)))))))))))))
      rw [frR_3 hn0 hn1, if_pos h2, if_pos h3]
    try simp only [bsimp] at h3
    refine WC.seq (WC.reg (WL.v (Ev.move rfl) rfl (WL.v (Ev.assign rfl) rfl (WL.nil (WQ.tn (WC.cond rfl (fun h4 => ?_) (fun h4 => ?_)))))))
    · try simp only [bsimp] at h4
      refine WC.seq (WC.reg (WL.v (Ev.build (vs := [_, _]) (ps := [(_, _)]) pl51 z51 rfl rfl) rfl (WL.store (i := 0) (vs := [_, _]) rfl rfl rfl sz51 rfl H rfl rfl fun w1 H L => (WL.v (Ev.assign rfl) rfl (WL.nil (WQ.tn (WC.ret (WQ.blk_ret (WQ.tn_ret (WQ.blk_ret (WQ.tn_ret (WQ.retC2 (vs := [_, _]) rfl rfl rfl ag51 sz51 (H.cells 0 rfl rfl) (⟨?_, H.done⟩)))))))))))))
      rw [frR_3 hn0 hn1, if_pos h2, if_neg (by rintro (hh | hh); exact h3.1 hh; rw [h3.2] at hh; cases hh), if_pos h4]
    try simp only [bsimp] at h4
    refine WC.skip (WQ.blk (WQ.tn (WC.seq (WC.reg (WL.v (Ev.build (vs := [_, _]) (ps := []) pl51 z51 rfl rfl) rfl (WL.store (i := 0) (vs := [_, _]) rfl rfl rfl sz51 rfl H rfl rfl fun w1 H L => (WL.v (Ev.assign rfl) rfl (WL.nil (WQ.tn (WC.ret (WQ.blk_ret (WQ.tn_ret (WQ.retC2 (vs := [_, _]) rfl rfl rfl ag51 sz51 (H.cells 0 rfl rfl) (⟨?_, H.done⟩))))))))))))))
    rw [frR_3 hn0 hn1, if_pos h2, if_neg (by rintro (hh | hh); exact h3.1 hh; rw [h3.2] at hh; cases hh), if_neg (by rw [h4]; simp)]
  try simp only [bsimp] at h2
  refine WC.seq (WC.reg (WL.v (Ev.move rfl) rfl (WL.v (Ev.assign rfl) rfl (WL.nil (WQ.tn (WC.cond rfl (fun h5 => ?_) (fun h5 => ?_)))))))
  · try simp only [bsimp] at h5
    refine WC.seq (WC.reg (WL.v (Ev.loadA (vs := [_, _, _, _, _, _]) ag39 sz39 rfl (H.cells 1 rfl rfl)) rfl (WL.callS (vs := [_]) rfl cl34 rfl H (fr_length h A c fs _ hx _ (R.st H)) fun w1 H L => (WL.v (Ev.move rfl) rfl (WL.v (Ev.extract rfl rfl) rfl (WL.v (Ev.extract rfl rfl) rfl (WL.v (Ev.assign rfl) rfl (WL.v (Ev.assign rfl) rfl (WL.nil (WQ.tn (WC.seq (WC.seq (WC.reg (WL.v (Ev.move rfl) rfl (WL.v (Ev.not rfl) rfl (WL.nil (WQ.tn (WC.cond rfl (fun h6 => ?_) (fun h6 => ?_)))))))))))))))))))
    · try simp only [bsimp] at h6
      refine WC.seq (WC.reg (WL.v (Ev.build (vs := [_, _]) (ps := []) pl51 z51 rfl rfl) rfl (WL.store (i := 0) (vs := [_, _]) rfl rfl rfl sz51 rfl H rfl rfl fun w1 H L => (WL.v (Ev.assign rfl) rfl (WL.nil (WQ.tn (WC.ret (WQ.tn_ret (WQ.blk_ret (WQ.tn_ret (WQ.retC2 (vs := [_, _]) rfl rfl rfl ag51 sz51 (H.cells 0 rfl rfl) (⟨?_, H.done⟩))))))))))))
      rw [frR_3 hn0 hn1, if_neg (by rw [h2]; simp), if_pos h5, if_neg (by rw [h6]; simp)]
    try simp only [bsimp] at h6
    refine WC.skip (WQ.tn (WC.seq (WC.reg (WL.v (Ev.move rfl) rfl (WL.v (Ev.build (vs := [_, _]) (ps := [(_, _), (_, _)]) pl51 z51 rfl rfl) rfl (WL.store (i := 0) (vs := [_, _]) rfl rfl rfl sz51 rfl H rfl rfl fun w1 H L => (WL.v (Ev.assign rfl) rfl (WL.nil (WQ.tn (WC.ret (WQ.blk_ret (WQ.tn_ret (WQ.retC2 (vs := [_, _]) rfl rfl rfl ag51 sz51 (H.cells 0 rfl rfl) (⟨?_, H.done⟩))))))))))))))
    rw [frR_3 hn0 hn1, if_neg (by rw [h2]; simp), if_pos h5, if_pos h6]
    rfl
  try simp only [bsimp] at h5
  refine WC.skip (WQ.blk (WQ.tn (WC.seq (WC.reg (WL.v (Ev.build (vs := [_, _]) (ps := [(_, _)]) pl51 z51 rfl rfl) rfl (WL.store (i := 0) (vs := [_, _]) rfl rfl rfl sz51 rfl H rfl rfl fun w1 H L => (WL.v (Ev.assign rfl) rfl (WL.nil (WQ.tn (WC.ret (WQ.retC2 (vs := [_, _]) rfl rfl rfl ag51 sz51 (H.cells 0 rfl rfl) (⟨?_, H.done⟩))))))))))))
  rw [frR_3 hn0 hn1, if_neg (by rw [h2]; simp), if_neg (by rw [h5]; simp)]
set_option maxRecDepth 20000 in
theorem fr_Keep (h : Hd) (A : Option Addr) (c : Nat) (fs : List Fld) (G : Nat → Prop) (hx : Okh fs) (w : World) (R : Rd kFd G w A c fs) :
    Calls Tryd.prog 24 #[hdV h A fs.length c] w fun e w' => e = .returned (.bool (keepP h fs)) ∧ St w No w' [] := by
  refine calls_of Tryd.func24 rfl Tryd.ntmps24 (by rfl) (K0 := [(0, _)]) ⟨rfl, trivial⟩ ?_
  have H := St.init w
  refine WC.seq (WC.reg (WL.box (t := 39) (cs := [_, _, _, _, _, _]) rfl rfl H rfl fun b1 w1 hb1 H L => (WL.v (Ev.assign rfl) rfl (WL.nil (WQ.tn (WC.seq (WC.reg (WL.v (Ev.fieldAddr fa39_5 rfl) rfl (WL.v (Ev.load fl37 rfl (H.cell 0 rfl rfl)) rfl (WL.callS (vs := [_, _, _]) rfl cl35 rfl H (by exact fd_Has A c fs _ hx litConn (by unfold Sml; decide) litClose (by unfold Sml; decide) _ (R.st H)) fun w1 H L => (WL.v (Ev.not rfl) rfl (WL.v (Ev.move rfl) rfl (WL.g (Met.yes rfl rfl) (fun hg => Ev.fieldAddr fa39_4 rfl) rfl (WL.g (Met.yes rfl rfl) (fun hg => Ev.load fl3 ((evG.un rfl).ev hg) (H.cell 0 rfl rfl)) rfl (WL.g (Met.yes rfl rfl) (fun hg => Ev.nei ((evG.un rfl).ev hg) rfl) rfl (WL.g (Met.yes rfl rfl) (fun hg => Ev.move ((evG.un rfl).ev hg)) rfl (WL.g (Met.gno rfl rfl) (fun hg => Ev.fieldAddr fa39_5 rfl) rfl (WL.g (Met.gno rfl rfl) (fun hg => Ev.load fl37 ((evG.un rfl).ev hg) (H.cell 0 rfl rfl)) rfl (WL.gcallS (vs := [_, _, _]) (Met.gno rfl rfl) (fun hg => (evs_cons ((evG.un rfl).ev hg) (evs_cons rfl (evs_cons rfl rfl)))) cl35 rfl H (fun hg => by exact fd_Has A c fs _ hx litConn (by unfold Sml; decide) litKeep (by unfold Sml; decide) _ (R.st H)) fun w1 H L => (WL.g (Met.yes rfl rfl) (fun hg => Ev.or ((evG.un rfl).ev hg) rfl ((evG.nest rfl).ev hg)) rfl (WL.v (Ev.and rfl rfl rfl) rfl (WL.v (Ev.assign rfl) rfl (WL.nil ?_)))))))))))))))))))))))
  refine WQ.tn (WC.ret (WQ.ret1 rfl rfl ?_))
  exact ⟨rfl, H.done⟩
end Go.Proofs.YtodappgiadelaaaDoor
