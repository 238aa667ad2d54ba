/- The walks of functions: what each comes to. -/
import Derived.Test.YtodappgiadelaaaDoorXh
import Derived.Test.YtodappgiadelaaaDoorProg
set_option linter.unusedVariables false
set_option linter.unusedSimpArgs false
namespace Go.Proofs.YtodappgiadelaaaDoor
open Go.RowKit Go.BK
theorem z39 : zOk Tryd.prog 39 (.agg #[str [], str [], .int .i64 0, str [], .int .i64 0, .slice none 0 0]) := by unfold zOk; kernel_rfl
theorem pl39 : plOf Tryd.prog 39 = some [(0, 1), (1, 1), (2, 1), (3, 1), (4, 1), (5, 1)] := by kernel_rfl
theorem sz39 : szOk Tryd.prog 39 6 := by unfold szOk; kernel_rfl
theorem ag39 : aggB Tryd.prog 39 = true := by kernel_rfl
theorem fa39_3 : fldB Tryd.prog 39 3 3 = true := by kernel_rfl
theorem cl42 : callB Tryd.prog 42 = true := by kernel_rfl
theorem fa39_4 : fldB Tryd.prog 39 4 4 = true := by kernel_rfl
theorem cl54 : callB Tryd.prog 54 = true := by kernel_rfl
theorem cl55 : callB Tryd.prog 55 = true := by kernel_rfl
theorem cl56 : callB Tryd.prog 56 = true := by kernel_rfl
theorem pl79 : plOf Tryd.prog 79 = some [(0, 1), (1, 1)] := by kernel_rfl
@[reducible] def hdL (h : Hd) (A : Option Addr) (n c : Nat) : List Value := [str h.meth, str h.target, .int .i64 h.status, str h.reason, .int .i64 h.minor, .slice A n c]
@[reducible] def hdC (b : Nat) (h : Hd) (A : Option Addr) (n c : Nat) : Chunk := .blk b (hdL h A n c) 39 (0, 0)
@[reducible] def hdV (h : Hd) (A : Option Addr) (n c : Nat) : Value := .agg (hdL h A n c).toArray
theorem stat_len {l : Bs} (h1 : 12 ≤ l.length) (h2 : byteAt l 8 = 32) (h3 : l.length ≤ 12 ∨ byteAt l 12 = 32) : statP l = if (decP ((l.drop 9).take 3) 3).2 = false ∨ (decP ((l.drop 9).take 3) 3).1 < 100 ∨ 599 < (decP ((l.drop 9).take 3) 3).1 then (Hd.zero, 80) else if (l.drop 13).all valc then (⟨[], [], (decP ((l.drop 9).take 3) 3).1, l.drop 13, (verP (l.take 8)).1⟩, (verP (l.take 8)).2) else (Hd.zero, 80) := by
  unfold statP
  rw [if_neg (by rintro (h | h | h); omega; exact h h2; rcases h3 with h3 | h3; omega; exact h.2 h3)]
theorem stat_num {l : Bs} (h1 : 12 ≤ l.length) (h2 : byteAt l 8 = 32) (h3 : l.length ≤ 12 ∨ byteAt l 12 = 32) (h4 : (decP ((l.drop 9).take 3) 3).2 = true) (h5 : 100 ≤ (decP ((l.drop 9).take 3) 3).1) (h6 : (decP ((l.drop 9).take 3) 3).1 ≤ 599) : statP l = if (l.drop 13).all valc then (⟨[], [], (decP ((l.drop 9).take 3) 3).1, l.drop 13, (verP (l.take 8)).1⟩, (verP (l.take 8)).2) else (Hd.zero, 80) := by
  rw [stat_len h1 h2 h3, if_neg (by rintro (h | h | h); rw [h4] at h; cases h; omega; omega)]
set_option maxRecDepth 20000 in
theorem hd_status (l : Bs) (hs : Sml l.length) (w : World) :
    Calls Tryd.prog 31 #[str l] w fun e w' => e = .returned (.tuple #[hdV (statP l).1 none 0 0, .int .i64 (statP l).2]) ∧ St w No w' [] := by
  have hs9 := hs.le
  have hdl : (l.drop 13).length ≤ l.length := by simp
  refine calls_of Tryd.func31 rfl Tryd.ntmps31 (by rfl) (K0 := [(0, _)]) ⟨rfl, trivial⟩ ?_
  have H := St.init w
  refine WC.seq (WC.reg (WL.alloc z39 rfl H rfl fun b1 w1 hb1 H L => (WL.v (Ev.assign rfl) rfl (WL.nil (WQ.tn (WC.seq (WC.seq (WC.reg (WL.v (Ev.move rfl) rfl (WL.v (Ev.lens Tryd.underlying9 rfl) rfl (WL.v (Ev.lssN (b := 12) rfl rfl) rfl (WL.v (Ev.move rfl) rfl (WL.g (Met.no rfl rfl) (fun hg => Ev.move rfl) rfl (WL.g (Met.no rfl rfl) (fun hg => Ev.ch Tryd.underlying9 ((evG.un rfl).ev hg) rfl (by simp at hg; first | omega | (simp; omega))) rfl (WL.g (Met.no rfl rfl) (fun hg => Ev.nei ((evG.un rfl).ev hg) rfl) rfl (WL.v (Ev.or rfl rfl rfl) rfl (WL.v (Ev.move rfl) rfl (WL.g (Met.no rfl rfl) (fun hg => Ev.move rfl) rfl (WL.g (Met.no rfl rfl) (fun hg => Ev.lens Tryd.underlying9 ((evG.un rfl).ev hg)) rfl (WL.g (Met.no rfl rfl) (fun hg => Ev.gtrN (b := 12) ((evG.un rfl).ev hg) rfl) rfl (WL.g (Met.no rfl rfl) (fun hg => Ev.move ((evG.un rfl).ev hg)) rfl (WL.g (Met.gyes rfl rfl) (fun hg => Ev.move rfl) rfl (WL.g (Met.gyes rfl rfl) (fun hg => Ev.ch Tryd.underlying9 ((evG.un rfl).ev hg) rfl (by simp at hg; first | omega | (simp; omega))) rfl (WL.g (Met.gyes rfl rfl) (fun hg => Ev.nei ((evG.un rfl).ev hg) rfl) rfl (WL.g (Met.no rfl rfl) (fun hg => Ev.and ((evG.un rfl).ev hg) ((evG.nest rfl).ev hg) rfl) rfl (WL.v (Ev.or rfl rfl rfl) rfl (WL.nil ?_)))))))))))))))))))))))))))
  refine WQ.tn (WC.cond rfl (fun h0 => ?_) (fun h0 => ?_))
  · try simp only [bsimp] at h0
    refine WC.seq (WC.reg (WL.v (Ev.build (vs := [_, _, _, _, _, _]) (ps := []) pl39 z39 rfl rfl) rfl (WL.store (i := 0) (vs := [_, _, _, _, _, _]) rfl rfl rfl sz39 rfl H rfl rfl fun w1 H L => (WL.v (Ev.assign rfl) rfl (WL.nil (WQ.tn (WC.ret (WQ.tn_ret (WQ.retC2 (vs := [_, _, _, _, _, _]) rfl rfl rfl ag39 sz39 (H.cells 0 rfl rfl) (⟨?_, H.done⟩))))))))))
    unfold statP
    rw [if_pos (by rcases h0 with (h | h) | h; exact .inl (by omega); exact .inr (.inl h); exact .inr (.inr ⟨by omega, h.2⟩))]
    rfl
  simp only [bsimp] at h0
  obtain ⟨⟨h01, h02⟩, h03⟩ := h0
  refine WC.skip (WQ.tn (WC.seq (WC.reg (WL.v (Ev.move rfl) rfl (WL.v (Ev.subN' Tryd.underlying9 rfl rfl rfl (by first | omega | (simp; done) | (simp; omega)) (by first | omega | (simp; done) | (simp; omega))) rfl (WL.callS (vs := [_, _]) rfl cl41 rfl H (lx_Decimal _ (hs.mono (by first | (simp; done) | (simp; omega))) 3 (by unfold I64; omega) _) fun w1 H L => (WL.v (Ev.move rfl) rfl (WL.v (Ev.extract rfl rfl) rfl (WL.v (Ev.extract rfl rfl) rfl (WL.v (Ev.assign rfl) rfl (WL.v (Ev.assign rfl) rfl (WL.nil (WQ.tn (WC.seq (WC.seq (WC.reg (WL.v (Ev.move rfl) rfl (WL.v (Ev.not rfl) rfl (WL.v (Ev.move rfl) rfl (WL.g (Met.no rfl rfl) (fun hg => Ev.move rfl) rfl (WL.g (Met.no rfl rfl) (fun hg => Ev.lss ((evG.un rfl).ev hg) rfl) rfl (WL.v (Ev.or rfl rfl rfl) rfl (WL.v (Ev.move rfl) rfl (WL.g (Met.no rfl rfl) (fun hg => Ev.move rfl) rfl (WL.g (Met.no rfl rfl) (fun hg => Ev.gtr ((evG.un rfl).ev hg) rfl) rfl (WL.v (Ev.or rfl rfl rfl) rfl (WL.nil ?_)))))))))))))))))))))))))))
  refine WQ.tn (WC.cond rfl (fun h1 => ?_) (fun h1 => ?_))
  · try simp only [bsimp] at h1
    refine WC.seq (WC.reg (WL.v (Ev.build (vs := [_, _, _, _, _, _]) (ps := []) pl39 z39 rfl rfl) rfl (WL.store (i := 0) (vs := [_, _, _, _, _, _]) rfl rfl rfl sz39 rfl H rfl rfl fun w1 H L => (WL.v (Ev.assign rfl) rfl (WL.nil (WQ.tn (WC.ret (WQ.tn_ret (WQ.retC2 (vs := [_, _, _, _, _, _]) rfl rfl rfl ag39 sz39 (H.cells 0 rfl rfl) (⟨?_, H.done⟩))))))))))
    rw [stat_len (by omega) h02 (by rcases h03 with h | h; exact .inl (by omega); exact .inr h), if_pos (by rcases h1 with (h | h) | h; exact .inl h; exact .inr (.inl h); exact .inr (.inr h))]
    rfl
  simp only [bsimp] at h1
  obtain ⟨⟨h11, h12⟩, h13⟩ := h1
  refine WC.skip (WQ.tn (WC.seq (WC.reg (WL.v (Ev.move rfl) rfl (WL.v (Ev.build (vs := [_, _, _, _, _, _]) (ps := [(_, _)]) pl39 z39 rfl rfl) rfl (WL.alloc z39 rfl H rfl fun b2 w1 hb2 H L => (WL.store (i := 0) (vs := [_, _, _, _, _, _]) rfl rfl rfl sz39 rfl H rfl rfl fun w1 H L => (WL.nil (WQ.tn (WC.cut (γ := Unit) (fun _ => [(0, str l), (2, .pointer (some ⟨b1, 0, none⟩)), (6, .pointer (some ⟨b2, 0, none⟩))]) (fun _ w1 => St w No w1 [.blk b2 [str [], str [], .int .i64 (decP ((l.drop 9).take 3) 3).1, str (l.drop 13), .int .i64 0, .slice none 0 0] 39 (0, 0), .blk b1 (hdL Hd.zero none 0 0) 39 (0, 0)]) ?_ ?_))))))))))
  · refine WC.seq (WC.reg (WL.v (Ev.move rfl) rfl (WL.v (Ev.lens Tryd.underlying9 rfl) rfl (WL.v (Ev.gtrN (b := 12) rfl rfl) rfl (WL.nil (WQ.tn (WC.cond rfl (fun h2 => ?_) (fun h2 => ?_))))))))
    · try simp only [bsimp] at h2
      refine WC.reg (WL.v (Ev.move rfl) rfl (WL.v (Ev.subN' Tryd.underlying9 rfl rfl rfl (by first | omega | (simp; done) | (simp; omega)) (by first | omega | (simp; done) | (simp; omega))) rfl (WL.v (Ev.fieldAddr fa39_3 rfl) rfl (WL.store (i := 0) (vs := [_]) rfl rfl rfl sz9 rfl H rfl rfl fun w1 H L => (WL.nil ?_)))))
      replace H : St w No _ [.blk b2 [str [], str [], .int .i64 (decP ((l.drop 9).take 3) 3).1, str ((l.drop 13).take (l.length - 13)), .int .i64 0, .slice none 0 0] 39 (0, 0), .blk b1 (hdL Hd.zero none 0 0) 39 (0, 0)] := H
      rw [show (l.drop 13).take (l.length - 13) = l.drop 13 from List.take_of_length_le (by simp)] at H
      exact WQ.meet (()) (H) ⟨rfl, rfl, rfl, trivial⟩
    try simp only [bsimp] at h2
    refine WC.skip ?_
    have h130 : l.drop 13 = [] := List.drop_eq_nil_of_le (by omega)
    replace H : St w No w1 [.blk b2 [str [], str [], .int .i64 (decP ((l.drop 9).take 3) 3).1, str (l.drop 13), .int .i64 0, .slice none 0 0] 39 (0, 0), .blk b1 (hdL Hd.zero none 0 0) 39 (0, 0)] := by rw [h130]; exact H
    exact WQ.meet (()) (H) ⟨rfl, rfl, rfl, trivial⟩
  · rintro _ w1 H
    refine WC.seq (WC.seq (WC.reg (WL.v (Ev.fieldAddr fa39_3 rfl) rfl (WL.v (Ev.load fl9 rfl (H.cell 0 rfl rfl)) rfl (WL.v (Ev.lens Tryd.underlying9 rfl) rfl (WL.v (Ev.move rfl) rfl (WL.nil (WQ.tn (WC.block (WC.loop (γ := Nat) (fun j => [(0, str l), (2, .pointer (some ⟨b1, 0, none⟩)), (6, .pointer (some ⟨b2, 0, none⟩)), (57, .int .i64 ((l.drop 13).length : Nat)), (58, .int .i64 (j : Nat))]) (fun j w1 => j ≤ (l.drop 13).length ∧ ((l.drop 13).take j).all valc = true ∧ St w No w1 [.blk b2 [str [], str [], .int .i64 (decP ((l.drop 9).take 3) 3).1, str (l.drop 13), .int .i64 0, .slice none 0 0] 39 (0, 0), .blk b1 (hdL Hd.zero none 0 0) 39 (0, 0)]) (fun j => (l.drop 13).length - j) 0 (⟨Nat.zero_le _, rfl, H⟩) ⟨rfl, rfl, rfl, rfl, rfl, trivial⟩ ?_))))))))))
    rintro j w1 ⟨hj, ha, H⟩
    refine WC.seq (WC.reg (WL.v (Ev.lssN rfl rfl) rfl (WL.nil (WQ.tn (WC.seq (WC.cond rfl (fun h4 => ?_) (fun h4 => ?_)))))))
    · try simp only [bsimp] at h4
      refine WC.skip (WQ.tn (WC.seq (WC.block (WC.seq (WC.reg (WL.v (Ev.move rfl) rfl (WL.v (Ev.assign rfl) rfl (WL.nil (WQ.tn (WC.seq (WC.reg (WL.v (Ev.fieldAddr fa39_3 rfl) rfl (WL.v (Ev.load fl9 rfl (H.cell 0 rfl rfl)) rfl (WL.v (Ev.move rfl) rfl (WL.v (Ev.ch Tryd.underlying9 rfl rfl (by omega)) rfl (WL.v (Ev.assign rfl) rfl (WL.nil (WQ.tn (WC.seq (WC.reg (WL.v (Ev.move rfl) rfl (WL.v (Ev.nei rfl rfl) rfl (WL.v (Ev.move rfl) rfl (WL.g (Met.yes rfl rfl) (fun hg => Ev.move rfl) rfl (WL.g (Met.yes rfl rfl) (fun hg => Ev.lss ((evG.un rfl).ev hg) rfl) rfl (WL.g (Met.yes rfl rfl) (fun hg => Ev.move ((evG.un rfl).ev hg)) rfl (WL.g (Met.gno rfl rfl) (fun hg => Ev.move rfl) rfl (WL.g (Met.gno rfl rfl) (fun hg => Ev.eqi ((evG.un rfl).ev hg) rfl) rfl (WL.g (Met.yes rfl rfl) (fun hg => Ev.or ((evG.un rfl).ev hg) rfl ((evG.nest rfl).ev hg)) rfl (WL.v (Ev.and rfl rfl rfl) rfl (WL.nil ?_)))))))))))))))))))))))))))))))
      refine WQ.tn (WC.cond rfl (fun h5 => ?_) (fun h5 => ?_))
      · have hv : valc (l.drop 13)[j] = false := by rw [valc_byte h4, h5]; rfl
        refine WC.seq (WC.reg (WL.v (Ev.build (vs := [_, _, _, _, _, _]) (ps := []) pl39 z39 rfl rfl) rfl (WL.store (i := 1) (vs := [_, _, _, _, _, _]) rfl rfl rfl sz39 rfl H rfl rfl fun w1 H L => (WL.v (Ev.assign rfl) rfl (WL.nil (WQ.tn (WC.ret (WQ.blk_ret (WQ.tn_ret (WQ.loop_ret (WQ.blk_ret (WQ.tn_ret (WQ.retC2 (vs := [_, _, _, _, _, _]) rfl rfl rfl ag39 sz39 (H.cells 1 rfl rfl) (⟨?_, H.done⟩))))))))))))))
        rw [stat_num (by omega) h02 (by rcases h03 with h | h; exact .inl (by omega); exact .inr h) h11 h12 h13, if_neg (by rw [all_no h4 hv]; simp)]
        rfl
      have hv : valc (l.drop 13)[j] = true := by rw [valc_byte h4, h5]; rfl
      refine WC.skip (WQ.blk (WQ.tn (WC.reg (WL.v (Ev.addN (b := 1) rfl rfl (by omega)) rfl (WL.v (Ev.move rfl) rfl (WL.nil ?_))))))
      exact WQ.again (j + 1) (⟨by omega, all_take_succ h4 ha hv, H⟩) ⟨rfl, rfl, rfl, rfl, rfl, trivial⟩ (by first | omega | (dsimp only; omega))
    try simp only [bsimp] at h4
    refine WC.exit (WQ.tn_exit (WQ.loop_exit (WQ.blk_here rfl (WQ.tn (WC.seq (WC.reg (WL.v (Ev.move rfl) rfl (WL.v (Ev.subN' Tryd.underlying9 rfl rfl rfl (by first | omega | (simp; done) | (simp; omega)) (by first | omega | (simp; done) | (simp; omega))) rfl (WL.callS (vs := [_]) rfl cl42 rfl H (hd_version _ (hs.mono (by first | (simp; done) | (simp; omega))) _) fun w1 H L => (WL.v (Ev.move rfl) rfl (WL.v (Ev.extract rfl rfl) rfl (WL.v (Ev.extract rfl rfl) rfl (WL.v (Ev.assign rfl) rfl (WL.v (Ev.assign rfl) rfl (WL.nil (WQ.tn (WC.seq (WC.reg (WL.v (Ev.move rfl) rfl (WL.v (Ev.fieldAddr fa39_4 rfl) rfl (WL.store (i := 0) (vs := [_]) rfl rfl rfl sz3 rfl H rfl rfl fun w1 H L => (WL.nil ?_))))))))))))))))))))))
    refine WQ.tn (WC.seq (WC.reg (WL.v (Ev.loadA (vs := [_, _, _, _, _, _]) ag39 sz39 rfl (H.cells 0 rfl rfl)) rfl (WL.v (Ev.move rfl) rfl (WL.store (i := 1) (vs := [_, _, _, _, _, _]) rfl rfl rfl sz39 rfl H rfl rfl fun w1 H L => (WL.v (Ev.assign rfl) rfl (WL.nil (WQ.tn (WC.ret (WQ.retC2 (vs := [_, _, _, _, _, _]) rfl rfl rfl ag39 sz39 (H.cells 1 rfl rfl) (⟨?_, H.done⟩)))))))))))
    obtain rfl : j = (l.drop 13).length := by omega
    rw [List.take_length] at ha
    rw [stat_num (by omega) h02 (by rcases h03 with h | h; exact .inl (by omega); exact .inr h) h11 h12 h13, if_pos ha]
    rfl
theorem cutP_len (sep : UInt8) (s : Bs) : (cutP sep s).1.length ≤ s.length ∧ (cutP sep s).2.1.length ≤ s.length := by
  unfold cutP
  split
  · refine ⟨(List.takeWhile_sublist _).length_le, ?_⟩
    rw [List.length_drop]
    have := (List.dropWhile_sublist (l := s) (fun c => decide (c ≠ sep))).length_le
    omega
  · exact ⟨Nat.le_refl _, Nat.zero_le _⟩
theorem hd_Field (l : Bs) (hs : Sml l.length) (w : World) :
    Calls Tryd.prog 40 #[str l] w fun e w' => e = .returned (.tuple #[.agg #[str (fldP l).1.1, str (fldP l).1.2], .int .i64 (fldP l).2]) ∧ St w No w' [] := by
  have hs9 := hs.le
  obtain ⟨hc1, hc2⟩ := cutP_len 58 l
  have ht := trim_length (cutP 58 l).2.1
  refine calls_of Tryd.func40 rfl Tryd.ntmps40 (by rfl) (K0 := [(0, _)]) ⟨rfl, trivial⟩ ?_
  have H := St.init w
  refine WC.seq (WC.reg (WL.alloc z79 rfl H rfl fun b1 w1 hb1 H L => (WL.v (Ev.assign rfl) rfl (WL.nil (WQ.tn (WC.seq (WC.reg (WL.v (Ev.move rfl) rfl (WL.callS (vs := [_, _]) rfl cl54 rfl H (lb_Cut l 58 hs _) fun w1 H L => (WL.v (Ev.move rfl) rfl (WL.v (Ev.extract rfl rfl) rfl (WL.v (Ev.extract rfl rfl) rfl (WL.v (Ev.extract rfl rfl) rfl (WL.v (Ev.assign rfl) rfl (WL.v (Ev.assign rfl) rfl (WL.v (Ev.assign rfl) rfl (WL.nil (WQ.tn (WC.seq (WC.reg (WL.v (Ev.move rfl) rfl (WL.callS (vs := [_]) rfl cl47 rfl H (lx_Trim _ (hs.mono (by omega)) _) fun w1 H L => (WL.v (Ev.assign rfl) rfl (WL.nil ?_))))))))))))))))))))))))
  refine WQ.tn (WC.seq (WC.seq (WC.reg (WL.v (Ev.move rfl) rfl (WL.v (Ev.not rfl) rfl (WL.v (Ev.move rfl) rfl (WL.g (Met.no rfl rfl) (fun hg => Ev.move rfl) rfl (WL.gcallS (vs := [_]) (Met.no rfl rfl) (fun hg => (evs_cons ((evG.un rfl).ev hg) rfl)) cl55 rfl H (fun hg => lx_Token _ (hs.mono (by omega)) _) fun w1 H L => (WL.g (Met.no rfl rfl) (fun hg => Ev.not ((evG.un rfl).ev hg)) rfl (WL.v (Ev.or rfl rfl rfl) rfl (WL.v (Ev.move rfl) rfl (WL.g (Met.no rfl rfl) (fun hg => Ev.move rfl) rfl (WL.gcallS (vs := [_]) (Met.no rfl rfl) (fun hg => (evs_cons ((evG.un rfl).ev hg) rfl)) cl56 rfl H (fun hg => lx_Value _ (hs.mono (by omega)) _) fun w1 H L => (WL.g (Met.no rfl rfl) (fun hg => Ev.not ((evG.un rfl).ev hg)) rfl (WL.v (Ev.or rfl rfl rfl) rfl (WL.nil ?_))))))))))))))))
  refine WQ.tn (WC.cond rfl (fun h0 => ?_) (fun h0 => ?_))
  · try simp only [bsimp] at h0
    refine WC.seq (WC.reg (WL.v (Ev.build (vs := [_, _]) (ps := []) pl79 z79 rfl rfl) rfl (WL.store (i := 0) (vs := [_, _]) rfl rfl rfl sz79 rfl H rfl rfl fun w1 H L => (WL.v (Ev.assign rfl) rfl (WL.nil (WQ.tn (WC.ret (WQ.tn_ret (WQ.retC2 (vs := [_, _]) rfl rfl rfl ag79 sz79 (H.cells 0 rfl rfl) (⟨?_, H.done⟩))))))))))
    unfold fldP
    rw [if_neg (by rintro ⟨g1, g2, g3⟩; rcases h0 with (h | h) | h; rw [g1] at h; cases h; rw [g2] at h; cases h; rw [g3] at h; cases h)]
  try simp only [bsimp] at h0
  refine WC.skip (WQ.tn (WC.seq (WC.reg (WL.v (Ev.move rfl) rfl (WL.v (Ev.move rfl) rfl (WL.v (Ev.build (vs := [_, _]) (ps := [(_, _), (_, _)]) pl79 z79 rfl rfl) rfl (WL.store (i := 0) (vs := [_, _]) rfl rfl rfl sz79 rfl H rfl rfl fun w1 H L => (WL.v (Ev.assign rfl) rfl (WL.nil (WQ.tn (WC.ret (WQ.retC2 (vs := [_, _]) rfl rfl rfl ag79 sz79 (H.cells 0 rfl rfl) (⟨?_, H.done⟩)))))))))))))
  unfold fldP
  rw [if_pos ⟨h0.1.1, h0.1.2, h0.2⟩]
  rfl
end Go.Proofs.YtodappgiadelaaaDoor
