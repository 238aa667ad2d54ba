/- The walks of functions: what each comes to. -/
import Derived.Test.YtodappgiadelaaaDoorXv
import Derived.Test.YtodappgiadelaaaDoorSet
import Derived.Test.YtodappgiadelaaaDoorProg
set_option linter.unusedVariables false
set_option linter.unusedSimpArgs false
namespace Go.Proofs.YtodappgiadelaaaDoor
open Go.RowKit Go.BK
theorem cl8 : callB Tryd.prog 8 = true := by kernel_rfl
theorem cl9 : callB Tryd.prog 9 = true := by kernel_rfl
theorem cl17 : callB Tryd.prog 17 = true := by kernel_rfl
theorem cl19 : callB Tryd.prog 19 = true := by kernel_rfl
theorem cl16 : callB Tryd.prog 16 = true := by kernel_rfl
theorem cl18 : callB Tryd.prog 18 = true := by kernel_rfl
theorem reus {r : Rdr} (h : reusable r = true) : r.ended = true ∧ r.kind ≠ 4 ∧ r.kind ≠ 5 ∧ r.keep = true ∧ r.buf = [] ∧ r.closed = false := by
  unfold reusable at h
  simp only [Bool.and_eq_true, decide_eq_true_eq, Bool.not_eq_true'] at h
  obtain ⟨⟨⟨⟨⟨a, b⟩, c⟩, d⟩, e⟩, f⟩ := h
  exact ⟨a, b, c, d, e, f⟩
theorem reus_feed {r : Rdr} (h : reusable r = true) (s : Bs) : feedR r s = { r with buf := s } := by
  obtain ⟨a, b, c, d, e, f⟩ := reus h
  unfold feedR
  rw [if_neg (by rw [f]; simp), e]; rfl
theorem reus_more {r : Rdr} (h : reusable r = true) (s : Bs) : reusable { r with buf := s } = decide (s = []) := by
  obtain ⟨a, b, c, d, e, f⟩ := reus h
  simp [reusable, a, b, c, d, f]
theorem reus_end (r : Rdr) : reusable (endR r) = false := by simp [reusable, endR]
set_option maxRecDepth 20000 in
set_option maxHeartbeats 2000000 in
theorem lw_Reuse (m data more : Bs) (hs1 : Sml data.length) (hs2 : Sml more.length) (w : World) :
    Calls Tryd.prog 7 #[str m, str data, str more] w fun e w' => e = .returned (.bool true) ∧ St w No w' [] := by
  have hs19 := hs1.le
  have hs29 := hs2.le
  refine calls_of Tryd.func7 rfl Tryd.ntmps7 (by rfl) (K0 := [(0, _), (1, _), (2, _)]) ⟨rfl, rfl, rfl, trivial⟩ ?_
  have H := St.init w
  refine WC.seq (WC.reg (WL.v (Ev.assign rfl) rfl (WL.nil (WQ.tn (WC.seq (WC.seq (WC.reg (WL.callS (vs := []) rfl cl8 rfl H (lw_anchor _) fun w1 H L => (WL.v (Ev.not rfl) rfl (WL.nil (WQ.tn (WC.cond rfl (fun h0 => ?_) (fun h0 => ?_)))))))))))))
  · exfalso; simp at h0
  clear h0
  refine WC.skip (WQ.tn (WC.seq (WC.seq (WC.reg (WL.v (Ev.move rfl) rfl (WL.v (Ev.lens Tryd.underlying9 rfl) rfl (WL.v (Ev.gtrN (b := 20000) rfl rfl) rfl (WL.nil (WQ.tn (WC.cond rfl (fun h1 => ?_) (fun h1 => ?_)))))))))))
  · clear h1
    refine WC.seq (WC.reg (WL.v (Ev.assign rfl) rfl (WL.nil (WQ.tn (WC.ret (WQ.tn_ret (WQ.ret1 rfl rfl ?_)))))))
    exact ⟨rfl, H.done⟩
  clear h1
  refine WC.skip (WQ.tn (WC.seq (WC.reg (WL.v (Ev.move rfl) rfl (WL.call (vs := [_]) rfl cl12 rfl (rd_New m _) ?_)))))
  rintro _ w1 ⟨R, rfl, H1⟩
  replace H := H.app H1
  refine ⟨_, rfl, ?_⟩
  refine WL.v (Ev.assign rfl) rfl (WL.nil (WQ.tn (WC.seq (WC.seq (WC.reg (WL.v (Ev.move rfl) rfl (WL.v (Ev.eqnil Tryd.underlying34 rfl rfl) rfl (WL.nil (WQ.tn (WC.cond rfl (fun h2 => ?_) (fun h2 => ?_)))))))))))
  · exfalso; simp at h2
  clear h2
  refine WC.skip (WQ.tn (WC.seq (WC.reg (WL.v (Ev.move rfl) rfl (WL.v (Ev.move rfl) rfl (WL.call (vs := [_, _]) rfl cl13 rfl (rd_Feed (Rdr.new m) data (by simp only [Rdr.new, List.length_nil]; omega) R none _ H.local1) ?_))))))
  rintro _ w1 ⟨rfl, H1⟩
  replace H := H.frame1 H1
  replace H : St w No _ (rdrS R (feedR (Rdr.new m) data) none) := H
  refine ⟨_, rfl, ?_⟩
  refine WL.nil (WQ.tn (WC.cut (γ := Rdr × Option (Nat × Option Addr × Nat)) (fun ⟨r, q⟩ => [(2, str more), (7, .pointer (some ⟨R, 0, none⟩))]) (fun ⟨r, q⟩ w1 => OkR r ∧ r.buf.length ≤ data.length ∧ r.dec.isSome = q.isSome ∧ St w No w1 (rdrS R r q)) ?_ ?_))
  · refine WC.seq (WC.reg (WL.v (Ev.assign rfl) rfl (WL.nil (WQ.tn (WC.block (WC.loop (γ := Nat × Rdr × Option (Nat × Option Addr × Nat)) (fun ⟨n, r, q⟩ => [(2, str more), (7, .pointer (some ⟨R, 0, none⟩)), (8, .int .i64 (n : Nat))]) (fun ⟨n, r, q⟩ w1 => n ≤ 30000 ∧ OkR r ∧ r.buf.length ≤ data.length ∧ r.dec.isSome = q.isSome ∧ St w No w1 (rdrS R r q)) (fun ⟨n, r, q⟩ => 30000 - n) (0, feedR (Rdr.new m) data, none) (⟨by omega, feedR_ok OkR.new (by simp only [Rdr.new, List.length_nil, Nat.zero_add]; exact hs1), by have := feedR_len (Rdr.new m) data; simpa [Rdr.new] using this, rfl, H⟩) ⟨rfl, rfl, rfl, trivial⟩ ?_))))))
    rintro ⟨n, r, q⟩ w1 ⟨hn, hok, hbl, hq, H⟩
    have hks := keeps_next hok
    have hkf := hks.fit
    refine WC.seq (WC.seq (WC.reg (WL.v (Ev.move rfl) rfl (WL.v (Ev.lssN (b := 30000) rfl rfl) rfl (WL.nil (WQ.tn (WC.cond rfl (fun h4 => ?_) (fun h4 => ?_))))))))
    · simp only [bsimp] at h4
      refine WC.skip (WQ.tn (WC.seq (WC.block (WC.seq (WC.reg (WL.v (Ev.move rfl) rfl (WL.call (vs := [_]) rfl cl14 rfl (rd_Next (r) hok R q hq _ H.local) ?_)))))))
      rintro _ w1 ⟨A1, c1, q1, rfl, hq1, H1⟩
      replace H := H.join H1
      refine ⟨_, rfl, ?_⟩
      refine WL.v (Ev.move rfl) rfl (WL.v (Ev.extract rfl rfl) rfl (WL.v (Ev.extract rfl rfl) rfl (WL.v (Ev.extract rfl rfl) rfl (WL.alloc z41 rfl H rfl fun bp w1 hbp H L => (WL.store (i := 0) (vs := [_, _, _, _, _, _, _, _]) rfl rfl rfl sz41 rfl H rfl rfl fun w1 H L => (WL.v (Ev.assign rfl) rfl (WL.v (Ev.assign rfl) rfl (WL.nil (WQ.tn (WC.seq (WC.reg (WL.v (Ev.move rfl) rfl (WL.v (Ev.not rfl) rfl (WL.nil (WQ.tn (WC.cond rfl (fun h5 => ?_) (fun h5 => ?_)))))))))))))))))
      · clear h5
        refine WC.exit (WQ.blk_on rfl (WQ.tn_exit (WQ.loop_exit (WQ.blk_here rfl ?_))))
        exact WQ.meet (((nextR r).1, q1)) (⟨hks.ok, by omega, hq1, H.tail.tail⟩) ⟨rfl, rfl, trivial⟩
      clear h5
      refine WC.skip (WQ.blk (WQ.tn (WC.reg (WL.v (Ev.move rfl) rfl (WL.v (Ev.addN (b := 1) rfl rfl (by omega)) rfl (WL.v (Ev.assign rfl) rfl (WL.nil ?_)))))))
      exact WQ.again ((n + 1, (nextR r).1, q1)) (⟨by omega, hks.ok, by omega, hq1, H.tail.tail⟩) ⟨rfl, rfl, rfl, trivial⟩ (by dsimp only; omega)
    clear h4
    refine WC.exit (WQ.tn_exit (WQ.loop_exit (WQ.blk_here rfl ?_)))
    exact WQ.meet ((r, q)) (⟨hok, hbl, hq, H⟩) ⟨rfl, rfl, trivial⟩
  · rintro ⟨r, q⟩ w1 ⟨hok, hbl, hq, H⟩
    refine WC.seq (WC.seq (WC.reg (WL.v (Ev.move rfl) rfl (WL.callS (vs := [_]) rfl cl17 rfl H (rd_Reusable r R (decPt q) _ (fun o v h => H.cell 0 rfl h)) fun w1 H L => (WL.v (Ev.not rfl) rfl (WL.nil (WQ.tn (WC.cond rfl (fun h6 => ?_) (fun h6 => ?_)))))))))
    · clear h6
      refine WC.seq (WC.reg (WL.v (Ev.assign rfl) rfl (WL.nil (WQ.tn (WC.ret (WQ.tn_ret (WQ.ret1 rfl rfl ?_)))))))
      exact ⟨rfl, H.done⟩
    have h6 : reusable r = true := by simpa using h6
    obtain ⟨ha, hb, hc, hd, he, hf⟩ := reus h6
    refine WC.skip (WQ.tn (WC.seq (WC.seq (WC.reg (WL.v (Ev.move rfl) rfl (WL.callS (vs := [_]) rfl cl15 rfl H (rd_Ended r R (decPt q) _ (fun o v h => H.cell 0 rfl h)) fun w1 H L => (WL.v (Ev.not rfl) rfl (WL.v (Ev.move rfl) rfl (WL.g (Met.no rfl rfl) (fun hg => Ev.move rfl) rfl (WL.gcallS (vs := [_]) (Met.no rfl rfl) (fun hg => (evs_cons ((evG.un rfl).ev hg) rfl)) cl19 rfl H (fun hg => rd_Tunnel r R (decPt q) _ (fun o v h => H.cell 0 rfl h)) fun w1 H L => (WL.v (Ev.or rfl rfl rfl) rfl (WL.v (Ev.move rfl) rfl (WL.g (Met.no rfl rfl) (fun hg => Ev.move rfl) rfl (WL.gcallS (vs := [_]) (Met.no rfl rfl) (fun hg => (evs_cons ((evG.un rfl).ev hg) rfl)) cl16 rfl H (fun hg => rd_Len r R (decPt q) _ (fun o v h => H.cell 0 rfl h)) fun w1 H L => (WL.g (Met.no rfl rfl) (fun hg => Ev.neN (b := 0) ((evG.un rfl).ev hg) rfl) rfl (WL.v (Ev.or rfl rfl rfl) rfl (WL.nil ?_)))))))))))))))))
    refine WQ.tn (WC.cond rfl (fun h7 => ?_) (fun h7 => ?_))
    · exfalso
      simp [ha, hc, he] at h7
    clear h7
    refine WC.skip (WQ.tn (WC.seq (WC.reg (WL.v (Ev.move rfl) rfl (WL.v (Ev.move rfl) rfl (WL.call (vs := [_, _]) rfl cl13 rfl (rd_Feed r more (by rw [he]; simp only [List.length_nil]; omega) R (decPt q) _ H.local1) ?_))))))
    rintro _ w1 ⟨rfl, H1⟩
    rw [reus_feed h6] at H1
    replace H := H.frame1 H1
    replace H : St w No _ (rdrC R { r with buf := more } (decPt q) :: decH r.dec q) := H
    refine ⟨_, rfl, ?_⟩
    refine WL.nil (WQ.tn (WC.seq (WC.seq ?_)))
    have hr2 := reus_more h6 more
    have hg12 : (decide (reusable { r with buf := more } ≠ decide (more = [])) || decide (({ r with buf := more } : Rdr).buf.length ≠ more.length)) = false := by rw [hr2]; simp
    refine WC.reg (WL.v (Ev.move rfl) rfl (WL.callS (vs := [_]) rfl cl17 rfl H (rd_Reusable ({ r with buf := more }) R (decPt q) _ (fun o v h => H.cell 0 rfl h)) fun w1 H L => (WL.v (Ev.move rfl) rfl (WL.v (Ev.eqs rfl rfl) rfl (WL.v (Ev.neb Tryd.underlying4 rfl rfl) rfl (WL.v (Ev.move rfl) rfl (WL.g (Met.no rfl rfl) (fun hg => Ev.move rfl) rfl (WL.gcallS (vs := [_]) (Met.no rfl rfl) (fun hg => (evs_cons ((evG.un rfl).ev hg) rfl)) cl16 rfl H (fun hg => rd_Len ({ r with buf := more }) R (decPt q) _ (fun o v h => H.cell 0 rfl h)) fun w1 H L => (WL.g (Met.no rfl rfl) (fun hg => Ev.move rfl) rfl (WL.g (Met.no rfl rfl) (fun hg => Ev.lens Tryd.underlying9 ((evG.un rfl).ev hg)) rfl (WL.g (Met.no rfl rfl) (fun hg => Ev.neN ((evG.un rfl).ev hg) ((evG.un rfl).ev hg)) rfl (WL.v (Ev.or rfl rfl rfl) rfl (WL.v (Ev.move rfl) rfl ?_)))))))))))))
    refine WL.settle (Met.off hg12) (WL.v (Ev.move rfl) rfl (WL.settle (Met.off hg12) (WL.call (vs := [_]) rfl cl18 rfl (rd_Rest ({ r with buf := more }) R (decPt q) _ H.local1) ?_)))
    rintro _ w1 ⟨rfl, H1⟩
    replace H := H.frame1 H1
    refine ⟨_, rfl, ?_⟩
    refine WL.g (Met.no rfl rfl) (fun hg => Ev.move rfl) rfl (WL.g (Met.no rfl rfl) (fun hg => Ev.nes rfl ((evG.un rfl).ev hg)) rfl (WL.v (Ev.or rfl rfl rfl) rfl (WL.v (Ev.move rfl) rfl (WL.g (Met.no rfl rfl) (fun hg => Ev.move rfl) rfl (WL.gcallS (vs := [_]) (Met.no rfl rfl) (fun hg => (evs_cons ((evG.un rfl).ev hg) rfl)) cl16 rfl H (fun hg => rd_Len ({ r with buf := [] }) R (decPt q) _ (fun o v h => H.cell 0 rfl h)) fun w1 H L => (WL.g (Met.no rfl rfl) (fun hg => Ev.neN (b := 0) ((evG.un rfl).ev hg) rfl) rfl (WL.v (Ev.or rfl rfl rfl) rfl (WL.nil (WQ.tn (WC.cond rfl (fun h8 => ?_) (fun h8 => ?_)))))))))))
    · exfalso
      rw [hr2] at h8
      simp at h8
    clear h8
    refine WC.skip (WQ.tn (WC.seq (WC.reg (WL.v (Ev.move rfl) rfl (WL.call (vs := [_]) rfl cl20 rfl (rd_End ({ r with buf := [] }) R (decPt q) _ H.local1) ?_)))))
    rintro _ w1 ⟨rfl, H1⟩
    replace H := H.frame1 H1
    refine ⟨_, rfl, ?_⟩
    refine WL.nil (WQ.tn (WC.seq (WC.reg (WL.v (Ev.move rfl) rfl (WL.callS (vs := [_]) rfl cl17 rfl H (rd_Reusable (endR ({ r with buf := [] })) R (decPt q) _ (fun o v h => H.cell 0 rfl h)) fun w1 H L => (WL.v (Ev.not rfl) rfl (WL.v (Ev.assign rfl) rfl (WL.nil (WQ.tn (WC.ret (WQ.ret1 rfl rfl (⟨?_, H.done⟩))))))))))))
    rw [reus_end]
    rfl
end Go.Proofs.YtodappgiadelaaaDoor
