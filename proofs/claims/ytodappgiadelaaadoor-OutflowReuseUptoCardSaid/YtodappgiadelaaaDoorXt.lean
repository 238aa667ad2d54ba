/- The walks of functions: what each comes to. -/
import Derived.Test.YtodappgiadelaaaDoorXs
import Derived.Test.YtodappgiadelaaaDoorProg
set_option linter.unusedVariables false
set_option linter.unusedSimpArgs false
namespace Go.Proofs.YtodappgiadelaaaDoor
open Go.RowKit Go.BK
theorem cl21 : callB Tryd.prog 21 = true := by kernel_rfl
theorem cl25 : callB Tryd.prog 25 = true := by kernel_rfl
theorem cl27 : callB Tryd.prog 27 = true := by kernel_rfl
theorem cl28 : callB Tryd.prog 28 = true := by kernel_rfl
theorem pl54 : plOf Tryd.prog 54 = some [(0, 1), (1, 1), (2, 1), (3, 1), (4, 1), (5, 1), (6, 2), (8, 1), (9, 1), (10, 1), (11, 1), (12, 1)] := by kernel_rfl
theorem z54 : zOk Tryd.prog 54 (.agg #[str [], str [], .bool false, .nilFunc, .bool false, .bool false, .int .i64 0, .int .i64 0, .int .i64 0, .pointer none, .bool false, .bool false, .int .i64 0]) := by unfold zOk; kernel_rfl
theorem fa54_11 : fldB Tryd.prog 54 11 12 = true := by kernel_rfl
theorem fl49 : flatB Tryd.prog 49 = true := by kernel_rfl
theorem rd_cl (p : Ph) : callB Tryd.prog (phF p) = true := by
  cases p
  · exact cl21
  · exact cl25
  · exact cl27
  · exact cl28
  · exact cl29
theorem rd_step (r : Rdr) (hr : OkR r) (R : Nat) (q : Option (Nat × Option Addr × Nat)) (hq : r.dec.isSome = q.isSome) (w : World) (H : St w (Bk (rdrS R r q)) w (rdrS R r q)) :
    Calls Tryd.prog (phF r.ph) #[.pointer (some ⟨R, 0, none⟩)] w fun e w' => ∃ A c q', e = .returned (roV (stepR r).2 A c) ∧ (stepR r).1.dec.isSome = q'.isSome ∧ St w (Bk (rdrS R r q)) w' (rdRow A c (stepR r).2.1.fs :: rdrS R (stepR r).1 q') := by
  unfold stepR
  rcases hph : r.ph with _ | _ | _ | _ | _
  · have hd := hr.start hph
    rw [hd] at hq
    cases q with
    | some x => cases hq
    | none => exact rd_start r hr.buf hd R w H
  · refine (rd_sized r hr R (decPt q) w H.local1).mono ?_
    rintro e w' ⟨rfl, H1⟩
    have H2 := (H.frame1 H1).nilrow 79 2
    obtain ⟨h1, h2⟩ := sizedP_dec r
    refine ⟨none, 0, q, rfl, by dsimp only; rw [h1]; exact hq, ?_⟩
    dsimp only [rdrS]
    rw [h1, h2]
    exact H2
  · have hc := hr.chunk hph
    obtain ⟨d, hd⟩ := Option.isSome_iff_exists.1 hc
    rw [hc] at hq
    cases q with
    | none => cases hq
    | some x =>
      obtain ⟨D, A, c⟩ := x
      have hg : r.dec.getD (Dec.new 0) = d := by rw [hd]; rfl
      have H' : St w (Bk (rdrC R r (atB D) :: decS D d A c)) w (rdrC R r (atB D) :: decS D d A c) := by
        have h := H
        simp only [rdrS, decH, hg] at h
        exact h
      refine (rd_chunked r d hr hd R D c A w H').mono ?_
      rintro e w' ⟨d', A', c', rfl, h1, H1⟩
      dsimp only
      rw [hg]
      refine ⟨none, 0, some (D, A', c'), rfl, by rw [h1]; rfl, ?_⟩
      rw [chunkP_fs]
      have H2 := H1.nilrow 79 2
      simp only [rdrS, decH, hg]
      rw [h1]
      exact H2
  · refine (rd_rest r hr R (decPt q) w H.local1).mono ?_
    rintro e w' ⟨rfl, H1⟩
    have H2 := (H.frame1 H1).nilrow 79 2
    obtain ⟨h1, h2⟩ := restP_dec r
    refine ⟨none, 0, q, rfl, by dsimp only; rw [h1]; exact hq, ?_⟩
    dsimp only [rdrS]
    rw [h1, h2]
    exact H2
  · refine (rd_finish r R (decPt q) w H.local1).mono ?_
    rintro e w' ⟨rfl, H1⟩
    exact ⟨none, 0, q, rfl, hq, (H.frame1 H1).nilrow 79 2⟩
theorem rd_New (m : Bs) (w : World) :
    Calls Tryd.prog 12 #[str m] w fun e w' => ∃ R, e = .returned (.pointer (some ⟨R, 0, none⟩)) ∧ St w No w' [rdrC R (Rdr.new m) none] := by
  refine calls_of Tryd.func12 rfl Tryd.ntmps12 (by rfl) (K0 := [(0, _)]) ⟨rfl, trivial⟩ ?_
  have H := St.init w
  refine WC.seq (WC.reg (WL.v (Ev.assign rfl) rfl (WL.nil (WQ.tn (WC.seq (WC.reg (WL.v (Ev.move rfl) rfl (WL.v (Ev.build (vs := [_, _, _, _, _, _, _, _, _, _, _, _, _]) (ps := [(_, _), (_, _)]) pl54 z54 rfl rfl) rfl (WL.box (t := 54) (cs := [_, _, _, _, _, _, _, _, _, _, _, _, _]) rfl rfl H rfl fun b1 w1 hb1 H L => (WL.v (Ev.assign rfl) rfl (WL.nil (WQ.tn (WC.ret (WQ.ret1 rfl rfl ?_))))))))))))))
  exact ⟨_, rfl, H⟩
theorem rd_Feed (r : Rdr) (s : Bs) (hs : r.buf.length + s.length ≤ 1099511627776) (R : Nat) (p : Option Addr) (w : World) (H : St w (Bk [rdrC R r p]) w [rdrC R r p]) :
    Calls Tryd.prog 13 #[.pointer (some ⟨R, 0, none⟩), str s] w fun e w' => e = .returned (.tuple #[]) ∧ St w (Bk [rdrC R r p]) w' [rdrC R (feedR r s) p] := by
  refine calls_of Tryd.func13 rfl Tryd.ntmps13 (by rfl) (K0 := [(0, _), (1, _)]) ⟨rfl, rfl, trivial⟩ (WC.seq (WC.reg (WL.v (Ev.move rfl) rfl (WL.v (Ev.nilCheck rfl) rfl (WL.v (Ev.fieldAddr fa54_2 rfl) rfl (WL.v (Ev.load fl4 rfl (H.cell 0 rfl rfl)) rfl (WL.v (Ev.not rfl) rfl (WL.nil (WQ.tn (WC.cond rfl (fun h0 => ?_) (fun h0 => ?_)))))))))))
  · have h0 : ¬ r.closed = true := by simpa using h0
    refine WC.reg (WL.v (Ev.move rfl) rfl (WL.v (Ev.nilCheck rfl) rfl (WL.v (Ev.fieldAddr fa54_1 rfl) rfl (WL.v (Ev.load fl9 rfl (H.cell 0 rfl rfl)) rfl (WL.v (Ev.move rfl) rfl (WL.v (Ev.cat rfl rfl (by unfold I64; simp; omega)) rfl (WL.v (Ev.nilCheck rfl) rfl (WL.v (Ev.fieldAddr fa54_1 rfl) rfl (WL.store (i := 0) (vs := [_]) rfl rfl rfl sz9 rfl H rfl rfl fun w1 H L => (WL.nil (WQ.end0 rfl ?_)))))))))))
    unfold feedR; rw [if_neg h0]; exact ⟨rfl, H⟩
  have h0 : r.closed = true := by simpa using h0
  refine WC.skip (WQ.end0 rfl ?_)
  unfold feedR; rw [if_pos h0]; exact ⟨rfl, H⟩
theorem rd_End (r : Rdr) (R : Nat) (p : Option Addr) (w : World) (H : St w (Bk [rdrC R r p]) w [rdrC R r p]) :
    Calls Tryd.prog 20 #[.pointer (some ⟨R, 0, none⟩)] w fun e w' => e = .returned (.tuple #[]) ∧ St w (Bk [rdrC R r p]) w' [rdrC R (endR r) p] := by
  refine calls_of Tryd.func20 rfl Tryd.ntmps20 (by rfl) (K0 := [(0, _)]) ⟨rfl, trivial⟩ (WC.reg (WL.v (Ev.move rfl) rfl (WL.v (Ev.nilCheck rfl) rfl (WL.v (Ev.fieldAddr fa54_2 rfl) rfl (WL.store (i := 0) (vs := [_]) rfl rfl rfl sz4 rfl H rfl rfl fun w1 H L => (WL.nil (WQ.end0 rfl ?_)))))))
  exact ⟨rfl, H⟩
theorem rd_Rest (r : Rdr) (R : Nat) (p : Option Addr) (w : World) (H : St w (Bk [rdrC R r p]) w [rdrC R r p]) :
    Calls Tryd.prog 18 #[.pointer (some ⟨R, 0, none⟩)] w fun e w' => e = .returned (str r.buf) ∧ St w (Bk [rdrC R r p]) w' [rdrC R { r with buf := [] } p] := by
  refine calls_of Tryd.func18 rfl Tryd.ntmps18 (by rfl) (K0 := [(0, _)]) ⟨rfl, trivial⟩ (WC.seq (WC.reg (WL.v (Ev.assign rfl) rfl (WL.nil (WQ.tn (WC.seq (WC.reg (WL.v (Ev.move rfl) rfl (WL.v (Ev.nilCheck rfl) rfl (WL.v (Ev.fieldAddr fa54_1 rfl) rfl (WL.v (Ev.load fl9 rfl (H.cell 0 rfl rfl)) rfl (WL.v (Ev.assign rfl) rfl (WL.nil (WQ.tn (WC.seq (WC.reg (WL.v (Ev.move rfl) rfl (WL.v (Ev.nilCheck rfl) rfl (WL.v (Ev.fieldAddr fa54_1 rfl) rfl (WL.store (i := 0) (vs := [_]) rfl rfl rfl sz9 rfl H rfl rfl fun w1 H L => (WL.nil (WQ.tn (WC.seq (WC.reg (WL.v (Ev.move rfl) rfl (WL.v (Ev.assign rfl) rfl (WL.nil ?_)))))))))))))))))))))))))))
  refine WQ.tn (WC.ret (WQ.ret1 rfl rfl ?_))
  exact ⟨rfl, H⟩
theorem rd_Ended (r : Rdr) (R : Nat) (p : Option Addr) (w : World) (hR : ∀ o v, (rdrL r p)[o]? = some v → w.cell? ⟨R, o, none⟩ = some v) :
    Calls Tryd.prog 15 #[.pointer (some ⟨R, 0, none⟩)] w fun e w' => e = .returned (.bool r.ended) ∧ St w No w' [] := by
  refine calls_of Tryd.func15 rfl Tryd.ntmps15 (by rfl) (K0 := [(0, _)]) ⟨rfl, trivial⟩ ?_
  have H := St.init w
  refine WC.seq (WC.reg (WL.v (Ev.assign rfl) rfl (WL.nil (WQ.tn (WC.seq (WC.reg (WL.v (Ev.move rfl) rfl (WL.v (Ev.nilCheck rfl) rfl (WL.v (Ev.fieldAddr fa54_10 rfl) rfl (WL.v (Ev.load fl4 rfl (H.old (hR _ _ rfl))) rfl (WL.v (Ev.assign rfl) rfl (WL.nil (WQ.tn (WC.ret (WQ.ret1 rfl rfl ?_)))))))))))))))
  exact ⟨rfl, H⟩
theorem rd_Len (r : Rdr) (R : Nat) (p : Option Addr) (w : World) (hR : ∀ o v, (rdrL r p)[o]? = some v → w.cell? ⟨R, o, none⟩ = some v) :
    Calls Tryd.prog 16 #[.pointer (some ⟨R, 0, none⟩)] w fun e w' => e = .returned (.int .i64 (r.buf.length : Nat)) ∧ St w No w' [] := by
  refine calls_of Tryd.func16 rfl Tryd.ntmps16 (by rfl) (K0 := [(0, _)]) ⟨rfl, trivial⟩ ?_
  have H := St.init w
  refine WC.seq (WC.reg (WL.v (Ev.assign rfl) rfl (WL.nil (WQ.tn (WC.seq (WC.reg (WL.v (Ev.move rfl) rfl (WL.v (Ev.nilCheck rfl) rfl (WL.v (Ev.fieldAddr fa54_1 rfl) rfl (WL.v (Ev.load fl9 rfl (H.old (hR _ _ rfl))) rfl (WL.v (Ev.lens Tryd.underlying9 rfl) rfl (WL.v (Ev.assign rfl) rfl (WL.nil (WQ.tn (WC.ret (WQ.ret1 rfl rfl ?_))))))))))))))))
  exact ⟨rfl, H⟩
theorem rd_Tunnel (r : Rdr) (R : Nat) (p : Option Addr) (w : World) (hR : ∀ o v, (rdrL r p)[o]? = some v → w.cell? ⟨R, o, none⟩ = some v) :
    Calls Tryd.prog 19 #[.pointer (some ⟨R, 0, none⟩)] w fun e w' => e = .returned (.bool (r.head && decide (r.kind = 5))) ∧ St w No w' [] := by
  refine calls_of Tryd.func19 rfl Tryd.ntmps19 (by rfl) (K0 := [(0, _)]) ⟨rfl, trivial⟩ ?_
  have H := St.init w
  refine WC.seq (WC.reg (WL.v (Ev.assign rfl) rfl (WL.nil (WQ.tn (WC.seq (WC.reg (WL.v (Ev.move rfl) rfl (WL.v (Ev.nilCheck rfl) rfl (WL.v (Ev.fieldAddr fa54_4 rfl) rfl (WL.v (Ev.load fl4 rfl (H.old (hR _ _ rfl))) rfl (WL.v (Ev.move rfl) rfl (WL.g (Met.yes rfl rfl) (fun hg => Ev.move rfl) rfl (WL.g (Met.yes rfl rfl) (fun hg => Ev.nilCheck ((evG.un rfl).ev hg)) rfl (WL.g (Met.yes rfl rfl) (fun hg => Ev.fieldAddr fa54_6 ((evG.un rfl).ev hg)) rfl (WL.g (Met.yes rfl rfl) (fun hg => Ev.fieldAddr fa51_0 ((evG.un rfl).ev hg)) rfl (WL.g (Met.yes rfl rfl) (fun hg => Ev.load fl3 ((evG.un rfl).ev hg) (H.old (hR _ _ rfl))) rfl (WL.g (Met.yes rfl rfl) (fun hg => Ev.eqi ((evG.un rfl).ev hg) rfl) rfl (WL.v (Ev.and rfl rfl rfl) rfl (WL.v (Ev.assign rfl) rfl (WL.nil ?_))))))))))))))))))))
  refine WQ.tn (WC.ret (WQ.ret1 rfl rfl ?_))
  exact ⟨rfl, H⟩
set_option maxRecDepth 20000 in
theorem rd_Reusable (r : Rdr) (R : Nat) (p : Option Addr) (w : World) (hR : ∀ o v, (rdrL r p)[o]? = some v → w.cell? ⟨R, o, none⟩ = some v) :
    Calls Tryd.prog 17 #[.pointer (some ⟨R, 0, none⟩)] w fun e w' => e = .returned (.bool (reusable r)) ∧ St w No w' [] := by
  refine calls_of Tryd.func17 rfl Tryd.ntmps17 (by rfl) (K0 := [(0, _)]) ⟨rfl, trivial⟩ ?_
  have H := St.init w
  refine WC.seq (WC.reg (WL.v (Ev.assign rfl) rfl (WL.nil (WQ.tn (WC.seq (WC.reg (WL.v (Ev.move rfl) rfl (WL.v (Ev.nilCheck rfl) rfl (WL.v (Ev.fieldAddr fa54_10 rfl) rfl (WL.v (Ev.load fl4 rfl (H.old (hR _ _ rfl))) rfl (WL.v (Ev.move rfl) rfl (WL.g (Met.yes rfl rfl) (fun hg => Ev.move rfl) rfl (WL.g (Met.yes rfl rfl) (fun hg => Ev.nilCheck ((evG.un rfl).ev hg)) rfl (WL.g (Met.yes rfl rfl) (fun hg => Ev.fieldAddr fa54_6 ((evG.un rfl).ev hg)) rfl (WL.g (Met.yes rfl rfl) (fun hg => Ev.fieldAddr fa51_0 ((evG.un rfl).ev hg)) rfl (WL.g (Met.yes rfl rfl) (fun hg => Ev.load fl3 ((evG.un rfl).ev hg) (H.old (hR _ _ rfl))) rfl (WL.g (Met.yes rfl rfl) (fun hg => Ev.nei ((evG.un rfl).ev hg) rfl) rfl (WL.v (Ev.and rfl rfl rfl) rfl (WL.v (Ev.move rfl) rfl (WL.g (Met.yes rfl rfl) (fun hg => Ev.move rfl) rfl (WL.g (Met.yes rfl rfl) (fun hg => Ev.nilCheck ((evG.un rfl).ev hg)) rfl (WL.g (Met.yes rfl rfl) (fun hg => Ev.fieldAddr fa54_6 ((evG.un rfl).ev hg)) rfl (WL.g (Met.yes rfl rfl) (fun hg => Ev.fieldAddr fa51_0 ((evG.un rfl).ev hg)) rfl (WL.g (Met.yes rfl rfl) (fun hg => Ev.load fl3 ((evG.un rfl).ev hg) (H.old (hR _ _ rfl))) rfl (WL.g (Met.yes rfl rfl) (fun hg => Ev.nei ((evG.un rfl).ev hg) rfl) rfl (WL.v (Ev.and rfl rfl rfl) rfl (WL.v (Ev.move rfl) rfl (WL.g (Met.yes rfl rfl) (fun hg => Ev.move rfl) rfl (WL.g (Met.yes rfl rfl) (fun hg => Ev.nilCheck ((evG.un rfl).ev hg)) rfl (WL.g (Met.yes rfl rfl) (fun hg => Ev.fieldAddr fa54_5 ((evG.un rfl).ev hg)) rfl (WL.g (Met.yes rfl rfl) (fun hg => Ev.load fl4 ((evG.un rfl).ev hg) (H.old (hR _ _ rfl))) rfl (WL.v (Ev.and rfl rfl rfl) rfl (WL.v (Ev.move rfl) rfl (WL.g (Met.yes rfl rfl) (fun hg => Ev.move rfl) rfl (WL.g (Met.yes rfl rfl) (fun hg => Ev.nilCheck ((evG.un rfl).ev hg)) rfl (WL.g (Met.yes rfl rfl) (fun hg => Ev.fieldAddr fa54_1 ((evG.un rfl).ev hg)) rfl (WL.g (Met.yes rfl rfl) (fun hg => Ev.load fl9 ((evG.un rfl).ev hg) (H.old (hR _ _ rfl))) rfl (WL.g (Met.yes rfl rfl) (fun hg => Ev.eqs ((evG.un rfl).ev hg) rfl) rfl (WL.v (Ev.and rfl rfl rfl) rfl (WL.v (Ev.move rfl) rfl (WL.g (Met.yes rfl rfl) (fun hg => Ev.move rfl) rfl (WL.g (Met.yes rfl rfl) (fun hg => Ev.nilCheck ((evG.un rfl).ev hg)) rfl (WL.g (Met.yes rfl rfl) (fun hg => Ev.fieldAddr fa54_2 ((evG.un rfl).ev hg)) rfl (WL.g (Met.yes rfl rfl) (fun hg => Ev.load fl4 ((evG.un rfl).ev hg) (H.old (hR _ _ rfl))) rfl (WL.g (Met.yes rfl rfl) (fun hg => Ev.not ((evG.un rfl).ev hg)) rfl (WL.v (Ev.and rfl rfl rfl) rfl (WL.v (Ev.assign rfl) rfl (WL.nil ?_))))))))))))))))))))))))))))))))))))))))))))))))
  refine WQ.tn (WC.ret (WQ.ret1 rfl rfl ?_))
  exact ⟨rfl, H⟩
set_option maxRecDepth 20000 in
set_option maxHeartbeats 1000000 in
theorem rd_Next (r : Rdr) (hr : OkR r) (R : Nat) (q : Option (Nat × Option Addr × Nat)) (hq : r.dec.isSome = q.isSome) (w : World) (H : St w (Bk (rdrS R r q)) w (rdrS R r q)) :
    Calls Tryd.prog 14 #[.pointer (some ⟨R, 0, none⟩)] w fun e w' => ∃ A c q', e = .returned (roV (nextR r).2 A c) ∧ (nextR r).1.dec.isSome = q'.isSome ∧ St w (Bk (rdrS R r q)) w' (rdRow A c (nextR r).2.1.fs :: rdrS R (nextR r).1 q') := by
  have hcl : callB Tryd.prog (phF r.ph) = true := rd_cl r.ph
  refine calls_of Tryd.func14 rfl Tryd.ntmps14 (by rfl) (K0 := [(0, _)]) ⟨rfl, trivial⟩ (WC.seq (WC.reg (WL.alloc z41 rfl H rfl fun b1 w1 hb1 H L => (WL.v (Ev.assign rfl) rfl (WL.v (Ev.assign rfl) rfl (WL.nil (WQ.tn (WC.seq (WC.seq (WC.reg (WL.v (Ev.move rfl) rfl (WL.v (Ev.nilCheck rfl) rfl (WL.v (Ev.fieldAddr fa54_10 rfl) rfl (WL.v (Ev.load fl4 rfl (H.cell 1 rfl rfl)) rfl (WL.v (Ev.move rfl) rfl (WL.g (Met.no rfl rfl) (fun hg => Ev.move rfl) rfl (WL.g (Met.no rfl rfl) (fun hg => Ev.nilCheck ((evG.un rfl).ev hg)) rfl (WL.g (Met.no rfl rfl) (fun hg => Ev.fieldAddr fa54_11 ((evG.un rfl).ev hg)) rfl (WL.g (Met.no rfl rfl) (fun hg => Ev.load fl24 ((evG.un rfl).ev hg) (H.cell 1 rfl rfl)) rfl (WL.g (Met.no rfl rfl) (fun hg => Ev.nei ((evG.un rfl).ev hg) rfl) rfl (WL.v (Ev.or rfl rfl rfl) rfl (WL.nil ?_))))))))))))))))))))))
  refine WQ.tn (WC.cond rfl (fun h0 => ?_) (fun h0 => ?_))
  · have h0 : r.ended = true ∨ r.err ≠ 0 := by simpa using h0
    refine WC.seq (WC.drawT mixed (fun k => k = b1) 8 [(false, 0), (false, 1), (false, 2), (false, 3), (false, 4), (true, 5), (false, 6), (false, 7)] (by kernel_rfl) ?_)
    intro w1 L
    replace H := H.ext L
    have hK := Gr.refl (fun k => k = b1) w1
    have HD := H
    refine WX.v rfl (fun w2 hC => Ev.build (vs := [_, _, _, _, _, _, _, _]) (ps := []) pl41 z41 rfl rfl) rfl (WX.v rfl (fun w2 hC => Ev.move rfl) rfl (WX.v rfl (fun w2 hC => Ev.nilCheck rfl) rfl (WX.v rfl (fun w2 hC => Ev.fieldAddr fa54_11 rfl) rfl (WX.v rfl (fun w2 hC => Ev.load fl24 rfl (Gr.cell hC (HD.ne 1 0 rfl rfl rfl) (HD.cell 1 rfl rfl))) rfl (WX.loud rfl rfl (WL.store (i := 0) (vs := [_, _, _, _, _, _, _, _]) rfl rfl rfl sz41 rfl H rfl rfl fun w1 H L => ?_))))))
    replace hK := hK.trans L
    refine WL.nil (WQ.back (fun _ => hK) (WX.v rfl (fun w2 hC => Ev.assign rfl) rfl (WX.v rfl (fun w2 hC => Ev.assign rfl) rfl (WX.nil (WQ.tn (WC.ret (WQ.tn_ret (WQ.retC3 (vs := [_, _, _, _, _, _, _, _]) rfl rfl rfl rfl ag41 sz41 (H.cells 0 rfl rfl) ?_))))))))
    unfold nextR; rw [if_pos h0]; exact ⟨none, 0, q, rfl, hq, H.tail.nilrow _ _⟩
  have h0 : ¬ (r.ended = true ∨ r.err ≠ 0) := by
    have h9 := h0
    rw [Bool.eq_false_iff] at h9
    intro h8
    apply h9
    simpa using h8
  refine WC.skip (WQ.tn (WC.seq (WC.reg (WL.v (Ev.move rfl) rfl (WL.v (Ev.nilCheck rfl) rfl (WL.v (Ev.fieldAddr fa54_3 rfl) rfl (WL.v (Ev.load fl49 rfl (H.cell 1 rfl rfl)) rfl (WL.v (Ev.move rfl) rfl ?_))))))))
  have HV := H.perm (List.perm_append_comm (l₁ := rdrS R r q) (l₂ := [.blk b1 (pcL Pc.zero none 0) 41 (0, 0)]))
  refine WL.callv (vs := [_]) (first := []) (caps := []) rfl rfl hcl rfl (rd_step r hr R q hq _ (HV.sub (List.sublist_append_left _ _)).local) ?_
  rintro _ w1 ⟨A, c, q2, rfl, hq2, H1⟩
  replace H := (HV.frame H1).perm (List.perm_append_comm (l₁ := [.blk b1 (pcL Pc.zero none 0) 41 (0, 0)]) (l₂ := rdRow A c (stepR r).2.1.fs :: rdrS R (stepR r).1 q2))
  refine ⟨_, rfl, ?_⟩
  refine WL.v (Ev.move rfl) rfl (WL.v (Ev.extract rfl rfl) rfl (WL.v (Ev.extract rfl rfl) rfl (WL.v (Ev.extract rfl rfl) rfl (WL.alloc z41 rfl H rfl fun b2 w1 hb2 H L => (WL.store (i := 0) (vs := [_, _, _, _, _, _, _, _]) rfl rfl rfl sz41 rfl H rfl rfl fun w1 H L => (WL.v (Ev.assign rfl) rfl (WL.v (Ev.assign rfl) rfl (WL.nil (WQ.tn (WC.seq (WC.seq (WC.reg (WL.v (Ev.move rfl) rfl (WL.v (Ev.eqi rfl rfl) rfl (WL.v (Ev.move rfl) rfl (WL.g (Met.yes rfl rfl) (fun hg => Ev.move rfl) rfl (WL.g (Met.yes rfl rfl) (fun hg => Ev.not ((evG.un rfl).ev hg)) rfl (WL.v (Ev.and rfl rfl rfl) rfl (WL.v (Ev.move rfl) rfl (WL.g (Met.yes rfl rfl) (fun hg => Ev.move rfl) rfl (WL.g (Met.yes rfl rfl) (fun hg => Ev.nilCheck ((evG.un rfl).ev hg)) rfl (WL.g (Met.yes rfl rfl) (fun hg => Ev.fieldAddr fa54_2 ((evG.un rfl).ev hg)) rfl (WL.g (Met.yes rfl rfl) (fun hg => Ev.load fl4 ((evG.un rfl).ev hg) (H.cell 3 rfl rfl)) rfl (WL.v (Ev.and rfl rfl rfl) rfl (WL.nil ?_)))))))))))))))))))))))))
  refine WQ.tn (WC.cond rfl (fun h1 => ?_) (fun h1 => ?_))
  · have h1 : ((stepR r).2.2.2 = 0 ∧ (stepR r).2.2.1 = false) ∧ (stepR r).1.closed = true := by simpa using h1
    refine WC.reg (WL.v (Ev.assign rfl) rfl (WL.nil (WQ.tn (WC.seq (WC.reg (WL.v (Ev.move rfl) rfl (WL.v (Ev.move rfl) rfl (WL.v (Ev.nilCheck rfl) rfl (WL.v (Ev.fieldAddr fa54_11 rfl) rfl (WL.store (i := 3) (vs := [_]) rfl rfl rfl sz24 rfl H rfl rfl fun w1 H L => (WL.nil (WQ.tn (WC.seq (WC.reg (WL.v (Ev.loadA (vs := [_, _, _, _, _, _, _, _]) ag41 sz41 rfl (H.cells 0 rfl rfl)) rfl (WL.v (Ev.move rfl) rfl (WL.v (Ev.move rfl) rfl (WL.store (i := 1) (vs := [_, _, _, _, _, _, _, _]) rfl rfl rfl sz41 rfl H rfl rfl fun w1 H L => (WL.v (Ev.assign rfl) rfl (WL.v (Ev.assign rfl) rfl (WL.nil ?_)))))))))))))))))))))
    refine WQ.tn (WC.ret (WQ.retC3 (vs := [_, _, _, _, _, _, _, _]) rfl rfl rfl rfl ag41 sz41 (H.cells 1 rfl rfl) ?_))
    unfold nextR shortE; rw [if_neg h0, if_pos h1]; exact ⟨A, c, q2, rfl, hq2, H.tail.tail⟩
  have h1 : ¬ (((stepR r).2.2.2 = 0 ∧ (stepR r).2.2.1 = false) ∧ (stepR r).1.closed = true) := by
    have h9 := h1
    rw [Bool.eq_false_iff] at h9
    intro h8
    apply h9
    simpa using h8
  refine WC.skip (WQ.tn (WC.seq (WC.reg (WL.v (Ev.move rfl) rfl (WL.v (Ev.move rfl) rfl (WL.v (Ev.nilCheck rfl) rfl (WL.v (Ev.fieldAddr fa54_11 rfl) rfl (WL.store (i := 3) (vs := [_]) rfl rfl rfl sz24 rfl H rfl rfl fun w1 H L => (WL.nil (WQ.tn (WC.seq (WC.reg (WL.v (Ev.loadA (vs := [_, _, _, _, _, _, _, _]) ag41 sz41 rfl (H.cells 0 rfl rfl)) rfl (WL.v (Ev.move rfl) rfl (WL.v (Ev.move rfl) rfl (WL.store (i := 1) (vs := [_, _, _, _, _, _, _, _]) rfl rfl rfl sz41 rfl H rfl rfl fun w1 H L => (WL.v (Ev.assign rfl) rfl (WL.v (Ev.assign rfl) rfl (WL.nil (WQ.tn (WC.ret (WQ.retC3 (vs := [_, _, _, _, _, _, _, _]) rfl rfl rfl rfl ag41 sz41 (H.cells 1 rfl rfl) ?_))))))))))))))))))))))
  unfold nextR shortE; rw [if_neg h0, if_neg h1]; exact ⟨A, c, q2, rfl, hq2, H.tail.tail⟩
end Go.Proofs.YtodappgiadelaaaDoor
