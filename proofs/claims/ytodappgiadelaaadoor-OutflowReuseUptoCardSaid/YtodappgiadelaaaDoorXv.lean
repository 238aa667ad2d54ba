/- The walks of functions: what each comes to. -/
import Derived.Test.YtodappgiadelaaaDoorXu
import Derived.Test.YtodappgiadelaaaDoorProg
set_option linter.unusedVariables false
set_option linter.unusedSimpArgs false
namespace Go.Proofs.YtodappgiadelaaaDoor
open Go.RowKit Go.BK
theorem cl20 : callB Tryd.prog 20 = true := by kernel_rfl
theorem cl15 : callB Tryd.prog 15 = true := by kernel_rfl
@[reducible] def toldV (t : Tl) : Value := .tuple #[.int .i64 t.st, str t.body, .bool t.r.ended, .int .i64 t.r.err, .bool true]
theorem inT_st (ps : List Bs) (en : Bool) (t : Tl) (i : Nat) : (inT ps en t i).st = t.st ∧ (inT ps en t i).body = t.body ∧ (inT ps en t i).r.err = t.r.err ∧ (inT ps en t i).r.dec = t.r.dec := by
  unfold inT
  split
  · exact ⟨rfl, rfl, feedR_err _ _, feedR_dec _ _⟩
  · split <;> exact ⟨rfl, rfl, rfl, rfl⟩
theorem drain_step {k : Nat} {t u : Tl} (h : drainK k t = some u) : ∃ j, k = j + 1 := by
  cases k with
  | zero => simp [drainK] at h
  | succ j => exact ⟨j, rfl⟩
theorem drain_out {k : Nat} {t u : Tl} (h : drainK (k + 1) t = some u) (h1 : (nextR t.r).2.2.1 = false) : u = { t with r := (nextR t.r).1 } := by
  rw [drain_no h1] at h
  exact (Option.some.inj h).symm
theorem drain_hd {k : Nat} {t u : Tl} (h : drainK (k + 1) t = some u) (h1 : (nextR t.r).2.2.1 = true) (h2 : (nextR t.r).2.1.kind = 1) : drainK k ⟨(nextR t.r).1, (nextR t.r).2.1.h.status, t.body⟩ = some u := by
  rw [drainK, if_neg (by rw [h1]; simp), if_pos h2] at h; exact h
theorem drain_da {k : Nat} {t u : Tl} (h : drainK (k + 1) t = some u) (h1 : (nextR t.r).2.2.1 = true) (h2 : (nextR t.r).2.1.kind = 2) : (nextR t.r).2.1.data ≠ [] ∧ drainK k ⟨(nextR t.r).1, t.st, t.body ++ (nextR t.r).2.1.data⟩ = some u := by
  rw [drainK, if_neg (by rw [h1]; simp), if_neg (by rw [h2]; decide), if_pos h2] at h
  split at h
  · cases h
  · rename_i h3; exact ⟨h3, h⟩
theorem drain_el {k : Nat} {t u : Tl} (h : drainK (k + 1) t = some u) (h1 : (nextR t.r).2.2.1 = true) (h2 : (nextR t.r).2.1.kind ≠ 1) (h3 : (nextR t.r).2.1.kind ≠ 2) : drainK k { t with r := (nextR t.r).1 } = some u := by
  rw [drainK, if_neg (by rw [h1]; simp), if_neg h2, if_neg h3] at h; exact h
set_option maxRecDepth 20000 in
set_option maxHeartbeats 2000000 in
theorem lw_told (m : Bs) (A : Option Addr) (c : Nat) (ps : List Bs) (G : Nat → Prop) (en : Bool) (hsm : Sml (tot ps)) (hsl : Sml ps.length) (w : World) (R0 : Rd kStr G w A c ps) :
    Calls Tryd.prog 9 #[str m, .slice A ps.length c, .bool en] w fun e w' => e = .returned (toldV (toldR m ps en)) ∧ St w No w' [] := by
  have hsm9 := hsm.le
  have hsl9 := hsl.le
  refine calls_of Tryd.func9 rfl Tryd.ntmps9 (by rfl) (K0 := [(0, _), (1, _), (2, _)]) ⟨rfl, rfl, rfl, trivial⟩ ?_
  have H := St.init w
  refine WC.seq (WC.reg (WL.v (Ev.assign rfl) rfl (WL.v (Ev.assign rfl) rfl (WL.v (Ev.assign rfl) rfl (WL.v (Ev.assign rfl) rfl (WL.v (Ev.assign rfl) rfl (WL.nil (WQ.tn (WC.seq (WC.reg (WL.v (Ev.move rfl) rfl (WL.call (vs := [_]) rfl cl12 rfl (rd_New m _) ?_))))))))))))
  rintro _ w1 ⟨R, rfl, H1⟩
  replace H := H.app H1
  refine ⟨_, rfl, ?_⟩
  refine WL.v (Ev.assign rfl) rfl (WL.nil (WQ.tn (WC.seq (WC.seq (WC.reg (WL.v (Ev.move rfl) rfl (WL.v (Ev.eqnil Tryd.underlying34 rfl rfl) rfl (WL.nil (WQ.tn (WC.cond rfl (fun h0 => ?_) (fun h0 => ?_)))))))))))
  · exfalso; simp at h0
  clear h0
  refine WC.skip (WQ.tn (WC.seq (WC.reg (WL.v (Ev.assign rfl) rfl (WL.v (Ev.assign rfl) rfl (WL.v (Ev.assign rfl) rfl (WL.nil (WQ.tn (WC.seq (WC.seq (WC.reg (WL.v (Ev.assign rfl) rfl (WL.nil (WQ.tn (WC.block (WC.loop (γ := Nat × Option (Nat × Option Addr × Nat)) (fun ⟨i, q⟩ => [(0, str m), (1, .slice A ps.length c), (2, .bool en), (11, .pointer (some ⟨R, 0, none⟩)), (12, .int .i64 (toldN m ps en i).st), (13, str (toldN m ps en i).body), (14, .int .i64 (toldN m ps en i).r.err), (15, .int .i64 (i : Nat))]) (fun ⟨i, q⟩ w1 => i ≤ ps.length + 1 ∧ (toldN m ps en i).r.dec.isSome = q.isSome ∧ St w No w1 (rdrS R (toldN m ps en i).r q)) (fun ⟨i, q⟩ => ps.length + 1 - i) (0, none) (⟨Nat.zero_le _, rfl, H⟩) ⟨rfl, rfl, rfl, rfl, rfl, rfl, rfl, rfl, trivial⟩ ?_))))))))))))))))
  rintro ⟨i, q⟩ w1 ⟨hi, hq, H⟩
  refine WC.seq (WC.seq (WC.reg (WL.v (Ev.move rfl) rfl (WL.v (Ev.move rfl) rfl (WL.v (Ev.lensl Tryd.underlying22 rfl) rfl (WL.v (Ev.leqN rfl rfl) rfl (WL.nil (WQ.tn (WC.cond rfl (fun h2 => ?_) (fun h2 => ?_))))))))))
  · simp only [bsimp] at h2
    have htn := toldN_ok (m := m) (ps := ps) (en := en) hsm i
    have htl := tot_le ps i
    have hin := inT_ok (ps := ps) (en := en) (i := i) hsm htn
    refine WC.skip (WQ.tn (WC.seq (WC.block (WC.cut (γ := Unit) (fun _ => [(0, str m), (1, .slice A ps.length c), (2, .bool en), (11, .pointer (some ⟨R, 0, none⟩)), (12, .int .i64 (inT ps en (toldN m ps en i) i).st), (13, str (inT ps en (toldN m ps en i) i).body), (14, .int .i64 (inT ps en (toldN m ps en i) i).r.err), (15, .int .i64 (i : Nat))]) (fun _ w1 => (inT ps en (toldN m ps en i) i).r.dec.isSome = q.isSome ∧ St w No w1 (rdrS R (inT ps en (toldN m ps en i) i).r q)) ?_ ?_))))
    · refine WC.seq (WC.reg (WL.v (Ev.move rfl) rfl (WL.v (Ev.move rfl) rfl (WL.v (Ev.lensl Tryd.underlying22 rfl) rfl (WL.v (Ev.lssN rfl rfl) rfl (WL.nil (WQ.tn (WC.cond rfl (fun h3 => ?_) (fun h3 => ?_)))))))))
      · simp only [bsimp] at h3
        obtain ⟨bk, off, rfl, hG, hc⟩ := R0.at h3
        have hj3 := getx h3
        refine WC.reg (WL.v (Ev.move rfl) rfl (WL.v (Ev.move rfl) rfl (WL.v (Ev.move rfl) rfl (WL.v (Ev.idx Tryd.underlying22 sz9 rfl rfl (by omega)) rfl (WL.v (Ev.load fl9 rfl (H.old (hc _ _ hj3 0 _ rfl))) rfl (WL.call (vs := [_, _]) rfl cl13 rfl (rd_Feed (toldN m ps en i).r ps[i] (by have := hin.1.buf; rw [inT_lt h3] at this; have h7 := htn.2; have h8 := tot_take h3; have h9 := tot_le ps (i + 1); omega) R (decPt q) _ H.local1) ?_))))))
        rintro _ w1 ⟨rfl, H1⟩
        replace H := H.frame1 H1
        refine ⟨_, rfl, ?_⟩
        refine WL.nil ?_
        exact WQ.meet (()) (⟨by rw [inT_lt h3]; show (feedR _ _).dec.isSome = _; rw [feedR_dec]; exact hq, by rw [inT_lt h3]; unfold rdrS; show St _ _ _ (rdrC R (feedR _ _) (decPt q) :: decH (feedR _ _).dec q); rw [feedR_dec]; exact H⟩) ⟨rfl, rfl, rfl, rfl, (by rw [(inT_st _ _ _ _).1]; rfl), (by rw [(inT_st _ _ _ _).2.1]; rfl), (by rw [(inT_st _ _ _ _).2.2.1]; rfl), rfl, trivial⟩
      simp only [bsimp] at h3
      refine WC.seq (WC.reg (WL.v (Ev.move rfl) rfl (WL.nil (WQ.tn (WC.cond rfl (fun h4 => ?_) (fun h4 => ?_))))))
      · have h4 : en = true := h4
        refine WC.reg (WL.v (Ev.move rfl) rfl (WL.call (vs := [_]) rfl cl20 rfl (rd_End (toldN m ps en i).r R (decPt q) _ H.local1) ?_))
        rintro _ w1 ⟨rfl, H1⟩
        replace H := H.frame1 H1
        refine ⟨_, rfl, ?_⟩
        refine WL.nil ?_
        exact WQ.meet (()) (⟨by rw [inT_ge h3, if_pos h4]; exact hq, by rw [inT_ge h3, if_pos h4]; exact H⟩) ⟨rfl, rfl, rfl, rfl, (by rw [(inT_st _ _ _ _).1]; rfl), (by rw [(inT_st _ _ _ _).2.1]; rfl), (by rw [(inT_st _ _ _ _).2.2.1]; rfl), rfl, trivial⟩
      have h4 : ¬ en = true := by have h9 : en = false := h4; rw [h9]; simp
      refine WC.skip ?_
      exact WQ.meet (()) (⟨by rw [inT_ge h3, if_neg h4]; exact hq, by rw [inT_ge h3, if_neg h4]; exact H⟩) ⟨rfl, rfl, rfl, rfl, (by rw [(inT_st _ _ _ _).1]; rfl), (by rw [(inT_st _ _ _ _).2.1]; rfl), (by rw [(inT_st _ _ _ _).2.2.1]; rfl), rfl, trivial⟩
    · rintro _ w1 ⟨hq, H⟩
      refine WC.seq (WC.reg (WL.v (Ev.assign rfl) rfl (WL.nil (WQ.tn (WC.block (WC.loop (γ := Nat × Nat × Tl × Option (Nat × Option Addr × Nat)) (fun ⟨k, n, t, q⟩ => [(0, str m), (1, .slice A ps.length c), (2, .bool en), (11, .pointer (some ⟨R, 0, none⟩)), (12, .int .i64 t.st), (13, str t.body), (14, .int .i64 t.r.err), (15, .int .i64 (i : Nat)), (16, .int .i64 (n : Nat))]) (fun ⟨k, n, t, q⟩ w1 => drainK k t = some (settleT (inT ps en (toldN m ps en i) i)) ∧ n + k ≤ 6 ∧ TOk (tot (ps.take (i + 1))) t ∧ t.r.dec.isSome = q.isSome ∧ St w No w1 (rdrS R t.r q)) (fun ⟨k, n, t, q⟩ => k) (4, 0, (inT ps en (toldN m ps en i) i), q) (⟨drain_eq (k := 0) hin.1, by omega, hin, hq, H⟩) ⟨rfl, rfl, rfl, rfl, rfl, rfl, rfl, rfl, rfl, trivial⟩ ?_))))))
      rintro ⟨k, n, t, q⟩ w1 ⟨hdr, hnk, htk, hq, H⟩
      obtain ⟨k, rfl⟩ := drain_step hdr
      have hks := keeps_next htk.1
      have hlx := tot_le ps (i + 1)
      have htk2 := htk.2
      have hkf := hks.fit
      refine WC.seq (WC.block (WC.seq (WC.reg (WL.v (Ev.move rfl) rfl (WL.call (vs := [_]) rfl cl14 rfl (rd_Next (t.r) htk.1 R q hq _ H.local) ?_)))))
      rintro _ w1 ⟨A1, c1, q1, rfl, hq1, H1⟩
      replace H := H.join H1
      refine ⟨_, rfl, ?_⟩
      refine WL.v (Ev.move rfl) rfl (WL.v (Ev.extract rfl rfl) rfl (WL.v (Ev.extract rfl rfl) rfl (WL.v (Ev.extract rfl rfl) rfl (WL.alloc z41 rfl H rfl fun bp w1 hbp H L => (WL.store (i := 0) (vs := [_, _, _, _, _, _, _, _]) rfl rfl rfl sz41 rfl H rfl rfl fun w1 H L => (WL.v (Ev.assign rfl) rfl (WL.v (Ev.assign rfl) rfl (WL.nil (WQ.tn (WC.seq (WC.reg (WL.v (Ev.move rfl) rfl (WL.v (Ev.assign rfl) rfl (WL.nil (WQ.tn (WC.seq (WC.seq (WC.reg (WL.v (Ev.move rfl) rfl (WL.v (Ev.not rfl) rfl (WL.nil (WQ.tn (WC.cond rfl (fun h6 => ?_) (fun h6 => ?_))))))))))))))))))))))))
      · have h6 : (nextR t.r).2.2.1 = false := by simpa using h6
        have hu := drain_out hdr h6
        refine WC.exit (WQ.tn_exit (WQ.blk_on rfl (WQ.tn_exit (WQ.loop_exit (WQ.blk_here rfl (WQ.blk (WQ.tn (WC.reg (WL.v (Ev.move rfl) rfl (WL.v (Ev.addN (b := 1) rfl rfl (by omega)) rfl (WL.v (Ev.assign rfl) rfl (WL.nil ?_))))))))))))
        have hfin : toldN m ps en (i + 1) = { t with r := (nextR t.r).1 } := hu
        exact WQ.again ((i + 1, q1)) (⟨by omega, by rw [hfin]; exact hq1, by rw [hfin]; exact H.tail.tail⟩) ⟨rfl, rfl, rfl, rfl, (by dsimp only; rw [hfin]; rfl), (by dsimp only; rw [hfin]; rfl), (by dsimp only; rw [hfin]; exact congrArg (fun e => some (Value.int .i64 e)) (nextR_err t.r)), rfl, trivial⟩ (by first | omega | (dsimp only; omega))
      have h6 : (nextR t.r).2.2.1 = true := by simpa using h6
      refine WC.skip (WQ.tn (WC.seq (WC.seq (WC.reg (WL.v (Ev.move rfl) rfl (WL.v (Ev.gtrN (b := 30000) rfl rfl) rfl (WL.nil (WQ.tn (WC.cond rfl (fun h7 => ?_) (fun h7 => ?_))))))))))
      · simp only [bsimp] at h7
        exfalso; omega
      clear h7
      refine WC.skip (WQ.tn (WC.seq (WC.reg (WL.v (Ev.fieldAddr fa41_0 rfl) rfl (WL.v (Ev.load fl3 rfl (H.cell 0 rfl rfl)) rfl (WL.nil (WQ.tn (WC.block (WC.seq (WC.reg (WL.v (Ev.eqi rfl rfl) rfl (WL.v (Ev.assign rfl) rfl (WL.nil (WQ.tn (WC.cond rfl (fun h8 => ?_) (fun h8 => ?_))))))))))))))))
      · simp only [bsimp] at h8
        refine WC.reg (WL.v (Ev.fieldAddr fa41_1 rfl) rfl (WL.v (Ev.fieldAddr fa39_2 rfl) rfl (WL.v (Ev.load fl3 rfl (H.cell 0 rfl rfl)) rfl (WL.v (Ev.assign rfl) rfl (WL.nil (WQ.blk (WQ.blk (WQ.tn (WC.reg (WL.v (Ev.move rfl) rfl (WL.v (Ev.addN (b := 1) rfl rfl (by omega)) rfl (WL.v (Ev.assign rfl) rfl (WL.nil ?_)))))))))))))
        exact WQ.again ((k, n + 1, ⟨(nextR t.r).1, (nextR t.r).2.1.h.status, t.body⟩, q1)) (⟨drain_hd hdr h6 h8, by omega, ⟨hks.ok, by dsimp only; omega⟩, hq1, H.tail.tail⟩) ⟨rfl, rfl, rfl, rfl, rfl, rfl, (congrArg (fun e => some (Value.int .i64 e)) (nextR_err t.r)), rfl, rfl, trivial⟩ (by dsimp only; omega)
      simp only [bsimp] at h8
      refine WC.seq (WC.reg (WL.v (Ev.eqi rfl rfl) rfl (WL.v (Ev.assign rfl) rfl (WL.nil (WQ.tn (WC.cond rfl (fun h9 => ?_) (fun h9 => ?_)))))))
      · simp only [bsimp] at h9
        obtain ⟨hne, hdr2⟩ := drain_da hdr h6 h9
        refine WC.seq (WC.seq (WC.reg (WL.v (Ev.fieldAddr fa41_2 rfl) rfl (WL.v (Ev.load fl9 rfl (H.cell 0 rfl rfl)) rfl (WL.v (Ev.eqs rfl rfl) rfl (WL.nil (WQ.tn (WC.cond rfl (fun h10 => ?_) (fun h10 => ?_)))))))))
        · exfalso; simp only [bsimp] at h10; exact hne h10
        clear h10
        refine WC.skip (WQ.tn (WC.reg (WL.v (Ev.move rfl) rfl (WL.v (Ev.fieldAddr fa41_2 rfl) rfl (WL.v (Ev.load fl9 rfl (H.cell 0 rfl rfl)) rfl (WL.v (Ev.cat rfl rfl (by unfold I64; simp; omega)) rfl (WL.v (Ev.assign rfl) rfl (WL.nil (WQ.blk (WQ.blk (WQ.tn (WC.reg (WL.v (Ev.move rfl) rfl (WL.v (Ev.addN (b := 1) rfl rfl (by omega)) rfl (WL.v (Ev.assign rfl) rfl (WL.nil ?_))))))))))))))))
        exact WQ.again ((k, n + 1, ⟨(nextR t.r).1, t.st, t.body ++ (nextR t.r).2.1.data⟩, q1)) (⟨hdr2, by omega, ⟨hks.ok, by simp only [List.length_append]; omega⟩, hq1, H.tail.tail⟩) ⟨rfl, rfl, rfl, rfl, rfl, rfl, (congrArg (fun e => some (Value.int .i64 e)) (nextR_err t.r)), rfl, rfl, trivial⟩ (by dsimp only; omega)
      simp only [bsimp] at h9
      refine WC.skip (WQ.blk (WQ.blk (WQ.tn (WC.reg (WL.v (Ev.move rfl) rfl (WL.v (Ev.addN (b := 1) rfl rfl (by omega)) rfl (WL.v (Ev.assign rfl) rfl (WL.nil ?_))))))))
      exact WQ.again ((k, n + 1, { t with r := (nextR t.r).1 }, q1)) (⟨drain_el hdr h6 h8 h9, by omega, ⟨hks.ok, by dsimp only; omega⟩, hq1, H.tail.tail⟩) ⟨rfl, rfl, rfl, rfl, rfl, rfl, (congrArg (fun e => some (Value.int .i64 e)) (nextR_err t.r)), rfl, rfl, trivial⟩ (by dsimp only; omega)
  simp only [bsimp] at h2
  obtain rfl : i = ps.length + 1 := by omega
  refine WC.exit (WQ.tn_exit (WQ.loop_exit (WQ.blk_here rfl (WQ.tn (WC.seq (WC.reg (WL.v (Ev.move rfl) rfl (WL.v (Ev.move rfl) rfl (WL.v (Ev.move rfl) rfl (WL.callS (vs := [_]) rfl cl15 rfl H (rd_Ended (toldR m ps en).r R (decPt q) _ (fun o v h => H.cell 0 rfl h)) fun w1 H L => (WL.v (Ev.move rfl) rfl (WL.v (Ev.assign rfl) rfl (WL.v (Ev.assign rfl) rfl (WL.v (Ev.assign rfl) rfl (WL.v (Ev.assign rfl) rfl (WL.v (Ev.assign rfl) rfl (WL.nil (WQ.tn (WC.ret (WQ.ret5 rfl rfl rfl rfl rfl rfl ?_))))))))))))))))))))
  exact ⟨rfl, H.done⟩
end Go.Proofs.YtodappgiadelaaaDoor
