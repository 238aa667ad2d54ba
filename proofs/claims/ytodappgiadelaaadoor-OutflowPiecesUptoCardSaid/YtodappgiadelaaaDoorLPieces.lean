/- The walks of functions: what each comes to. -/
import Derived.Test.YtodappgiadelaaaDoorXv
import Derived.Test.YtodappgiadelaaaDoorProg
set_option linter.unusedVariables false
set_option linter.unusedSimpArgs false
namespace Go.Proofs.YtodappgiadelaaaDoor
open Go.RowKit Go.BK
theorem cl8 : callB Tryd.prog 8 = true := by kernel_rfl
theorem cl9 : callB Tryd.prog 9 = true := by kernel_rfl
theorem flat_take_succ {ps : List Bs} {j : Nat} (h : j < ps.length) : (ps.take (j + 1)).flatten = (ps.take j).flatten ++ ps[j] := by
  rw [take_succ_get h, List.flatten_append]; simp
theorem flat_len_le (ps : List Bs) (j : Nat) : (ps.take j).flatten.length ≤ tot ps := by
  rw [List.length_flatten]; exact tot_le ps j
theorem tot_one (x : Bs) : tot [x] = x.length := by simp [tot]
theorem flat_tot (ps : List Bs) : ps.flatten.length = tot ps := by rw [List.length_flatten]; rfl
set_option maxRecDepth 20000 in
set_option maxHeartbeats 2000000 in
theorem lw_Pieces (m : Bs) (A : Option Addr) (c : Nat) (ps : List Bs) (en : Bool) (hsm : Sml (tot ps)) (hsl : Sml ps.length) (w : World) (R0 : Rd kStr (fun _ => True) w A c ps) :
    Calls Tryd.prog 3 #[str m, .slice A ps.length c, .bool en] w fun e w' => e = .returned (.bool true) ∧ St w No w' [] := by
  have hsm9 := hsm.le
  have hsl9 := hsl.le
  have hft := flat_tot ps
  refine calls_of Tryd.func3 rfl Tryd.ntmps3 (by rfl) (K0 := [(0, _), (1, _), (2, _)]) ⟨rfl, rfl, rfl, trivial⟩ ?_
  have H := St.init w
  refine WC.seq (WC.reg (WL.v (Ev.assign rfl) rfl (WL.nil (WQ.tn (WC.seq (WC.seq (WC.reg (WL.callS (vs := []) rfl cl8 rfl H (lw_anchor _) fun w1 H L => (WL.v (Ev.not rfl) rfl (WL.nil (WQ.tn (WC.cond rfl (fun h0 => ?_) (fun h0 => ?_)))))))))))))
  · exfalso; simp at h0
  clear h0
  refine WC.skip (WQ.tn (WC.seq (WC.reg (WL.v (Ev.assign rfl) rfl (WL.nil (WQ.tn (WC.seq (WC.seq (WC.reg (WL.v (Ev.move rfl) rfl (WL.v (Ev.lensl Tryd.underlying22 rfl) rfl (WL.v (Ev.move rfl) rfl (WL.nil (WQ.tn (WC.block (WC.loop (γ := Nat) (fun j => [(0, str m), (1, .slice A ps.length c), (2, .bool en), (7, str (ps.take j).flatten), (22, .slice A ps.length c), (23, .int .i64 (ps.length : Nat)), (24, .int .i64 (j : Nat))]) (fun j w1 => j ≤ ps.length ∧ St w No w1 []) (fun j => ps.length - j) 0 (⟨Nat.zero_le _, H⟩) ⟨rfl, rfl, rfl, rfl, rfl, rfl, rfl, trivial⟩ ?_))))))))))))))))
  rintro j w1 ⟨hj, H⟩
  refine WC.seq (WC.reg (WL.v (Ev.lssN rfl rfl) rfl (WL.nil (WQ.tn (WC.seq (WC.cond rfl (fun h2 => ?_) (fun h2 => ?_)))))))
  · simp only [bsimp] at h2
    obtain ⟨bk, off, rfl, hG, hc⟩ := R0.at h2
    have hj2 := getx h2
    refine WC.skip (WQ.tn (WC.seq (WC.block (WC.seq (WC.reg (WL.v (Ev.idx Tryd.underlying22 sz9 rfl rfl (by omega)) rfl (WL.v (Ev.load fl9 rfl (H.old (hc _ _ hj2 0 _ rfl))) rfl (WL.v (Ev.assign rfl) rfl (WL.nil (WQ.tn (WC.reg (WL.v (Ev.move rfl) rfl (WL.v (Ev.move rfl) rfl (WL.v (Ev.cat rfl rfl (by have h7 := flat_len_le ps j; have h8 := flat_len_le ps (j + 1); rw [flat_take_succ h2, List.length_append] at h8; unfold I64; first | omega | (simp only [List.length_append]; omega) | (simp; omega))) rfl (WL.v (Ev.assign rfl) rfl (WL.nil (WQ.blk (WQ.tn (WC.reg (WL.v (Ev.addN (b := 1) rfl rfl (by omega)) rfl (WL.v (Ev.move rfl) rfl (WL.nil ?_))))))))))))))))))))))
    exact WQ.again (j + 1) (⟨by omega, H⟩) ⟨rfl, rfl, rfl, (by rw [flat_take_succ h2]; rfl), rfl, rfl, rfl, trivial⟩ (by first | omega | (dsimp only; omega))
  simp only [bsimp] at h2
  obtain rfl : j = ps.length := by omega
  rw [List.take_length]
  refine WC.exit (WQ.tn_exit (WQ.loop_exit (WQ.blk_here rfl (WQ.tn (WC.seq (WC.seq (WC.reg (WL.v (Ev.move rfl) rfl (WL.v (Ev.lens Tryd.underlying9 rfl) rfl (WL.v (Ev.gtrN (b := 20000) rfl rfl) rfl (WL.nil (WQ.tn (WC.cond rfl (fun h3 => ?_) (fun h3 => ?_))))))))))))))
  · clear h3
    refine WC.seq (WC.reg (WL.v (Ev.assign rfl) rfl (WL.nil (WQ.tn (WC.ret (WQ.tn_ret (WQ.ret1 rfl rfl ?_)))))))
    exact ⟨rfl, H.done⟩
  clear h3
  refine WC.skip (WQ.tn (WC.seq (WC.reg (WL.v (Ev.move rfl) rfl (WL.v (Ev.move rfl) rfl (WL.v (Ev.move rfl) rfl (WL.callS (vs := [_, _, _]) rfl cl9 rfl H (by exact lw_told m A c ps _ en hsm hsl _ (R0.st H)) fun w1 H L => (WL.v (Ev.move rfl) rfl (WL.v (Ev.extract rfl rfl) rfl (WL.v (Ev.extract rfl rfl) rfl (WL.v (Ev.extract rfl rfl) rfl (WL.v (Ev.extract rfl rfl) rfl (WL.v (Ev.extract rfl rfl) rfl (WL.v (Ev.assign rfl) rfl (WL.v (Ev.assign rfl) rfl (WL.v (Ev.assign rfl) rfl (WL.v (Ev.assign rfl) rfl (WL.v (Ev.assign rfl) rfl (WL.nil (WQ.tn (WC.seq (WC.reg (WL.v (Ev.move rfl) rfl (WL.v (Ev.move rfl) rfl (WL.buildSlice (vs := [_]) (ps := [(_, _)]) Tryd.underlying22 sz9 z9 rfl (by omega) (by omega) rfl rfl H rfl fun b1 w1 hb1 H L => (WL.v (Ev.move rfl) rfl (WL.callS (vs := [_, _, _]) rfl cl9 rfl H (by exact lw_told m _ 1 [ps.flatten] _ en (by rw [tot_one, hft]; exact hsm) (by unfold Sml; simp) _ (H.rdB kStr 0 rfl [ps.flatten] (List.prefix_refl _) (Nat.le_refl _))) fun w1 H L => (WL.v (Ev.move rfl) rfl (WL.v (Ev.extract rfl rfl) rfl (WL.v (Ev.extract rfl rfl) rfl (WL.v (Ev.extract rfl rfl) rfl (WL.v (Ev.extract rfl rfl) rfl (WL.v (Ev.extract rfl rfl) rfl (WL.v (Ev.assign rfl) rfl (WL.v (Ev.assign rfl) rfl (WL.v (Ev.assign rfl) rfl (WL.v (Ev.assign rfl) rfl (WL.v (Ev.assign rfl) rfl (WL.nil ?_)))))))))))))))))))))))))))))))))))))))
  refine WQ.tn (WC.seq (WC.seq (WC.reg (WL.v (Ev.move rfl) rfl (WL.v (Ev.not rfl) rfl (WL.v (Ev.move rfl) rfl (WL.g (Met.no rfl rfl) (fun hg => Ev.move rfl) rfl (WL.g (Met.no rfl rfl) (fun hg => Ev.not ((evG.un rfl).ev hg)) rfl (WL.v (Ev.or rfl rfl rfl) rfl (WL.v (Ev.move rfl) rfl (WL.g (Met.no rfl rfl) (fun hg => Ev.move rfl) rfl (WL.g (Met.no rfl rfl) (fun hg => Ev.move rfl) rfl (WL.g (Met.no rfl rfl) (fun hg => Ev.nei ((evG.un rfl).ev hg) ((evG.un rfl).ev hg)) rfl (WL.v (Ev.or rfl rfl rfl) rfl (WL.v (Ev.move rfl) rfl (WL.g (Met.no rfl rfl) (fun hg => Ev.move rfl) rfl (WL.g (Met.no rfl rfl) (fun hg => Ev.move rfl) rfl (WL.g (Met.no rfl rfl) (fun hg => Ev.neb Tryd.underlying4 ((evG.un rfl).ev hg) ((evG.un rfl).ev hg)) rfl (WL.v (Ev.or rfl rfl rfl) rfl (WL.v (Ev.move rfl) rfl (WL.g (Met.no rfl rfl) (fun hg => Ev.move rfl) rfl (WL.g (Met.no rfl rfl) (fun hg => Ev.move rfl) rfl (WL.g (Met.no rfl rfl) (fun hg => Ev.nei ((evG.un rfl).ev hg) ((evG.un rfl).ev hg)) rfl (WL.v (Ev.or rfl rfl rfl) rfl (WL.nil ?_)))))))))))))))))))))))))
  refine WQ.tn (WC.cond rfl (fun h4 => ?_) (fun h4 => ?_))
  · exfalso
    obtain ⟨s1, s2, s3, s4⟩ := told_pieces (m := m) (en := en) hsm
    simp [s1, s2, s3] at h4
  clear h4
  refine WC.skip (WQ.tn (WC.seq (WC.reg (WL.v (Ev.move rfl) rfl (WL.v (Ev.move rfl) rfl (WL.v (Ev.eqs rfl rfl) rfl (WL.v (Ev.move rfl) rfl (WL.g (Met.no rfl rfl) (fun hg => Ev.move rfl) rfl (WL.g (Met.no rfl rfl) (fun hg => Ev.nei ((evG.un rfl).ev hg) rfl) rfl (WL.v (Ev.or rfl rfl rfl) rfl (WL.v (Ev.assign rfl) rfl (WL.nil (WQ.tn (WC.ret (WQ.ret1 rfl rfl ?_)))))))))))))))
  obtain ⟨s1, s2, s3, s4⟩ := told_pieces (m := m) (en := en) hsm
  refine ⟨?_, H.done⟩
  congr 2
  by_cases he : (toldR m ps en).r.err = 0
  · rw [← s4 he]; simp
  · simp [he]
end Go.Proofs.YtodappgiadelaaaDoor
