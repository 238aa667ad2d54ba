/- The walks of functions: what each comes to. -/
import Derived.Test.YtcmolgiccccnoaaWk
import Derived.Test.YtcmolgiccccnoaaProg
set_option linter.unusedVariables false
set_option linter.unusedSimpArgs false
namespace Go.Proofs.Ytcmolgiccccnoaa
open Go.RowKit Go.BK
theorem cl21 : callB Try.prog 21 = true := by kernel_rfl
theorem cl20 : callB Try.prog 20 = true := by kernel_rfl
theorem cl13 : callB Try.prog 13 = true := by kernel_rfl
theorem pl91 : plOf Try.prog 91 = some [(0, 1), (1, 1), (2, 1), (3, 1), (4, 1), (5, 1)] := by kernel_rfl
theorem z91 : zOk Try.prog 91 (.agg #[.int .i64 0, .int .i64 0, .int .i64 0, .int .i64 0, .int .i64 0, .int .i64 0]) := by unfold zOk; kernel_rfl
theorem ref03_New (m f e : Int) (hg : goodB m f e) (w : World) :
    Calls Try.prog 25 #[.int .i64 m, .int .i64 f, .int .i64 e, .int .i64 0] w fun r w' => ∃ B, r = .returned (.tuple #[.pointer (some ⟨B, 0, none⟩), .int .i64 0]) ∧ St w No w' [.blk B (encB (newB m f e 0)) 91 (0, 0)] := by
  obtain ⟨g1, g2, g3⟩ := hg
  refine calls_of Try.func25 rfl Try.ntmps25 (by rfl) (K0 := [(0, _), (1, _), (2, _), (3, _)]) ⟨rfl, rfl, rfl, rfl, trivial⟩ ?_
  have H := St.init w
  refine WC.seq (WC.reg (WL.v (Ev.assign rfl) rfl (WL.v (Ev.assign rfl) rfl (WL.nil (WQ.tn (WC.seq (WC.seq (WC.reg (WL.v (Ev.move rfl) rfl (WL.v (Ev.lss rfl rfl) rfl (WL.v (Ev.move rfl) rfl (WL.g (Met.no rfl rfl) (fun hg => Ev.move rfl) rfl (WL.g (Met.no rfl rfl) (fun hg => Ev.gtr ((evG.un rfl).ev hg) rfl) rfl (WL.v (Ev.or rfl rfl rfl) rfl (WL.v (Ev.move rfl) rfl (WL.g (Met.no rfl rfl) (fun hg => Ev.move rfl) rfl (WL.g (Met.no rfl rfl) (fun hg => Ev.lss ((evG.un rfl).ev hg) rfl) rfl (WL.v (Ev.or rfl rfl rfl) rfl (WL.v (Ev.move rfl) rfl (WL.g (Met.no rfl rfl) (fun hg => Ev.move rfl) rfl (WL.g (Met.no rfl rfl) (fun hg => Ev.gtr ((evG.un rfl).ev hg) rfl) rfl (WL.v (Ev.or rfl rfl rfl) rfl (WL.v (Ev.move rfl) rfl (WL.g (Met.no rfl rfl) (fun hg => Ev.move rfl) rfl (WL.g (Met.no rfl rfl) (fun hg => Ev.lss ((evG.un rfl).ev hg) rfl) rfl (WL.v (Ev.or rfl rfl rfl) rfl (WL.v (Ev.move rfl) rfl (WL.g (Met.no rfl rfl) (fun hg => Ev.move rfl) rfl (WL.g (Met.no rfl rfl) (fun hg => Ev.gtr ((evG.un rfl).ev hg) rfl) rfl (WL.v (Ev.or rfl rfl rfl) rfl (WL.nil ?_)))))))))))))))))))))))))))))))
  refine WQ.tn (WC.cond rfl (fun h0 => ?_) (fun h0 => ?_))
  · simp only [bsimp] at h0
    exfalso; omega
  try simp only [bsimp] at h0
  refine WC.skip (WQ.tn (WC.seq (WC.seq (WC.reg (WL.v (Ev.move rfl) rfl (WL.v (Ev.lss rfl rfl) rfl (WL.v (Ev.move rfl) rfl (WL.g (Met.no rfl rfl) (fun hg => Ev.move rfl) rfl (WL.g (Met.no rfl rfl) (fun hg => Ev.gtr ((evG.un rfl).ev hg) rfl) rfl (WL.v (Ev.or rfl rfl rfl) rfl (WL.nil (WQ.tn (WC.cond rfl (fun h1 => ?_) (fun h1 => ?_))))))))))))))
  · simp only [bsimp] at h1
    exfalso; omega
  try simp only [bsimp] at h1
  refine WC.skip (WQ.tn (WC.seq (WC.reg (WL.v (Ev.move rfl) rfl (WL.v (Ev.move rfl) rfl (WL.v (Ev.move rfl) rfl (WL.v (Ev.move rfl) rfl (WL.v (Ev.move rfl) rfl (WL.v (Ev.move rfl) rfl (WL.v (Ev.build (vs := [_, _, _, _, _, _]) (ps := [(_, _), (_, _), (_, _), (_, _), (_, _), (_, _)]) pl91 z91 rfl rfl) rfl (WL.box (t := 91) (cs := [_, _, _, _, _, _]) rfl rfl H rfl fun b1 w1 hb1 H L => (WL.v (Ev.assign rfl) rfl (WL.v (Ev.assign rfl) rfl (WL.nil (WQ.tn (WC.ret (WQ.ret2 rfl rfl rfl ?_)))))))))))))))))
  exact ⟨_, rfl, H⟩
theorem ref03_NewBad (m f e : Int) (hg : ¬ goodB m f e) (w : World) :
    Calls Try.prog 25 #[.int .i64 m, .int .i64 f, .int .i64 e, .int .i64 0] w fun r w' => r = .returned (.tuple #[.pointer none, .int .i64 30]) ∧ St w No w' [] := by
  refine calls_of Try.func25 rfl Try.ntmps25 (by rfl) (K0 := [(0, _), (1, _), (2, _), (3, _)]) ⟨rfl, rfl, rfl, rfl, trivial⟩ ?_
  have H := St.init w
  refine WC.seq (WC.reg (WL.v (Ev.assign rfl) rfl (WL.v (Ev.assign rfl) rfl (WL.nil (WQ.tn (WC.seq (WC.seq (WC.reg (WL.v (Ev.move rfl) rfl (WL.v (Ev.lss rfl rfl) rfl (WL.v (Ev.move rfl) rfl (WL.g (Met.no rfl rfl) (fun hg => Ev.move rfl) rfl (WL.g (Met.no rfl rfl) (fun hg => Ev.gtr ((evG.un rfl).ev hg) rfl) rfl (WL.v (Ev.or rfl rfl rfl) rfl (WL.v (Ev.move rfl) rfl (WL.g (Met.no rfl rfl) (fun hg => Ev.move rfl) rfl (WL.g (Met.no rfl rfl) (fun hg => Ev.lss ((evG.un rfl).ev hg) rfl) rfl (WL.v (Ev.or rfl rfl rfl) rfl (WL.v (Ev.move rfl) rfl (WL.g (Met.no rfl rfl) (fun hg => Ev.move rfl) rfl (WL.g (Met.no rfl rfl) (fun hg => Ev.gtr ((evG.un rfl).ev hg) rfl) rfl (WL.v (Ev.or rfl rfl rfl) rfl (WL.v (Ev.move rfl) rfl (WL.g (Met.no rfl rfl) (fun hg => Ev.move rfl) rfl (WL.g (Met.no rfl rfl) (fun hg => Ev.lss ((evG.un rfl).ev hg) rfl) rfl (WL.v (Ev.or rfl rfl rfl) rfl (WL.v (Ev.move rfl) rfl (WL.g (Met.no rfl rfl) (fun hg => Ev.move rfl) rfl (WL.g (Met.no rfl rfl) (fun hg => Ev.gtr ((evG.un rfl).ev hg) rfl) rfl (WL.v (Ev.or rfl rfl rfl) rfl (WL.nil ?_)))))))))))))))))))))))))))))))
  refine WQ.tn (WC.cond rfl (fun h0 => ?_) (fun h0 => ?_))
  · try simp only [bsimp] at h0
    refine WC.seq (WC.reg (WL.v (Ev.assign rfl) rfl (WL.v (Ev.assign rfl) rfl (WL.nil (WQ.tn (WC.ret (WQ.tn_ret (WQ.ret2 rfl rfl rfl ?_))))))))
    exact ⟨rfl, H⟩
  simp only [bsimp] at h0
  exfalso; apply hg; refine ⟨⟨by omega, by omega⟩, ⟨by omega, by omega⟩, ⟨by omega, by omega⟩⟩ --stop
end Go.Proofs.Ytcmolgiccccnoaa
