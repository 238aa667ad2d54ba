/- The walks of functions: what each comes to. -/
import Derived.Test.YtodappgiadelaaaDoorXt
import Derived.Test.YtodappgiadelaaaDoorTell
import Derived.Test.YtodappgiadelaaaDoorProg
set_option linter.unusedVariables false
set_option linter.unusedSimpArgs false
namespace Go.Proofs.YtodappgiadelaaaDoor
open Go.RowKit Go.BK
theorem cl12 : callB Tryd.prog 12 = true := by kernel_rfl
theorem cl13 : callB Tryd.prog 13 = true := by kernel_rfl
theorem cl14 : callB Tryd.prog 14 = true := by kernel_rfl
theorem fa41_0 : fldB Tryd.prog 41 0 0 = true := by kernel_rfl
theorem fa41_1 : fldB Tryd.prog 41 1 1 = true := by kernel_rfl
theorem fa41_2 : fldB Tryd.prog 41 2 7 = true := by kernel_rfl
def anM : Bs := ([71, 69, 84] : Bs)
def anD : Bs := ([72, 84, 84, 80, 47, 49, 46, 49, 32, 49, 48, 48, 32, 13, 10, 13, 10, 72, 84, 84, 80, 47, 49, 46, 49, 32, 50, 48, 48, 32, 79, 75, 13, 10, 67, 111, 110, 116, 101, 110, 116, 45, 76, 101, 110, 103, 116, 104, 58, 32, 51, 13, 10, 13, 10, 97, 98] : Bs)
def anR : Rdr := feedR (Rdr.new anM) anD
theorem an_ok : OkR anR := feedR_ok OkR.new (by unfold Sml; decide)
theorem an_ok1 : OkR (nextR anR).1 := (keeps_next an_ok).ok
theorem an_q : anR.dec.isSome = (none : Option (Nat × Option Addr × Nat)).isSome := rfl
set_option maxRecDepth 20000 in
set_option maxHeartbeats 2000000 in
theorem lw_anchor (w : World) :
    Calls Tryd.prog 8 #[] w fun e w' => e = .returned (.bool true) ∧ St w No w' [] := by
  refine calls_of Tryd.func8 rfl Tryd.ntmps8 (by rfl) (K0 := []) trivial ?_
  have H := St.init w
  refine WC.seq (WC.reg (WL.v (Ev.assign rfl) rfl (WL.nil (WQ.tn (WC.seq (WC.reg (WL.call (vs := [_]) rfl cl12 rfl (rd_New anM _) ?_)))))))
  rintro _ w1 ⟨R, rfl, H1⟩
  replace H := H.app H1
  refine ⟨_, rfl, ?_⟩
  refine WL.v (Ev.assign rfl) rfl (WL.nil (WQ.tn (WC.seq (WC.seq (WC.reg (WL.v (Ev.move rfl) rfl (WL.v (Ev.eqnil Tryd.underlying34 rfl rfl) rfl (WL.nil (WQ.tn (WC.cond rfl (fun h0 => ?_) (fun h0 => ?_)))))))))))
  · exfalso; simp at h0
  clear h0
  refine WC.skip (WQ.tn (WC.seq (WC.reg (WL.v (Ev.move rfl) rfl (WL.call (vs := [_, _]) rfl cl13 rfl (rd_Feed (Rdr.new anM) anD (by decide) R none _ H.local1) ?_)))))
  rintro _ w1 ⟨rfl, H1⟩
  replace H := H.frame1 H1
  replace H : St w No _ (rdrS R anR none) := H
  refine ⟨_, rfl, ?_⟩
  refine WL.nil (WQ.tn (WC.seq (WC.reg (WL.v (Ev.move rfl) rfl (WL.call (vs := [_]) rfl cl14 rfl (rd_Next (anR) an_ok R none an_q _ H.local) ?_)))))
  rintro _ w1 ⟨A, c, q1, rfl, hq1, H1⟩
  replace H := H.join H1
  refine ⟨_, rfl, ?_⟩
  refine WL.v (Ev.move rfl) rfl (WL.v (Ev.extract rfl rfl) rfl (WL.v (Ev.extract rfl rfl) rfl (WL.v (Ev.extract rfl rfl) rfl (WL.alloc z41 rfl H rfl fun b2 w1 hb2 H L => (WL.store (i := 0) (vs := [_, _, _, _, _, _, _, _]) rfl rfl rfl sz41 rfl H rfl rfl fun w1 H L => (WL.v (Ev.assign rfl) rfl (WL.v (Ev.assign rfl) rfl (WL.nil (WQ.tn (WC.seq (WC.reg (WL.v (Ev.move rfl) rfl ?_))))))))))))
  have HV := H.perm (List.perm_append_comm (l₁ := rdrS R ((nextR anR).1) q1) (l₂ := [_, _]))
  refine WL.call (vs := [_]) rfl cl14 rfl (rd_Next ((nextR anR).1) an_ok1 R q1 hq1 _ (HV.sub (List.sublist_append_left _ _)).local) ?_
  rintro _ w1 ⟨A2, c2, q2, rfl, hq2, H1⟩
  replace H := (HV.frame H1).perm (List.perm_append_comm (l₁ := [_, _]) (l₂ := rdRow A2 c2 (nextR ((nextR anR).1)).2.1.fs :: rdrS R (nextR ((nextR anR).1)).1 q2))
  refine ⟨_, rfl, ?_⟩
  refine WL.v (Ev.move rfl) rfl (WL.v (Ev.extract rfl rfl) rfl (WL.v (Ev.extract rfl rfl) rfl (WL.v (Ev.extract rfl rfl) rfl (WL.alloc z41 rfl H rfl fun b5 w1 hb5 H L => (WL.store (i := 0) (vs := [_, _, _, _, _, _, _, _]) rfl rfl rfl sz41 rfl H rfl rfl fun w1 H L => (WL.v (Ev.assign rfl) rfl (WL.v (Ev.assign rfl) rfl (WL.nil (WQ.tn (WC.seq (WC.reg (WL.v (Ev.move rfl) rfl (WL.v (Ev.move rfl) rfl (WL.g (Met.yes rfl rfl) (fun hg => Ev.move rfl) rfl (WL.v (Ev.and rfl rfl rfl) rfl (WL.v (Ev.move rfl) rfl (WL.g (Met.yes rfl rfl) (fun hg => Ev.move rfl) rfl (WL.g (Met.yes rfl rfl) (fun hg => Ev.eqi ((evG.un rfl).ev hg) rfl) rfl (WL.v (Ev.and rfl rfl rfl) rfl (WL.v (Ev.move rfl) rfl (WL.g (Met.yes rfl rfl) (fun hg => Ev.move rfl) rfl (WL.g (Met.yes rfl rfl) (fun hg => Ev.eqi ((evG.un rfl).ev hg) rfl) rfl (WL.v (Ev.and rfl rfl rfl) rfl (WL.v (Ev.move rfl) rfl (WL.g (Met.yes rfl rfl) (fun hg => Ev.fieldAddr fa41_0 rfl) rfl (WL.g (Met.yes rfl rfl) (fun hg => Ev.load fl3 ((evG.un rfl).ev hg) (H.cell 1 rfl rfl)) rfl (WL.g (Met.yes rfl rfl) (fun hg => Ev.eqi ((evG.un rfl).ev hg) rfl) rfl (WL.v (Ev.and rfl rfl rfl) rfl (WL.v (Ev.move rfl) rfl (WL.g (Met.yes rfl rfl) (fun hg => Ev.fieldAddr fa41_1 rfl) rfl (WL.g (Met.yes rfl rfl) (fun hg => Ev.fieldAddr fa39_2 ((evG.un rfl).ev hg)) rfl (WL.g (Met.yes rfl rfl) (fun hg => Ev.load fl3 ((evG.un rfl).ev hg) (H.cell 1 rfl rfl)) rfl (WL.g (Met.yes rfl rfl) (fun hg => Ev.eqi ((evG.un rfl).ev hg) rfl) rfl (WL.v (Ev.and rfl rfl rfl) rfl (WL.v (Ev.move rfl) rfl (WL.g (Met.yes rfl rfl) (fun hg => Ev.fieldAddr fa41_0 rfl) rfl (WL.g (Met.yes rfl rfl) (fun hg => Ev.load fl3 ((evG.un rfl).ev hg) (H.cell 0 rfl rfl)) rfl (WL.g (Met.yes rfl rfl) (fun hg => Ev.eqi ((evG.un rfl).ev hg) rfl) rfl (WL.v (Ev.and rfl rfl rfl) rfl (WL.v (Ev.move rfl) rfl (WL.g (Met.yes rfl rfl) (fun hg => Ev.fieldAddr fa41_2 rfl) rfl (WL.g (Met.yes rfl rfl) (fun hg => Ev.load fl9 ((evG.un rfl).ev hg) (H.cell 0 rfl rfl)) rfl (WL.g (Met.yes rfl rfl) (fun hg => Ev.eqs ((evG.un rfl).ev hg) rfl) rfl (WL.v (Ev.and rfl rfl rfl) rfl (WL.v (Ev.assign rfl) rfl (WL.nil ?_))))))))))))))))))))))))))))))))))))))))))))))
  refine WQ.tn (WC.ret (WQ.ret1 rfl rfl (⟨?_, H.done⟩)))
  congr 2
end Go.Proofs.YtodappgiadelaaaDoor
