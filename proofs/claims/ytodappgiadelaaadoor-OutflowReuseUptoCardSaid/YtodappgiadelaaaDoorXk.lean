/- The walks of functions: what each comes to. -/
import Derived.Test.YtodappgiadelaaaDoorXj
import Derived.Test.YtodappgiadelaaaDoorRdr
import Derived.Test.YtodappgiadelaaaDoorProg
set_option linter.unusedVariables false
set_option linter.unusedSimpArgs false
namespace Go.Proofs.YtodappgiadelaaaDoor
open Go.RowKit Go.BK
theorem cl31 : callB Tryd.prog 31 = true := by kernel_rfl
theorem cl30 : callB Tryd.prog 30 = true := by kernel_rfl
theorem resp_eq (data : Bs) : rdRes statP false data = respR data := rfl
theorem hd_Response (data : Bs) (hs : Sml data.length) (w : World) :
    Calls Tryd.prog 22 #[str data] w fun e w' => RdP w w' (respR data) e := by
  refine calls_of Tryd.func22 rfl Tryd.ntmps22 (by rfl) (K0 := [(0, _)]) ⟨rfl, trivial⟩ ?_
  have H := St.init w
  refine WC.seq (WC.reg (WL.alloc z39 rfl H rfl fun b1 w1 hb1 H L => (WL.v (Ev.assign rfl) rfl (WL.v (Ev.assign rfl) rfl (WL.nil (WQ.tn (WC.seq (WC.reg (WL.v (Ev.move rfl) rfl (WL.call (vs := [_, _, _]) rfl cl30 rfl (hd_read statP false 31 cl31 (fun l w hl => hd_status l hl w) data hs _) ?_))))))))))
  rintro _ w1 ⟨A, c, rfl, H1⟩
  replace H := H.app H1
  refine ⟨_, rfl, ?_⟩
  refine WL.v (Ev.extract rfl rfl) rfl (WL.v (Ev.extract rfl rfl) rfl (WL.v (Ev.extract rfl rfl) rfl (WL.store (i := 1) (vs := [_, _, _, _, _, _]) rfl rfl rfl sz39 rfl H rfl rfl fun w1 H L => (WL.v (Ev.assign rfl) rfl (WL.v (Ev.assign rfl) rfl (WL.nil (WQ.tn (WC.ret (WQ.retC3 (vs := [_, _, _, _, _, _]) rfl rfl rfl rfl ag39 sz39 (H.cells 1 rfl rfl) ?_)))))))))
  rw [← resp_eq]
  exact ⟨A, c, rfl, H.sub (List.Sublist.cons_cons _ (List.Sublist.cons _ (List.nil_sublist _)))⟩
end Go.Proofs.YtodappgiadelaaaDoor
