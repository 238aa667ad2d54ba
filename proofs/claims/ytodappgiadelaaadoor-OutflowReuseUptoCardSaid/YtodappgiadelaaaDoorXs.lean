/- The walks of functions: what each comes to. -/
import Derived.Test.YtodappgiadelaaaDoorXr
import Derived.Test.YtodappgiadelaaaDoorTree
import Derived.Test.YtodappgiadelaaaDoorProg
set_option linter.unusedVariables false
set_option linter.unusedSimpArgs false
namespace Go.Proofs.YtodappgiadelaaaDoor
open Go.RowKit Go.BK
theorem cl22 : callB Tryd.prog 22 = true := by kernel_rfl
theorem fa54_0 : fldB Tryd.prog 54 0 0 = true := by kernel_rfl
theorem cl23 : callB Tryd.prog 23 = true := by kernel_rfl
theorem cl24 : callB Tryd.prog 24 = true := by kernel_rfl
theorem fa54_4 : fldB Tryd.prog 54 4 4 = true := by kernel_rfl
theorem fa54_6 : fldB Tryd.prog 54 6 6 = true := by kernel_rfl
theorem fa54_5 : fldB Tryd.prog 54 5 5 = true := by kernel_rfl
theorem fa51_0 : fldB Tryd.prog 51 0 0 = true := by kernel_rfl
theorem fa51_1 : fldB Tryd.prog 51 1 1 = true := by kernel_rfl
theorem fa54_3 : fldB Tryd.prog 54 3 3 = true := by kernel_rfl
theorem sz49 : szOk Tryd.prog 49 1 := by unfold szOk; kernel_rfl
theorem cl26 : callB Tryd.prog 26 = true := by kernel_rfl
theorem sz52 : szOk Tryd.prog 52 1 := by unfold szOk; kernel_rfl
def decPt : Option (Nat × Option Addr × Nat) → Option Addr | none => none | some x => atB x.1
def decH (d : Option Dec) : Option (Nat × Option Addr × Nat) → Held | none => [] | some x => decS x.1 (d.getD (Dec.new 0)) x.2.1 x.2.2
@[reducible] def rdrS (R : Nat) (r : Rdr) (q : Option (Nat × Option Addr × Nat)) : Held := rdrC R r (decPt q) :: decH r.dec q
theorem resp_err {bf : Bs} (h : rdE (respR bf) ≠ 0 ∨ rdN (respR bf) = 0) : respR bf = .error (rdE (respR bf)) := by
  rcases hr : respR bf with e | ⟨h9, fs, n⟩
  · rfl
  · rw [hr] at h
    have := (hdR_got hr).2.2.1
    rcases h with h | h
    · exact absurd rfl h
    · simp only [rdN] at h; omega
theorem resp_ok {bf : Bs} (h : rdE (respR bf) = 0 ∧ rdN (respR bf) ≠ 0) : ∃ h9 fs n, respR bf = .ok (h9, fs, n) := by
  rcases hr : respR bf with e | ⟨h9, fs, n⟩
  · rw [hr] at h
    exact absurd rfl h.2
  · exact ⟨_, _, _, rfl⟩
theorem okh_of {fs : List Fld} (h1 : Shf fs) (h2 : fs.length ≤ 32) : Okh fs := ⟨by omega, fun f hf => by have := h1 f hf; omega⟩
set_option maxRecDepth 20000 in
set_option maxHeartbeats 2000000 in
theorem rd_start (r : Rdr) (hsm0 : Sml r.buf.length) (hdn : r.dec = none) (R : Nat) (w : World) (H : St w (Bk [rdrC R r none]) w [rdrC R r none]) :
    Calls Tryd.prog 21 #[.pointer (some ⟨R, 0, none⟩)] w fun e w' => ∃ A c q', e = .returned (roV (startP (r.buf.length + 1) r).2 A c) ∧ (startP (r.buf.length + 1) r).1.dec.isSome = q'.isSome ∧ St w (Bk [rdrC R r none]) w' (rdRow A c (startP (r.buf.length + 1) r).2.1.fs :: rdrS R (startP (r.buf.length + 1) r).1 q') := by
  have hds : r.dec.isSome = (none : Option (Nat × Option Addr × Nat)).isSome := by rw [hdn]; rfl
  refine calls_of Tryd.func21 rfl Tryd.ntmps21 (by rfl) (K0 := [(0, _)]) ⟨rfl, trivial⟩ (WC.seq (WC.reg (WL.alloc z41 rfl H rfl fun b1 w1 hb1 H L => (WL.v (Ev.assign rfl) rfl (WL.v (Ev.assign rfl) rfl (WL.nil (WQ.tn (WC.block (WC.loop (γ := Nat × Bs) (fun ⟨k9, bf⟩ => [(0, .pointer (some ⟨R, 0, none⟩)), (2, .pointer (some ⟨b1, 0, none⟩))]) (fun ⟨k9, bf⟩ w1 => Sml bf.length ∧ bf.length < k9 ∧ startP (r.buf.length + 1) r = startP k9 { r with buf := bf } ∧ St w (Bk [rdrC R r none]) w1 [.blk b1 (pcL Pc.zero none 0) 41 (0, 0), rdrC R { r with buf := bf } none]) (fun ⟨k9, bf⟩ => bf.length) (r.buf.length + 1, r.buf) (⟨hsm0, Nat.lt_succ_self _, rfl, H⟩) ⟨rfl, rfl, trivial⟩ ?_)))))))))
  rintro ⟨k9, bf⟩ w1 ⟨hsm, hk9, hI, H⟩
  refine WC.block (WC.seq (WC.reg (WL.v (Ev.move rfl) rfl (WL.v (Ev.nilCheck rfl) rfl (WL.v (Ev.fieldAddr fa54_1 rfl) rfl (WL.v (Ev.load fl9 rfl (H.cell 1 rfl rfl)) rfl (WL.call (vs := [_]) rfl cl22 rfl (hd_Response bf hsm _) ?_)))))))
  rintro _ w1 ⟨A, c, rfl, H1⟩
  replace H := H.app H1
  refine ⟨_, rfl, ?_⟩
  refine WL.v (Ev.move rfl) rfl (WL.v (Ev.extract rfl rfl) rfl (WL.v (Ev.extract rfl rfl) rfl (WL.v (Ev.extract rfl rfl) rfl (WL.alloc z39 rfl H rfl fun b2 w1 hb2 H L => (WL.store (i := 0) (vs := [_, _, _, _, _, _]) rfl rfl rfl sz39 rfl H rfl rfl fun w1 H L => (WL.v (Ev.assign rfl) rfl (WL.v (Ev.assign rfl) rfl (WL.nil (WQ.tn (WC.seq (WC.seq (WC.reg (WL.v (Ev.move rfl) rfl (WL.v (Ev.nei rfl rfl) rfl (WL.v (Ev.move rfl) rfl (WL.g (Met.no rfl rfl) (fun hg => Ev.move rfl) rfl (WL.g (Met.no rfl rfl) (fun hg => Ev.eqN (b := 0) ((evG.un rfl).ev hg) rfl) rfl (WL.v (Ev.or rfl rfl rfl) rfl (WL.nil ?_)))))))))))))))))))
  refine WQ.tn (WC.cond rfl (fun h1 => ?_) (fun h1 => ?_))
  · have he := resp_err (bf := bf) (by simpa using h1)
    refine WC.seq (WC.reg (WL.v (Ev.build (vs := [_, _, _, _, _, _, _, _]) (ps := []) pl41 z41 rfl rfl) rfl (WL.v (Ev.move rfl) rfl (WL.store (i := 2) (vs := [_, _, _, _, _, _, _, _]) rfl rfl rfl sz41 rfl H rfl rfl fun w1 H L => (WL.v (Ev.assign rfl) rfl (WL.v (Ev.assign rfl) rfl (WL.nil (WQ.tn (WC.ret (WQ.tn_ret (WQ.blk_ret (WQ.loop_ret (WQ.blk_ret (WQ.retC3 (vs := [_, _, _, _, _, _, _, _]) rfl rfl rfl rfl ag41 sz41 (H.cells 2 rfl rfl) ?_))))))))))))))
    rw [hI, show k9 = k9 - 1 + 1 by omega, startP_err (r := { r with buf := bf }) he]
    exact ⟨none, 0, none, rfl, hds, (H.sub (List.Sublist.cons _ (List.Sublist.cons _ (List.Sublist.cons _ (List.Sublist.cons_cons _ (List.nil_sublist _)))))).nilrow _ _⟩
  have hok := h1
  simp only [bsimp] at hok
  obtain ⟨h9, fs, n, hr⟩ := resp_ok (bf := bf) hok
  obtain ⟨hsh, hct, hn4, hnb⟩ := hdR_got hr
  have hokh := okh_of hsh hct
  rw [hr] at H ⊢
  have hrx := h1
  clear hrx
  refine WC.skip (WQ.tn (WC.cut (γ := Nat) (fun b3 => [(0, .pointer (some ⟨R, 0, none⟩)), (2, .pointer (some ⟨b1, 0, none⟩)), (5, .pointer (some ⟨b2, 0, none⟩)), (6, .int .i64 (n : Nat)), (7, .int .i64 (frR r.meth h9 fs).2), (8, .pointer (some ⟨b3, 0, none⟩))]) (fun b3 w1 => St w (Bk [rdrC R r none]) w1 [.blk b3 [.int .i64 (frR r.meth h9 fs).1.1, .int .i64 (frR r.meth h9 fs).1.2] 51 (0, 0), hdC b2 h9 A fs.length c, rdRow A c fs, .blk b1 (pcL Pc.zero none 0) 41 (0, 0), rdrC R { r with buf := bf } none]) ?_ ?_))
  · refine WC.drawTree mixed (No) 12 (.sil 0 (.sil 1 (.sil 2 (.sil 3 (.sil 4 (.two 5 (.lin [(false, 6), (false, 7), (false, 8), (true, 9), (true, 10), (false, 11)]) 9 (.lin [(true, 5), (false, 6), (false, 7), (false, 8), (true, 10), (false, 11)]))))))) (by kernel_rfl) ?_
    intro w1 L
    replace H := H.ext L
    have hK := Gr.refl (No) w1
    have HD := H
    refine WT.v rfl (fun w2 hC => Ev.move rfl) rfl (WT.v rfl (fun w2 hC => Ev.nilCheck rfl) rfl (WT.v rfl (fun w2 hC => Ev.fieldAddr fa54_0 rfl) rfl (WT.v rfl (fun w2 hC => Ev.load fl9 rfl (Gr.cell hC (fun h => h) (HD.cell 3 rfl rfl))) rfl (WT.v rfl (fun w2 hC => Ev.loadA (vs := [_, _, _, _, _, _]) ag39 sz39 rfl (Gr.cells hC (fun h => h) (HD.cells 0 rfl rfl))) rfl (WT.two rfl rfl rfl rfl ?_ ?_)))))
    · refine WL.callS (vs := [_, _]) rfl cl23 rfl H (fr_Response r.meth h9 A c fs _ hokh _ (H.rdC kFd 1 rfl)) fun w1 H L => ?_
      replace hK := hK.ext L
      refine WL.nil (WQ.backT hK (WT.lin (WX.v rfl (fun w2 hC => Ev.move rfl) rfl (WX.v rfl (fun w2 hC => Ev.extract rfl rfl) rfl (WX.v rfl (fun w2 hC => Ev.extract rfl rfl) rfl (WX.loud rfl rfl (WL.alloc z51 rfl H rfl fun b3 w1 hb3 H L => ?_)))))))
      have hsz3 := hK.size
      replace hK := hK.ext L
      refine WL.nil (WQ.back (fun _ => hK) (WX.loud rfl rfl (WL.store (i := 0) (vs := [_, _]) rfl rfl rfl sz51 rfl H rfl rfl fun w1 H L => ?_)))
      replace hK := hK.trans' L (fun i hi hb => absurd (show i = b3 from hb) (by omega))
      refine WL.nil (WQ.back (fun _ => hK) (WX.v rfl (fun w2 hC => Ev.assign rfl) rfl (WX.nil ?_)))
      exact WQ.meet (b3) (H) ⟨rfl, rfl, rfl, rfl, rfl, rfl, trivial⟩
    refine WL.alloc z51 rfl H rfl fun b3 w1 hb3 H L => ?_
    have hsz3 := hK.size
    replace hK := hK.ext L
    refine WL.nil (WQ.backT hK (WT.lin (WX.loud rfl rfl (WL.callS (vs := [_, _]) rfl cl23 rfl H (fr_Response r.meth h9 A c fs _ hokh _ (H.rdC kFd 2 rfl)) fun w1 H L => ?_))))
    replace hK := hK.ext L
    refine WL.nil (WQ.back (fun _ => hK) (WX.v rfl (fun w2 hC => Ev.move rfl) rfl (WX.v rfl (fun w2 hC => Ev.extract rfl rfl) rfl (WX.v rfl (fun w2 hC => Ev.extract rfl rfl) rfl (WX.loud rfl rfl (WL.store (i := 0) (vs := [_, _]) rfl rfl rfl sz51 rfl H rfl rfl fun w1 H L => ?_))))))
    replace hK := hK.trans' L (fun i hi hb => absurd (show i = b3 from hb) (by omega))
    refine WL.nil (WQ.back (fun _ => hK) (WX.v rfl (fun w2 hC => Ev.assign rfl) rfl (WX.nil ?_)))
    exact WQ.meet (b3) (H) ⟨rfl, rfl, rfl, rfl, rfl, rfl, trivial⟩
  · rintro b3 w1 H
    refine WC.seq (WC.seq (WC.reg (WL.v (Ev.move rfl) rfl (WL.v (Ev.nei rfl rfl) rfl (WL.nil (WQ.tn (WC.cond rfl (fun h2 => ?_) (fun h2 => ?_))))))))
    · have h2 : (frR r.meth h9 fs).2 ≠ 0 := by simpa using h2
      refine WC.seq (WC.reg (WL.v (Ev.build (vs := [_, _, _, _, _, _, _, _]) (ps := []) pl41 z41 rfl rfl) rfl (WL.v (Ev.move rfl) rfl (WL.store (i := 3) (vs := [_, _, _, _, _, _, _, _]) rfl rfl rfl sz41 rfl H rfl rfl fun w1 H L => (WL.v (Ev.assign rfl) rfl (WL.v (Ev.assign rfl) rfl (WL.nil (WQ.tn (WC.ret (WQ.tn_ret (WQ.blk_ret (WQ.loop_ret (WQ.blk_ret (WQ.retC3 (vs := [_, _, _, _, _, _, _, _]) rfl rfl rfl rfl ag41 sz41 (H.cells 3 rfl rfl) ?_))))))))))))))
      rw [hI, show k9 = k9 - 1 + 1 by omega, startP_bad (r := { r with buf := bf }) hr h2]
      exact ⟨none, 0, none, rfl, hds, (H.sub (List.Sublist.cons _ (List.Sublist.cons _ (List.Sublist.cons _ (List.Sublist.cons _ (List.Sublist.cons_cons _ (List.nil_sublist _))))))).nilrow _ _⟩
    have h2 : (frR r.meth h9 fs).2 = 0 := by simpa using h2
    refine WC.skip (WQ.tn (WC.seq (WC.reg (WL.v (Ev.move rfl) rfl (WL.v (Ev.move rfl) rfl (WL.v (Ev.nilCheck rfl) rfl (WL.v (Ev.fieldAddr fa54_1 rfl) rfl (WL.v (Ev.load fl9 rfl (H.cell 4 rfl rfl)) rfl (WL.v (Ev.move rfl) rfl (WL.v (Ev.tail Tryd.underlying9 rfl rfl (by show n ≤ bf.length; omega)) rfl (WL.v (Ev.nilCheck rfl) rfl (WL.v (Ev.fieldAddr fa54_1 rfl) rfl (WL.store (i := 4) (vs := [_]) rfl rfl rfl sz9 rfl H rfl rfl fun w1 H L => (WL.nil (WQ.tn (WC.seq (WC.seq (WC.reg (WL.v (Ev.fieldAddr fa39_2 rfl) rfl (WL.v (Ev.load fl3 rfl (H.cell 1 rfl rfl)) rfl (WL.v (Ev.lss rfl rfl) rfl (WL.v (Ev.move rfl) rfl (WL.g (Met.yes rfl rfl) (fun hg => Ev.fieldAddr fa39_2 rfl) rfl (WL.g (Met.yes rfl rfl) (fun hg => Ev.load fl3 ((evG.un rfl).ev hg) (H.cell 1 rfl rfl)) rfl (WL.g (Met.yes rfl rfl) (fun hg => Ev.nei ((evG.un rfl).ev hg) rfl) rfl (WL.v (Ev.and rfl rfl rfl) rfl (WL.nil ?_)))))))))))))))))))))))))))
    refine WQ.tn (WC.cond rfl (fun h3 => ?_) (fun h3 => ?_))
    · have h3 : h9.status < 200 ∧ h9.status ≠ 101 := by simpa using h3
      refine WC.exit (WQ.tn_exit (WQ.blk_here rfl ?_))
      exact WQ.again ((k9 - 1, bf.drop n)) (⟨hsm.mono (by rw [List.length_drop]; omega), by rw [List.length_drop]; omega, by rw [hI, show k9 = k9 - 1 + 1 by omega, startP_on (r := { r with buf := bf }) hr h2 h3]; rfl, H.sub (List.Sublist.cons _ (List.Sublist.cons _ (List.Sublist.cons _ (List.Sublist.cons_cons _ (List.Sublist.cons_cons _ (List.nil_sublist _))))))⟩) ⟨rfl, rfl, trivial⟩ (by show (bf.drop n).length < bf.length; rw [List.length_drop]; omega)
    have h3 : ¬ (h9.status < 200 ∧ h9.status ≠ 101) := fun h8 => by
      have h7 := h3
      rw [Bool.eq_false_iff] at h7
      apply h7
      simpa using h8
    refine WC.skip (WQ.tn (WC.seq (WC.drawT mixed (fun k => k = R) 14 [(false, 0), (false, 1), (false, 2), (false, 3), (false, 4), (true, 5), (false, 6), (false, 7), (true, 8), (false, 9), (false, 10), (true, 11), (false, 12), (false, 13), (true, 14)] (by kernel_rfl) ?_)))
    intro w1 L
    replace H := H.ext L
    have hK := Gr.refl (fun k => k = R) w1
    have HD := H
    refine WX.v rfl (fun w2 hC => Ev.move rfl) rfl (WX.v rfl (fun w2 hC => Ev.move rfl) rfl (WX.v rfl (fun w2 hC => Ev.move rfl) rfl (WX.v rfl (fun w2 hC => Ev.loadA (vs := [_, _]) ag51 sz51 rfl (Gr.cells hC (HD.ne 0 4 rfl rfl rfl) (HD.cells 0 rfl rfl))) rfl (WX.v rfl (fun w2 hC => Ev.loadA (vs := [_, _, _, _, _, _]) ag39 sz39 rfl (Gr.cells hC (HD.ne 1 4 rfl rfl rfl) (HD.cells 1 rfl rfl))) rfl (WX.loud rfl rfl (WL.callS (vs := [_]) rfl cl24 rfl H (fr_Keep h9 A c fs _ hokh _ (H.rdC kFd 2 rfl)) fun w1 H L => ?_))))))
    replace hK := hK.ext L
    refine WL.nil (WQ.back (fun _ => hK) (WX.v rfl (fun w2 hC => Ev.nilCheck rfl) rfl (WX.v rfl (fun w2 hC => Ev.fieldAddr fa54_4 rfl) rfl (WX.loud rfl rfl (WL.store (i := 4) (vs := [_]) rfl rfl rfl sz4 rfl H rfl rfl fun w1 H L => ?_)))))
    replace hK := hK.trans L
    refine WL.nil (WQ.back (fun _ => hK) (WX.v rfl (fun w2 hC => Ev.nilCheck rfl) rfl (WX.v rfl (fun w2 hC => Ev.fieldAddr fa54_6 rfl) rfl (WX.loud rfl rfl (WL.store (i := 4) (vs := [_, _]) rfl rfl rfl sz51 rfl H rfl rfl fun w1 H L => ?_)))))
    replace hK := hK.trans L
    refine WL.nil (WQ.back (fun _ => hK) (WX.v rfl (fun w2 hC => Ev.nilCheck rfl) rfl (WX.v rfl (fun w2 hC => Ev.fieldAddr fa54_5 rfl) rfl (WX.loud rfl rfl (WL.store (i := 4) (vs := [_]) rfl rfl rfl sz4 rfl H rfl rfl fun w1 H L => (WL.nil (WQ.back (fun h => absurd rfl h) (WX.nil (WQ.tn (WC.seq (WC.seq (WC.reg (WL.v (Ev.fieldAddr fa51_0 rfl) rfl (WL.v (Ev.load fl3 rfl (H.cell 0 rfl rfl)) rfl (WL.nil (WQ.tn (WC.block (WC.seq (WC.reg (WL.v (Ev.eqi rfl rfl) rfl (WL.v (Ev.assign rfl) rfl (WL.nil (WQ.tn (WC.cond rfl (fun h4 => ?_) (fun h4 => ?_)))))))))))))))))))))))))
    · have h4 : (frR r.meth h9 fs).1.1 = 2 := by simpa using h4
      have hlt := Int.toNat_of_nonneg (frR_len r.meth h9 fs).1
      replace H := H.cast0 (b := .blk b3 [.int .i64 (frR r.meth h9 fs).1.1, .int .i64 (((frR r.meth h9 fs).1.2.toNat : Nat) : Int)] 51 (0, 0)) (by rw [hlt])
      refine WC.reg (WL.v (Ev.move rfl) rfl (WL.v (Ev.move rfl) rfl (WL.v (Ev.fieldAddr fa51_1 rfl) rfl (WL.v (Ev.load fl3 rfl (H.cell 0 rfl rfl)) rfl (WL.v (Ev.nilCheck rfl) rfl (WL.v (Ev.fieldAddr fa54_7 rfl) rfl (WL.store (i := 4) (vs := [_]) rfl rfl rfl sz3 rfl H rfl rfl fun w1 H L => (WL.v (Ev.nilCheck rfl) rfl (WL.v (Ev.fieldAddr fa54_3 rfl) rfl (WL.store (i := 4) (vs := [_]) rfl rfl rfl sz49 rfl H rfl rfl fun w1 H L => (WL.nil (WQ.blk (WQ.tn (WC.seq (WC.reg (WL.v (Ev.loadA (vs := [_, _, _, _, _, _]) ag39 sz39 rfl (H.cells 1 rfl rfl)) rfl (WL.v (Ev.build (vs := [_, _, _, _, _, _, _, _]) (ps := [(_, _), (_, _)]) pl41 z41 rfl rfl) rfl (WL.store (i := 3) (vs := [_, _, _, _, _, _, _, _]) rfl rfl rfl sz41 rfl H rfl rfl fun w1 H L => (WL.v (Ev.assign rfl) rfl (WL.v (Ev.assign rfl) rfl (WL.nil ?_)))))))))))))))))))))
      refine WQ.tn (WC.ret (WQ.blk_ret (WQ.loop_ret (WQ.blk_ret (WQ.retC3 (vs := [_, _, _, _, _, _, _, _]) rfl rfl rfl rfl ag41 sz41 (H.cells 3 rfl rfl) ?_)))))
      rw [hI, show k9 = k9 - 1 + 1 by omega, startP_go (r := { r with buf := bf }) hr h2 h3, begun_2 (r := { r with buf := bf }) h4]
      exact ⟨A, c, none, rfl, hds, H.sub (List.Sublist.cons _ (List.Sublist.cons _ (List.Sublist.cons_cons _ (List.Sublist.cons _ (List.Sublist.cons_cons _ (List.nil_sublist _))))))⟩
    have h4 : (frR r.meth h9 fs).1.1 ≠ 2 := by simpa using h4
    refine WC.seq (WC.reg (WL.v (Ev.eqi rfl rfl) rfl (WL.v (Ev.assign rfl) rfl (WL.nil (WQ.tn (WC.cond rfl (fun h5 => ?_) (fun h5 => ?_)))))))
    · have h5 : (frR r.meth h9 fs).1.1 = 3 := by simpa using h5
      refine WC.reg (WL.v (Ev.move rfl) rfl (WL.v (Ev.move rfl) rfl (WL.call (vs := [_]) rfl cl26 rfl (ck_New 1099511627776 _) ?_)))
      rintro _ w1 ⟨D, rfl, H1⟩
      replace H := H.app H1
      refine ⟨_, rfl, ?_⟩
      refine WL.v (Ev.nilCheck rfl) rfl (WL.v (Ev.fieldAddr fa54_8 rfl) rfl (WL.store (i := 6) (vs := [_]) rfl rfl rfl sz52 rfl H rfl rfl fun w1 H L => (WL.v (Ev.nilCheck rfl) rfl (WL.v (Ev.fieldAddr fa54_3 rfl) rfl (WL.store (i := 6) (vs := [_]) rfl rfl rfl sz49 rfl H rfl rfl fun w1 H L => (WL.nil (WQ.blk (WQ.tn (WC.seq (WC.reg (WL.v (Ev.loadA (vs := [_, _, _, _, _, _]) ag39 sz39 rfl (H.cells 3 rfl rfl)) rfl (WL.v (Ev.build (vs := [_, _, _, _, _, _, _, _]) (ps := [(_, _), (_, _)]) pl41 z41 rfl rfl) rfl (WL.store (i := 5) (vs := [_, _, _, _, _, _, _, _]) rfl rfl rfl sz41 rfl H rfl rfl fun w1 H L => (WL.v (Ev.assign rfl) rfl (WL.v (Ev.assign rfl) rfl (WL.nil ?_))))))))))))))))
      refine WQ.tn (WC.ret (WQ.blk_ret (WQ.loop_ret (WQ.blk_ret (WQ.retC3 (vs := [_, _, _, _, _, _, _, _]) rfl rfl rfl rfl ag41 sz41 (H.cells 5 rfl rfl) ?_)))))
      rw [hI, show k9 = k9 - 1 + 1 by omega, startP_go (r := { r with buf := bf }) hr h2 h3, begun_3 (r := { r with buf := bf }) h5]
      exact ⟨A, c, some (D, none, 0), rfl, rfl, ((H.perm (σ' := [_, _, _, _, _, _, _]) (List.perm_append_comm (l₁ := [_, _, _, _, _]) (l₂ := [_, _]))).sub (List.Sublist.cons _ (List.Sublist.cons _ (List.Sublist.cons_cons _ (List.Sublist.cons _ (List.Sublist.cons_cons _ (List.Sublist.cons_cons _ (List.Sublist.cons_cons _ (List.nil_sublist _)))))))))⟩
    have h5 : (frR r.meth h9 fs).1.1 ≠ 3 := by simpa using h5
    refine WC.seq (WC.reg (WL.v (Ev.eqi rfl rfl) rfl (WL.v (Ev.assign rfl) rfl (WL.nil (WQ.tn (WC.cond rfl (fun h6 => ?_) (fun h6 => ?_)))))))
    · have h6 : (frR r.meth h9 fs).1.1 = 4 := by simpa using h6
      refine WC.reg (WL.v (Ev.move rfl) rfl (WL.v (Ev.nilCheck rfl) rfl (WL.v (Ev.fieldAddr fa54_3 rfl) rfl (WL.store (i := 4) (vs := [_]) rfl rfl rfl sz49 rfl H rfl rfl fun w1 H L => (WL.nil (WQ.blk (WQ.tn (WC.seq (WC.reg (WL.v (Ev.loadA (vs := [_, _, _, _, _, _]) ag39 sz39 rfl (H.cells 1 rfl rfl)) rfl (WL.v (Ev.build (vs := [_, _, _, _, _, _, _, _]) (ps := [(_, _), (_, _)]) pl41 z41 rfl rfl) rfl (WL.store (i := 3) (vs := [_, _, _, _, _, _, _, _]) rfl rfl rfl sz41 rfl H rfl rfl fun w1 H L => (WL.v (Ev.assign rfl) rfl (WL.v (Ev.assign rfl) rfl (WL.nil (WQ.tn (WC.ret (WQ.blk_ret ?_))))))))))))))))))
      refine WQ.loop_ret (WQ.blk_ret (WQ.retC3 (vs := [_, _, _, _, _, _, _, _]) rfl rfl rfl rfl ag41 sz41 (H.cells 3 rfl rfl) ?_))
      rw [hI, show k9 = k9 - 1 + 1 by omega, startP_go (r := { r with buf := bf }) hr h2 h3, begun_4 (r := { r with buf := bf }) h6]
      exact ⟨A, c, none, rfl, hds, H.sub (List.Sublist.cons _ (List.Sublist.cons _ (List.Sublist.cons_cons _ (List.Sublist.cons _ (List.Sublist.cons_cons _ (List.nil_sublist _))))))⟩
    have h6 : (frR r.meth h9 fs).1.1 ≠ 4 := by simpa using h6
    refine WC.reg (WL.v (Ev.move rfl) rfl (WL.v (Ev.nilCheck rfl) rfl (WL.v (Ev.fieldAddr fa54_3 rfl) rfl (WL.store (i := 4) (vs := [_]) rfl rfl rfl sz49 rfl H rfl rfl fun w1 H L => (WL.nil (WQ.blk (WQ.tn (WC.seq (WC.reg (WL.v (Ev.loadA (vs := [_, _, _, _, _, _]) ag39 sz39 rfl (H.cells 1 rfl rfl)) rfl (WL.v (Ev.build (vs := [_, _, _, _, _, _, _, _]) (ps := [(_, _), (_, _)]) pl41 z41 rfl rfl) rfl (WL.store (i := 3) (vs := [_, _, _, _, _, _, _, _]) rfl rfl rfl sz41 rfl H rfl rfl fun w1 H L => (WL.v (Ev.assign rfl) rfl (WL.v (Ev.assign rfl) rfl (WL.nil (WQ.tn (WC.ret (WQ.blk_ret ?_))))))))))))))))))
    refine WQ.loop_ret (WQ.blk_ret (WQ.retC3 (vs := [_, _, _, _, _, _, _, _]) rfl rfl rfl rfl ag41 sz41 (H.cells 3 rfl rfl) ?_))
    rw [hI, show k9 = k9 - 1 + 1 by omega, startP_go (r := { r with buf := bf }) hr h2 h3, begun_f (r := { r with buf := bf }) h4 h5 h6]
    exact ⟨A, c, none, rfl, hds, H.sub (List.Sublist.cons _ (List.Sublist.cons _ (List.Sublist.cons_cons _ (List.Sublist.cons _ (List.Sublist.cons_cons _ (List.nil_sublist _))))))⟩
end Go.Proofs.YtodappgiadelaaaDoor
