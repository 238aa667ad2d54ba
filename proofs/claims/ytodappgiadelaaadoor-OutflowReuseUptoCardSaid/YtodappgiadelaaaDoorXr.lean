/- The walks of functions: what each comes to. -/
import Derived.Test.YtodappgiadelaaaDoorXq
import Derived.Test.YtodappgiadelaaaDoorProg
set_option linter.unusedVariables false
set_option linter.unusedSimpArgs false
namespace Go.Proofs.YtodappgiadelaaaDoor
open Go.RowKit Go.BK
theorem z41 : zOk Tryd.prog 41 (.agg #[.int .i64 0, str [], str [], .int .i64 0, str [], .int .i64 0, .slice none 0 0, str []]) := by unfold zOk; kernel_rfl
theorem fa54_10 : fldB Tryd.prog 54 10 11 = true := by kernel_rfl
theorem pl41 : plOf Tryd.prog 41 = some [(0, 1), (1, 6), (7, 1)] := by kernel_rfl
theorem sz41 : szOk Tryd.prog 41 8 := by unfold szOk; kernel_rfl
theorem ag41 : aggB Tryd.prog 41 = true := by kernel_rfl
theorem fa54_1 : fldB Tryd.prog 54 1 1 = true := by kernel_rfl
theorem fa54_7 : fldB Tryd.prog 54 7 8 = true := by kernel_rfl
theorem cl36 : callB Tryd.prog 36 = true := by kernel_rfl
theorem cl29 : callB Tryd.prog 29 = true := by kernel_rfl
theorem fa54_2 : fldB Tryd.prog 54 2 2 = true := by kernel_rfl
theorem fa54_9 : fldB Tryd.prog 54 9 10 = true := by kernel_rfl
theorem fa54_8 : fldB Tryd.prog 54 8 9 = true := by kernel_rfl
theorem fl52 : flatB Tryd.prog 52 = true := by kernel_rfl
theorem cl37 : callB Tryd.prog 37 = true := by kernel_rfl
@[reducible] def phF : Ph → Nat
  | .start => 21
  | .sized => 25
  | .chunked => 27
  | .rest => 28
  | .finish => 29
@[reducible] def rdrL (r : Rdr) (p : Option Addr) : List Value := [str r.meth, str r.buf, .bool r.closed, .func (.func (phF r.ph)) #[] #[], .bool r.head, .bool r.keep, .int .i64 r.kind, .int .i64 r.len, .int .i64 (r.left : Nat), .pointer p, .bool r.over, .bool r.ended, .int .i64 r.err]
@[reducible] def rdrC (R : Nat) (r : Rdr) (p : Option Addr) : Chunk := .blk R (rdrL r p) 54 (0, 0)
@[reducible] def pcL (x : Pc) (A : Option Addr) (c : Nat) : List Value := [.int .i64 x.kind, str x.h.meth, str x.h.target, .int .i64 x.h.status, str x.h.reason, .int .i64 x.h.minor, .slice A x.fs.length c, str x.data]
@[reducible] def roV (o : Pc × Bool × Int) (A : Option Addr) (c : Nat) : Value := .tuple #[.agg (pcL o.1 A c).toArray, .bool o.2.1, .int .i64 o.2.2]
theorem rd_finish (r : Rdr) (R : Nat) (p : Option Addr) (w : World) (H : St w (Bk [rdrC R r p]) w [rdrC R r p]) :
    Calls Tryd.prog 29 #[.pointer (some ⟨R, 0, none⟩)] w fun e w' => e = .returned (roV (finishP r).2 none 0) ∧ St w (Bk [rdrC R r p]) w' [rdrC R (finishP r).1 p] := by
  refine calls_of Tryd.func29 rfl Tryd.ntmps29 (by rfl) (K0 := [(0, _)]) ⟨rfl, trivial⟩ (WC.seq (WC.reg (WL.alloc z41 rfl H rfl fun b1 w1 hb1 H L => (WL.v (Ev.assign rfl) rfl (WL.v (Ev.assign rfl) rfl (WL.nil (WQ.tn (WC.seq (WC.reg (WL.v (Ev.move rfl) rfl (WL.v (Ev.nilCheck rfl) rfl (WL.v (Ev.fieldAddr fa54_10 rfl) rfl (WL.store (i := 1) (vs := [_]) rfl rfl rfl sz4 rfl H rfl rfl fun w1 H L => (WL.nil (WQ.tn (WC.seq (WC.reg (WL.v (Ev.build (vs := [_, _, _, _, _, _, _, _]) (ps := [(_, _)]) pl41 z41 rfl rfl) rfl (WL.store (i := 0) (vs := [_, _, _, _, _, _, _, _]) rfl rfl rfl sz41 rfl H rfl rfl fun w1 H L => (WL.v (Ev.assign rfl) rfl (WL.v (Ev.assign rfl) rfl (WL.nil ?_))))))))))))))))))))))
  refine WQ.tn (WC.ret (WQ.retC3 (vs := [_, _, _, _, _, _, _, _]) rfl rfl rfl rfl ag41 sz41 (H.cells 0 rfl rfl) ?_))
  exact ⟨rfl, H.tail⟩
theorem rd_take (r : Rdr) (n : Nat) (hn : n ≤ r.buf.length) (hsm : Sml r.buf.length) (R : Nat) (p : Option Addr) (w : World) (H : St w (Bk [rdrC R r p]) w [rdrC R r p]) :
    Calls Tryd.prog 36 #[.pointer (some ⟨R, 0, none⟩), .int .i64 (n : Nat)] w fun e w' => e = .returned (roV (takeR' r n).2 none 0) ∧ St w (Bk [rdrC R r p]) w' [rdrC R (takeR' r n).1 p] := by
  have hb9 := hsm.le
  refine calls_of Tryd.func36 rfl Tryd.ntmps36 (by rfl) (K0 := [(0, _), (1, _)]) ⟨rfl, rfl, trivial⟩ (WC.seq (WC.reg (WL.alloc z41 rfl H rfl fun b1 w1 hb1 H L => (WL.v (Ev.assign rfl) rfl (WL.v (Ev.assign rfl) rfl (WL.nil (WQ.tn (WC.seq (WC.reg (WL.v (Ev.move rfl) rfl (WL.v (Ev.nilCheck rfl) rfl (WL.v (Ev.fieldAddr fa54_1 rfl) rfl (WL.v (Ev.load fl9 rfl (H.cell 1 rfl rfl)) rfl (WL.v (Ev.move rfl) rfl (WL.v (Ev.front Tryd.underlying9 rfl rfl (by omega)) rfl (WL.v (Ev.build (vs := [_, _, _, _, _, _, _, _]) (ps := [(_, _), (_, _)]) pl41 z41 rfl rfl) rfl (WL.alloc z41 rfl H rfl fun b2 w1 hb2 H L => (WL.store (i := 0) (vs := [_, _, _, _, _, _, _, _]) rfl rfl rfl sz41 rfl H rfl rfl fun w1 H L => (WL.nil ?_)))))))))))))))))))
  refine WQ.tn (WC.seq (WC.reg (WL.v (Ev.move rfl) rfl (WL.v (Ev.move rfl) rfl (WL.v (Ev.nilCheck rfl) rfl (WL.v (Ev.fieldAddr fa54_1 rfl) rfl (WL.v (Ev.load fl9 rfl (H.cell 2 rfl rfl)) rfl (WL.v (Ev.move rfl) rfl (WL.v (Ev.tail Tryd.underlying9 rfl rfl (by omega)) rfl (WL.v (Ev.nilCheck rfl) rfl (WL.v (Ev.fieldAddr fa54_1 rfl) rfl (WL.store (i := 2) (vs := [_]) rfl rfl rfl sz9 rfl H rfl rfl fun w1 H L => (WL.nil (WQ.tn (WC.seq (WC.reg (WL.v (Ev.loadA (vs := [_, _, _, _, _, _, _, _]) ag41 sz41 rfl (H.cells 0 rfl rfl)) rfl (WL.store (i := 1) (vs := [_, _, _, _, _, _, _, _]) rfl rfl rfl sz41 rfl H rfl rfl fun w1 H L => (WL.v (Ev.assign rfl) rfl (WL.v (Ev.assign rfl) rfl (WL.nil ?_)))))))))))))))))))))
  refine WQ.tn (WC.ret (WQ.retC3 (vs := [_, _, _, _, _, _, _, _]) rfl rfl rfl rfl ag41 sz41 (H.cells 1 rfl rfl) ?_))
  exact ⟨rfl, H.sub (List.Sublist.cons _ (List.Sublist.cons _ (List.Sublist.cons_cons _ (List.nil_sublist _))))⟩
set_option maxRecDepth 20000 in
theorem rd_sized (r : Rdr) (hr : OkR r) (R : Nat) (p : Option Addr) (w : World) (H : St w (Bk [rdrC R r p]) w [rdrC R r p]) :
    Calls Tryd.prog 25 #[.pointer (some ⟨R, 0, none⟩)] w fun e w' => e = .returned (roV (sizedP r).2 none 0) ∧ St w (Bk [rdrC R r p]) w' [rdrC R (sizedP r).1 p] := by
  have hsm := hr.buf
  have hb9 := hsm.le
  have hle := hr.left
  refine calls_of Tryd.func25 rfl Tryd.ntmps25 (by rfl) (K0 := [(0, _)]) ⟨rfl, trivial⟩ (WC.seq (WC.reg (WL.alloc z41 rfl H rfl fun b1 w1 hb1 H L => (WL.v (Ev.assign rfl) rfl (WL.v (Ev.assign rfl) rfl (WL.nil (WQ.tn (WC.seq (WC.drawT mixed (No) 11 [(false, 0), (false, 1), (false, 2), (false, 3), (false, 4), (false, 5), (false, 6), (false, 7), (false, 8), (false, 9), (false, 10)] (by kernel_rfl) ?_)))))))))
  intro w1 L
  replace H := H.ext L
  refine WX.v rfl (fun w2 hC => Ev.move rfl) rfl (WX.v rfl (fun w2 hC => Ev.nilCheck rfl) rfl (WX.v rfl (fun w2 hC => Ev.fieldAddr fa54_7 rfl) rfl (WX.v rfl (fun w2 hC => Ev.load fl3 rfl (Gr.cell hC (fun h => h) (H.cell 1 rfl rfl))) rfl (WX.v rfl (fun w2 hC => Ev.move rfl) rfl (WX.v rfl (fun w2 hC => Ev.nilCheck rfl) rfl (WX.v rfl (fun w2 hC => Ev.fieldAddr fa54_1 rfl) rfl (WX.v rfl (fun w2 hC => Ev.load fl9 rfl (Gr.cell hC (fun h => h) (H.cell 1 rfl rfl))) rfl (WX.v rfl (fun w2 hC => Ev.lens Tryd.underlying9 rfl) rfl (WX.v rfl (fun w2 hC => Ev.minN rfl rfl) rfl (WX.v rfl (fun w2 hC => Ev.assign rfl) rfl (WX.nil ?_)))))))))))
  refine WQ.tn (WC.seq (WC.reg (WL.v (Ev.move rfl) rfl (WL.v (Ev.nilCheck rfl) rfl (WL.v (Ev.fieldAddr fa54_7 rfl) rfl (WL.v (Ev.load fl3 rfl (H.cell 1 rfl rfl)) rfl (WL.v (Ev.move rfl) rfl (WL.v (Ev.subN rfl rfl (by omega) (by omega)) rfl (WL.v (Ev.nilCheck rfl) rfl (WL.v (Ev.fieldAddr fa54_7 rfl) rfl (WL.store (i := 1) (vs := [_]) rfl rfl rfl sz3 rfl H rfl rfl fun w1 H L => (WL.nil (WQ.tn (WC.seq (WC.block (WC.seq (WC.reg (WL.v (Ev.move rfl) rfl (WL.v (Ev.gtrN (b := 0) rfl rfl) rfl (WL.v (Ev.assign rfl) rfl (WL.nil (WQ.tn (WC.cond rfl (fun h0 => ?_) (fun h0 => ?_))))))))))))))))))))))))
  · try simp only [bsimp] at h0
    refine WC.seq (WC.reg (WL.v (Ev.move rfl) rfl (WL.v (Ev.move rfl) rfl ?_)))
    have HV := H.perm (List.Perm.swap _ _ _)
    refine WL.call (vs := [_, _]) rfl cl36 rfl (rd_take ({ r with left := r.left - (min r.left r.buf.length) }) (min r.left r.buf.length) (Nat.min_le_right _ _) hsm R p _ HV.local1) ?_
    rintro _ w1 ⟨rfl, H1⟩
    replace H := HV.frame1 H1
    refine ⟨_, rfl, ?_⟩
    refine WL.v (Ev.extract rfl rfl) rfl (WL.v (Ev.extract rfl rfl) rfl (WL.v (Ev.extract rfl rfl) rfl (WL.store (i := 1) (vs := [_, _, _, _, _, _, _, _]) rfl rfl rfl sz41 rfl H rfl rfl fun w1 H L => (WL.v (Ev.assign rfl) rfl (WL.v (Ev.assign rfl) rfl (WL.nil (WQ.tn (WC.ret (WQ.blk_ret (WQ.tn_ret (WQ.retC3 (vs := [_, _, _, _, _, _, _, _]) rfl rfl rfl rfl ag41 sz41 (H.cells 1 rfl rfl) ?_)))))))))))
    unfold sizedP; rw [if_pos h0]; exact ⟨rfl, H.sub (List.Sublist.cons_cons _ (List.Sublist.cons _ (List.nil_sublist _)))⟩
  try simp only [bsimp] at h0
  refine WC.seq (WC.reg (WL.v (Ev.move rfl) rfl (WL.v (Ev.nilCheck rfl) rfl (WL.v (Ev.fieldAddr fa54_7 rfl) rfl (WL.v (Ev.load fl3 rfl (H.cell 1 rfl rfl)) rfl (WL.v (Ev.eqN (b := 0) rfl rfl) rfl (WL.v (Ev.assign rfl) rfl (WL.nil (WQ.tn (WC.cond rfl (fun h1 => ?_) (fun h1 => ?_)))))))))))
  · try simp only [bsimp] at h1
    refine WC.seq (WC.reg (WL.v (Ev.move rfl) rfl ?_))
    have HV := H.perm (List.Perm.swap _ _ _)
    refine WL.call (vs := [_]) rfl cl29 rfl (rd_finish ({ r with left := r.left - (min r.left r.buf.length) }) R p _ HV.local1) ?_
    rintro _ w1 ⟨rfl, H1⟩
    replace H := HV.frame1 H1
    refine ⟨_, rfl, ?_⟩
    refine WL.v (Ev.extract rfl rfl) rfl (WL.v (Ev.extract rfl rfl) rfl (WL.v (Ev.extract rfl rfl) rfl (WL.store (i := 1) (vs := [_, _, _, _, _, _, _, _]) rfl rfl rfl sz41 rfl H rfl rfl fun w1 H L => (WL.v (Ev.assign rfl) rfl (WL.v (Ev.assign rfl) rfl (WL.nil (WQ.tn (WC.ret (WQ.blk_ret (WQ.tn_ret (WQ.retC3 (vs := [_, _, _, _, _, _, _, _]) rfl rfl rfl rfl ag41 sz41 (H.cells 1 rfl rfl) ?_)))))))))))
    unfold sizedP; rw [if_neg (by omega), if_pos h1]; exact ⟨rfl, H.sub (List.Sublist.cons_cons _ (List.Sublist.cons _ (List.nil_sublist _)))⟩
  try simp only [bsimp] at h1
  refine WC.skip (WQ.blk (WQ.tn (WC.seq (WC.reg (WL.v (Ev.build (vs := [_, _, _, _, _, _, _, _]) (ps := []) pl41 z41 rfl rfl) rfl (WL.store (i := 0) (vs := [_, _, _, _, _, _, _, _]) rfl rfl rfl sz41 rfl H rfl rfl fun w1 H L => (WL.v (Ev.assign rfl) rfl (WL.v (Ev.assign rfl) rfl (WL.nil (WQ.tn (WC.ret (WQ.retC3 (vs := [_, _, _, _, _, _, _, _]) rfl rfl rfl rfl ag41 sz41 (H.cells 0 rfl rfl) ?_))))))))))))
  unfold sizedP; rw [if_neg (by omega), if_neg h1]; exact ⟨rfl, H.sub (List.Sublist.cons _ (List.Sublist.cons_cons _ (List.nil_sublist _)))⟩
set_option maxRecDepth 20000 in
theorem rd_rest (r : Rdr) (hr : OkR r) (R : Nat) (p : Option Addr) (w : World) (H : St w (Bk [rdrC R r p]) w [rdrC R r p]) :
    Calls Tryd.prog 28 #[.pointer (some ⟨R, 0, none⟩)] w fun e w' => e = .returned (roV (restP r).2 none 0) ∧ St w (Bk [rdrC R r p]) w' [rdrC R (restP r).1 p] := by
  have hsm := hr.buf
  have hb9 := hsm.le
  refine calls_of Tryd.func28 rfl Tryd.ntmps28 (by rfl) (K0 := [(0, _)]) ⟨rfl, trivial⟩ (WC.seq (WC.reg (WL.alloc z41 rfl H rfl fun b1 w1 hb1 H L => (WL.v (Ev.assign rfl) rfl (WL.v (Ev.assign rfl) rfl (WL.nil (WQ.tn (WC.seq (WC.block (WC.seq (WC.reg (WL.v (Ev.move rfl) rfl (WL.v (Ev.nilCheck rfl) rfl (WL.v (Ev.fieldAddr fa54_1 rfl) rfl (WL.v (Ev.load fl9 rfl (H.cell 1 rfl rfl)) rfl (WL.v (Ev.nes rfl rfl) rfl (WL.v (Ev.assign rfl) rfl (WL.nil (WQ.tn (WC.cond rfl (fun h0 => ?_) (fun h0 => ?_)))))))))))))))))))))
  · try simp only [bsimp] at h0
    refine WC.seq (WC.reg (WL.v (Ev.move rfl) rfl (WL.v (Ev.move rfl) rfl (WL.v (Ev.nilCheck rfl) rfl (WL.v (Ev.fieldAddr fa54_1 rfl) rfl (WL.v (Ev.load fl9 rfl (H.cell 1 rfl rfl)) rfl (WL.v (Ev.lens Tryd.underlying9 rfl) rfl ?_)))))))
    have HV := H.perm (List.Perm.swap _ _ _)
    refine WL.call (vs := [_, _]) rfl cl36 rfl (rd_take (r) r.buf.length (Nat.le_refl _) hsm R p _ HV.local1) ?_
    rintro _ w1 ⟨rfl, H1⟩
    replace H := HV.frame1 H1
    refine ⟨_, rfl, ?_⟩
    refine WL.v (Ev.extract rfl rfl) rfl (WL.v (Ev.extract rfl rfl) rfl (WL.v (Ev.extract rfl rfl) rfl (WL.store (i := 1) (vs := [_, _, _, _, _, _, _, _]) rfl rfl rfl sz41 rfl H rfl rfl fun w1 H L => (WL.v (Ev.assign rfl) rfl (WL.v (Ev.assign rfl) rfl (WL.nil (WQ.tn (WC.ret (WQ.blk_ret (WQ.tn_ret (WQ.retC3 (vs := [_, _, _, _, _, _, _, _]) rfl rfl rfl rfl ag41 sz41 (H.cells 1 rfl rfl) ?_)))))))))))
    unfold restP; rw [if_pos (by simpa using h0)]; exact ⟨rfl, H.sub (List.Sublist.cons_cons _ (List.Sublist.cons _ (List.nil_sublist _)))⟩
  have h0 : ¬ r.buf ≠ [] := by simpa using h0
  refine WC.seq (WC.reg (WL.v (Ev.move rfl) rfl (WL.v (Ev.nilCheck rfl) rfl (WL.v (Ev.fieldAddr fa54_2 rfl) rfl (WL.v (Ev.load fl4 rfl (H.cell 1 rfl rfl)) rfl (WL.v (Ev.assign rfl) rfl (WL.nil (WQ.tn (WC.cond rfl (fun h1 => ?_) (fun h1 => ?_))))))))))
  · have h1 : r.closed = true := h1
    refine WC.seq (WC.reg (WL.v (Ev.move rfl) rfl ?_))
    have HV := H.perm (List.Perm.swap _ _ _)
    refine WL.call (vs := [_]) rfl cl29 rfl (rd_finish (r) R p _ HV.local1) ?_
    rintro _ w1 ⟨rfl, H1⟩
    replace H := HV.frame1 H1
    refine ⟨_, rfl, ?_⟩
    refine WL.v (Ev.extract rfl rfl) rfl (WL.v (Ev.extract rfl rfl) rfl (WL.v (Ev.extract rfl rfl) rfl (WL.store (i := 1) (vs := [_, _, _, _, _, _, _, _]) rfl rfl rfl sz41 rfl H rfl rfl fun w1 H L => (WL.v (Ev.assign rfl) rfl (WL.v (Ev.assign rfl) rfl (WL.nil (WQ.tn (WC.ret (WQ.blk_ret (WQ.tn_ret (WQ.retC3 (vs := [_, _, _, _, _, _, _, _]) rfl rfl rfl rfl ag41 sz41 (H.cells 1 rfl rfl) ?_)))))))))))
    unfold restP; rw [if_neg h0, if_pos h1]; exact ⟨rfl, H.sub (List.Sublist.cons_cons _ (List.Sublist.cons _ (List.nil_sublist _)))⟩
  have h1 : ¬ r.closed = true := by have h9 : r.closed = false := h1; rw [h9]; simp
  refine WC.skip (WQ.blk (WQ.tn (WC.seq (WC.reg (WL.v (Ev.build (vs := [_, _, _, _, _, _, _, _]) (ps := []) pl41 z41 rfl rfl) rfl (WL.store (i := 0) (vs := [_, _, _, _, _, _, _, _]) rfl rfl rfl sz41 rfl H rfl rfl fun w1 H L => (WL.v (Ev.assign rfl) rfl (WL.v (Ev.assign rfl) rfl (WL.nil (WQ.tn (WC.ret (WQ.retC3 (vs := [_, _, _, _, _, _, _, _]) rfl rfl rfl rfl ag41 sz41 (H.cells 0 rfl rfl) ?_))))))))))))
  unfold restP; rw [if_neg h0, if_neg h1]; exact ⟨rfl, H.sub (List.Sublist.cons _ (List.Sublist.cons_cons _ (List.nil_sublist _)))⟩
set_option maxRecDepth 20000 in
set_option maxHeartbeats 2000000 in
theorem rd_chunked (r : Rdr) (d : Dec) (hr : OkR r) (hdd : r.dec = some d) (R D c : Nat) (A : Option Addr) (w : World) (H : St w (Bk (rdrC R r (atB D) :: decS D d A c)) w (rdrC R r (atB D) :: decS D d A c)) :
    Calls Tryd.prog 27 #[.pointer (some ⟨R, 0, none⟩)] w fun e w' => ∃ d' A' c', e = .returned (roV (chunkP r d).2 none 0) ∧ (chunkP r d).1.dec = some d' ∧ St w (Bk (rdrC R r (atB D) :: decS D d A c)) w' (rdrC R (chunkP r d).1 (atB D) :: decS D d' A' c') := by
  have hsm := hr.buf
  have hb9 := hsm.le
  have hn9 := feedP_n d r.buf
  refine calls_of Tryd.func27 rfl Tryd.ntmps27 (by rfl) (K0 := [(0, _)]) ⟨rfl, trivial⟩ (WC.seq (WC.reg (WL.alloc z41 rfl H rfl fun b1 w1 hb1 H L => (WL.v (Ev.assign rfl) rfl (WL.v (Ev.assign rfl) rfl (WL.nil (WQ.tn (WC.seq (WC.seq (WC.reg (WL.v (Ev.move rfl) rfl (WL.v (Ev.nilCheck rfl) rfl (WL.v (Ev.fieldAddr fa54_9 rfl) rfl (WL.v (Ev.load fl4 rfl (H.cell 1 rfl rfl)) rfl (WL.nil (WQ.tn (WC.cond rfl (fun h0 => ?_) (fun h0 => ?_))))))))))))))))))
  · have h0 : r.over = true := h0
    refine WC.seq (WC.reg (WL.v (Ev.move rfl) rfl ?_))
    have HV := H.perm (List.Perm.swap _ _ _)
    refine WL.call (vs := [_]) rfl cl29 rfl (rd_finish (r) R (atB D) _ HV.local1) ?_
    rintro _ w1 ⟨rfl, H1⟩
    replace H := HV.frame1 H1
    refine ⟨_, rfl, ?_⟩
    refine WL.v (Ev.extract rfl rfl) rfl (WL.v (Ev.extract rfl rfl) rfl (WL.v (Ev.extract rfl rfl) rfl (WL.store (i := 1) (vs := [_, _, _, _, _, _, _, _]) rfl rfl rfl sz41 rfl H rfl rfl fun w1 H L => (WL.v (Ev.assign rfl) rfl (WL.v (Ev.assign rfl) rfl (WL.nil (WQ.tn (WC.ret (WQ.tn_ret (WQ.retC3 (vs := [_, _, _, _, _, _, _, _]) rfl rfl rfl rfl ag41 sz41 (H.cells 1 rfl rfl) ?_))))))))))
    unfold chunkP; rw [if_pos h0]; exact ⟨d, A, c, rfl, hdd, H.sub (List.Sublist.cons_cons _ (List.Sublist.cons _ (List.Sublist.cons_cons _ (List.Sublist.cons_cons _ (List.nil_sublist _)))))⟩
  have h0 : ¬ r.over = true := by have h9 : r.over = false := h0; rw [h9]; simp
  refine WC.skip (WQ.tn (WC.seq (WC.drawT mixed (Bk (decS D d A c)) 18 [(false, 0), (false, 1), (false, 2), (false, 3), (false, 4), (false, 5), (false, 6), (false, 7), (true, 8), (false, 9), (false, 10), (false, 11), (false, 12), (false, 13), (false, 14), (false, 15), (false, 16), (false, 17)] (by kernel_rfl) ?_)))
  intro w1 L
  replace H := H.ext L
  replace H : St w (Bk (rdrC R r (atB D) :: decS D d A c)) _ [.blk b1 (pcL Pc.zero none 0) 41 (0, 0), rdrC R r (atB D), decC D d A c, chR A c d.line] := H
  have HV := H.perm (σ' := [decC D d A c, chR A c d.line, .blk b1 (pcL Pc.zero none 0) 41 (0, 0), rdrC R r (atB D)]) (List.perm_append_comm (l₁ := [_, _]) (l₂ := [_, _]))
  have hK := Gr.refl (Bk (decS D d A c)) w1
  have HD := H
  refine WX.v rfl (fun w2 hC => Ev.move rfl) rfl (WX.v rfl (fun w2 hC => Ev.nilCheck rfl) rfl (WX.v rfl (fun w2 hC => Ev.fieldAddr fa54_8 rfl) rfl (WX.v rfl (fun w2 hC => Ev.load fl52 rfl (Gr.cell hC (HV.bkNot (σ1 := [_, _]) (σ2 := [_, _]) (c := rdrC R r (atB D)) (by simp) (by simp [Chunk.blocks])) (HD.cell 1 rfl rfl))) rfl (WX.v rfl (fun w2 hC => Ev.move rfl) rfl (WX.v rfl (fun w2 hC => Ev.nilCheck rfl) rfl (WX.v rfl (fun w2 hC => Ev.fieldAddr fa54_1 rfl) rfl (WX.v rfl (fun w2 hC => Ev.load fl9 rfl (Gr.cell hC (HV.bkNot (σ1 := [_, _]) (σ2 := [_, _]) (c := rdrC R r (atB D)) (by simp) (by simp [Chunk.blocks])) (HD.cell 1 rfl rfl))) rfl (WX.loud rfl rfl (WL.call (vs := [_, _]) rfl cl37 rfl (ck_Feed d (hr.dec d hdd) r.buf hsm D c A _ (HV.sub (List.Sublist.cons_cons _ (List.Sublist.cons_cons _ (List.Sublist.cons _ (List.Sublist.cons _ (List.nil_sublist _)))))).local) ?_)))))))))
  rintro _ w1 ⟨A1, c1, rfl, H1⟩
  have LX := H1.gr
  replace H := St.frame (σ1 := decS D d A c) HV H1
  replace H : St w (Bk (rdrC R r (atB D) :: decS D d A c)) _ [decC D (feedP d r.buf).1 A1 c1, chR A1 c1 (feedP d r.buf).1.line, .blk b1 (pcL Pc.zero none 0) 41 (0, 0), rdrC R r (atB D)] := H
  refine ⟨_, rfl, ?_⟩
  replace hK := hK.trans LX
  refine WL.nil (WQ.back (fun _ => hK) (WX.v rfl (fun w2 hC => Ev.move rfl) rfl (WX.v rfl (fun w2 hC => Ev.extract rfl rfl) rfl (WX.v rfl (fun w2 hC => Ev.extract rfl rfl) rfl (WX.v rfl (fun w2 hC => Ev.extract rfl rfl) rfl (WX.v rfl (fun w2 hC => Ev.extract rfl rfl) rfl (WX.v rfl (fun w2 hC => Ev.assign rfl) rfl (WX.v rfl (fun w2 hC => Ev.assign rfl) rfl (WX.v rfl (fun w2 hC => Ev.assign rfl) rfl (WX.v rfl (fun w2 hC => Ev.assign rfl) rfl (WX.nil (WQ.tn (WC.seq (WC.seq (WC.reg (WL.v (Ev.move rfl) rfl (WL.v (Ev.nei rfl rfl) rfl (WL.nil (WQ.tn (WC.cond rfl (fun h1 => ?_) (fun h1 => ?_)))))))))))))))))))))
  · have h1 : (feedP d r.buf).2.2.2.2 ≠ 0 := by simpa using h1
    refine WC.seq (WC.reg (WL.v (Ev.build (vs := [_, _, _, _, _, _, _, _]) (ps := []) pl41 z41 rfl rfl) rfl (WL.v (Ev.move rfl) rfl (WL.store (i := 2) (vs := [_, _, _, _, _, _, _, _]) rfl rfl rfl sz41 rfl H rfl rfl fun w1 H L => (WL.v (Ev.assign rfl) rfl (WL.v (Ev.assign rfl) rfl (WL.nil (WQ.tn (WC.ret (WQ.tn_ret (WQ.retC3 (vs := [_, _, _, _, _, _, _, _]) rfl rfl rfl rfl ag41 sz41 (H.cells 2 rfl rfl) ?_)))))))))))
    unfold chunkP; rw [if_neg h0, if_pos h1]; exact ⟨(feedP d r.buf).1, A1, c1, rfl, rfl, (H.perm (σ' := [_, _, _, _]) ((List.Perm.swap _ _ _).trans (List.perm_append_comm (l₁ := [_, _]) (l₂ := [_, _])))).sub (List.Sublist.cons_cons _ (List.Sublist.cons _ (List.Sublist.cons_cons _ (List.Sublist.cons_cons _ (List.nil_sublist _)))))⟩
  have h1 : ¬ (feedP d r.buf).2.2.2.2 ≠ 0 := by simpa using h1
  refine WC.skip (WQ.tn (WC.seq (WC.reg (WL.v (Ev.move rfl) rfl (WL.v (Ev.move rfl) rfl (WL.v (Ev.move rfl) rfl (WL.v (Ev.nilCheck rfl) rfl (WL.v (Ev.fieldAddr fa54_1 rfl) rfl (WL.v (Ev.load fl9 rfl (H.cell 3 rfl rfl)) rfl (WL.v (Ev.move rfl) rfl (WL.v (Ev.tail Tryd.underlying9 rfl rfl (by omega)) rfl (WL.v (Ev.move rfl) rfl (WL.v (Ev.nilCheck rfl) rfl (WL.v (Ev.fieldAddr fa54_1 rfl) rfl (WL.store (i := 3) (vs := [_]) rfl rfl rfl sz9 rfl H rfl rfl fun w1 H L => (WL.v (Ev.nilCheck rfl) rfl (WL.v (Ev.fieldAddr fa54_9 rfl) rfl (WL.store (i := 3) (vs := [_]) rfl rfl rfl sz4 rfl H rfl rfl fun w1 H L => (WL.nil ?_)))))))))))))))))))
  refine WQ.tn (WC.seq (WC.block (WC.seq (WC.reg (WL.v (Ev.move rfl) rfl (WL.v (Ev.nes rfl rfl) rfl (WL.v (Ev.assign rfl) rfl (WL.nil (WQ.tn (WC.cond rfl (fun h2 => ?_) (fun h2 => ?_)))))))))))
  · have h2 : (feedP d r.buf).2.1 ≠ [] := by simpa using h2
    refine WC.seq (WC.reg (WL.v (Ev.move rfl) rfl (WL.v (Ev.build (vs := [_, _, _, _, _, _, _, _]) (ps := [(_, _), (_, _)]) pl41 z41 rfl rfl) rfl (WL.store (i := 2) (vs := [_, _, _, _, _, _, _, _]) rfl rfl rfl sz41 rfl H rfl rfl fun w1 H L => (WL.v (Ev.assign rfl) rfl (WL.v (Ev.assign rfl) rfl (WL.nil (WQ.tn (WC.ret (WQ.blk_ret (WQ.tn_ret (WQ.retC3 (vs := [_, _, _, _, _, _, _, _]) rfl rfl rfl rfl ag41 sz41 (H.cells 2 rfl rfl) ?_))))))))))))
    unfold chunkP; rw [if_neg h0, if_neg h1, if_pos h2]; exact ⟨(feedP d r.buf).1, A1, c1, rfl, rfl, (H.perm (σ' := [_, _, _, _]) ((List.Perm.swap _ _ _).trans (List.perm_append_comm (l₁ := [_, _]) (l₂ := [_, _])))).sub (List.Sublist.cons_cons _ (List.Sublist.cons _ (List.Sublist.cons_cons _ (List.Sublist.cons_cons _ (List.nil_sublist _)))))⟩
  have h2 : ¬ (feedP d r.buf).2.1 ≠ [] := by simpa using h2
  refine WC.seq (WC.reg (WL.v (Ev.move rfl) rfl (WL.v (Ev.assign rfl) rfl (WL.nil (WQ.tn (WC.cond rfl (fun h3 => ?_) (fun h3 => ?_)))))))
  · have h3 : (feedP d r.buf).2.2.2.1 = true := h3
    refine WC.seq (WC.reg (WL.v (Ev.move rfl) rfl ?_))
    have HV := H.perm (σ' := [rdrC R ({ r with dec := some (feedP d r.buf).1, buf := r.buf.drop (feedP d r.buf).2.2.1, over := (feedP d r.buf).2.2.2.1 }) (atB D), .blk b1 (pcL Pc.zero none 0) 41 (0, 0), decC D (feedP d r.buf).1 A1 c1, chR A1 c1 (feedP d r.buf).1.line]) ((List.Perm.swap _ _ _).trans (List.perm_append_comm (l₁ := [_, _]) (l₂ := [_, _])))
    refine WL.call (vs := [_]) rfl cl29 rfl (rd_finish ({ r with dec := some (feedP d r.buf).1, buf := r.buf.drop (feedP d r.buf).2.2.1, over := (feedP d r.buf).2.2.2.1 }) R (atB D) _ HV.local1) ?_
    rintro _ w1 ⟨rfl, H1⟩
    replace H := HV.frame1 H1
    refine ⟨_, rfl, ?_⟩
    refine WL.v (Ev.extract rfl rfl) rfl (WL.v (Ev.extract rfl rfl) rfl (WL.v (Ev.extract rfl rfl) rfl (WL.store (i := 1) (vs := [_, _, _, _, _, _, _, _]) rfl rfl rfl sz41 rfl H rfl rfl fun w1 H L => (WL.v (Ev.assign rfl) rfl (WL.v (Ev.assign rfl) rfl (WL.nil (WQ.tn (WC.ret (WQ.blk_ret (WQ.tn_ret (WQ.retC3 (vs := [_, _, _, _, _, _, _, _]) rfl rfl rfl rfl ag41 sz41 (H.cells 1 rfl rfl) ?_)))))))))))
    unfold chunkP; rw [if_neg h0, if_neg h1, if_neg h2, if_pos h3]; exact ⟨(feedP d r.buf).1, A1, c1, rfl, rfl, H.sub (List.Sublist.cons_cons _ (List.Sublist.cons _ (List.Sublist.cons_cons _ (List.Sublist.cons_cons _ (List.nil_sublist _)))))⟩
  have h3 : ¬ (feedP d r.buf).2.2.2.1 = true := by have h9 : (feedP d r.buf).2.2.2.1 = false := h3; rw [h9]; simp
  refine WC.skip (WQ.blk (WQ.tn (WC.seq (WC.reg (WL.v (Ev.build (vs := [_, _, _, _, _, _, _, _]) (ps := []) pl41 z41 rfl rfl) rfl (WL.store (i := 2) (vs := [_, _, _, _, _, _, _, _]) rfl rfl rfl sz41 rfl H rfl rfl fun w1 H L => (WL.v (Ev.assign rfl) rfl (WL.v (Ev.assign rfl) rfl (WL.nil (WQ.tn (WC.ret (WQ.retC3 (vs := [_, _, _, _, _, _, _, _]) rfl rfl rfl rfl ag41 sz41 (H.cells 2 rfl rfl) ?_))))))))))))
  unfold chunkP; rw [if_neg h0, if_neg h1, if_neg h2, if_neg h3]; exact ⟨(feedP d r.buf).1, A1, c1, rfl, rfl, (H.perm (σ' := [_, _, _, _]) ((List.Perm.swap _ _ _).trans (List.perm_append_comm (l₁ := [_, _]) (l₂ := [_, _])))).sub (List.Sublist.cons_cons _ (List.Sublist.cons _ (List.Sublist.cons_cons _ (List.Sublist.cons_cons _ (List.nil_sublist _)))))⟩
end Go.Proofs.YtodappgiadelaaaDoor
