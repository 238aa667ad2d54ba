/- The walks of functions: what each comes to. -/
import Derived.Test.YtodappgiadelaaaDoorXo
import Derived.Test.YtodappgiadelaaaDoorChk
import Derived.Test.YtodappgiadelaaaDoorProg
set_option linter.unusedVariables false
set_option linter.unusedSimpArgs false
namespace Go.Proofs.YtodappgiadelaaaDoor
open Go.RowKit Go.BK
theorem pl71 : plOf Tryd.prog 71 = some [(0, 1), (1, 1), (2, 1), (3, 1), (4, 1), (5, 1), (6, 1), (7, 1)] := by kernel_rfl
theorem z71 : zOk Tryd.prog 71 (.agg #[.int .i64 0, .int .i64 0, .int .i64 0, .int .i64 0, .slice none 0 0, .bool false, .int .i64 0, .int .i64 0]) := by unfold zOk; kernel_rfl
theorem fa71_2 : fldB Tryd.prog 71 2 2 = true := by kernel_rfl
theorem cl91 : callB Tryd.prog 91 = true := by kernel_rfl
theorem fa71_0 : fldB Tryd.prog 71 0 0 = true := by kernel_rfl
theorem fa71_1 : fldB Tryd.prog 71 1 1 = true := by kernel_rfl
theorem fa71_3 : fldB Tryd.prog 71 3 3 = true := by kernel_rfl
theorem cl82 : callB Tryd.prog 82 = true := by kernel_rfl
theorem fa71_6 : fldB Tryd.prog 71 6 6 = true := by kernel_rfl
theorem fa71_5 : fldB Tryd.prog 71 5 5 = true := by kernel_rfl
theorem fl4 : flatB Tryd.prog 4 = true := by kernel_rfl
theorem fa71_4 : fldB Tryd.prog 71 4 4 = true := by kernel_rfl
theorem sz4 : szOk Tryd.prog 4 1 := by unfold szOk; kernel_rfl
theorem cl65 : callB Tryd.prog 65 = true := by kernel_rfl
theorem cl66 : callB Tryd.prog 66 = true := by kernel_rfl
@[reducible] def decL (d : Dec) (A : Option Addr) (c : Nat) : List Value := [.int .i64 d.most, .int .i64 (d.size : Nat), .int .i64 d.state, .int .i64 (d.left : Nat), .slice A d.line.length c, .bool d.cr, .int .i64 (d.trail : Nat), .int .i64 d.err]
@[reducible] def decC (D : Nat) (d : Dec) (A : Option Addr) (c : Nat) : Chunk := .blk D (decL d A c) 71 (0, 0)
@[reducible] def decS (D : Nat) (d : Dec) (A : Option Addr) (c : Nat) : Held := [decC D d A c, chR A c d.line]
theorem ck_New (m : Int) (w : World) :
    Calls Tryd.prog 26 #[.int .i64 m] w fun e w' => ∃ D, e = .returned (.pointer (some ⟨D, 0, none⟩)) ∧ St w No w' (decS D (Dec.new m) none 0) := by
  refine calls_of Tryd.func26 rfl Tryd.ntmps26 (by rfl) (K0 := [(0, _)]) ⟨rfl, trivial⟩ ?_
  have H := St.init w
  refine WC.seq (WC.reg (WL.v (Ev.assign rfl) rfl (WL.nil (WQ.tn (WC.seq (WC.reg (WL.v (Ev.move rfl) rfl (WL.v (Ev.build (vs := [_, _, _, _, _, _, _, _]) (ps := [(_, _)]) pl71 z71 rfl rfl) rfl (WL.box (t := 71) (cs := [_, _, _, _, _, _, _, _]) rfl rfl H rfl fun b1 w1 hb1 H L => (WL.v (Ev.assign rfl) rfl (WL.nil (WQ.tn (WC.ret (WQ.ret1 rfl rfl ?_))))))))))))))
  exact ⟨_, rfl, (H.nilrow _ _).perm (List.Perm.swap _ _ _)⟩
theorem ck_bound (D : Nat) (st : Int) (w : World) (hc : w.cell? ⟨D, 2, none⟩ = some (.int .i64 st)) :
    Calls Tryd.prog 66 #[.pointer (some ⟨D, 0, none⟩)] w fun e w' => e = .returned (.int .i64 (bndP st : Nat)) ∧ St w No w' [] := by
  refine calls_of Tryd.func66 rfl Tryd.ntmps66 (by rfl) (K0 := [(0, _)]) ⟨rfl, trivial⟩ ?_
  have H := St.init w
  refine WC.seq (WC.reg (WL.v (Ev.assign rfl) rfl (WL.nil (WQ.tn (WC.seq (WC.seq (WC.reg (WL.v (Ev.move rfl) rfl (WL.v (Ev.nilCheck rfl) rfl (WL.v (Ev.fieldAddr fa71_2 rfl) rfl (WL.v (Ev.load fl3 rfl (H.old hc)) rfl (WL.nil (WQ.tn (WC.block (WC.seq (WC.reg (WL.v (Ev.eqi rfl rfl) rfl (WL.v (Ev.assign rfl) rfl (WL.nil (WQ.tn (WC.cond rfl (fun h0 => ?_) (fun h0 => ?_))))))))))))))))))))))
  · try simp only [bsimp] at h0
    refine WC.seq (WC.reg (WL.v (Ev.assign rfl) rfl (WL.nil (WQ.tn (WC.ret (WQ.blk_ret (WQ.tn_ret (WQ.ret1 rfl rfl ?_))))))))
    exact ⟨by unfold bndP; rw [if_pos h0]; rfl, H⟩
  try simp only [bsimp] at h0
  refine WC.seq (WC.reg (WL.v (Ev.eqi rfl rfl) rfl (WL.v (Ev.assign rfl) rfl (WL.nil (WQ.tn (WC.cond rfl (fun h1 => ?_) (fun h1 => ?_)))))))
  · try simp only [bsimp] at h1
    refine WC.seq (WC.reg (WL.v (Ev.assign rfl) rfl (WL.nil (WQ.tn (WC.ret (WQ.blk_ret (WQ.tn_ret (WQ.ret1 rfl rfl ?_))))))))
    exact ⟨by unfold bndP; rw [if_neg h0, if_pos h1]; rfl, H⟩
  try simp only [bsimp] at h1
  refine WC.skip (WQ.blk (WQ.tn (WC.seq (WC.reg (WL.v (Ev.assign rfl) rfl (WL.nil (WQ.tn (WC.ret (WQ.ret1 rfl rfl ?_)))))))))
  exact ⟨by unfold bndP; rw [if_neg h0, if_neg h1]; rfl, H⟩
theorem ck_sized (d : Dec) (hd : OkD d) (l : Bs) (hl : Sml l.length) (D c : Nat) (A : Option Addr) (w : World) (H : St w (Bk [decC D d A c]) w [decC D d A c]) :
    Calls Tryd.prog 82 #[.pointer (some ⟨D, 0, none⟩), str l] w fun e w' => e = .returned (.int .i64 (sizP d l).2) ∧ St w (Bk [decC D d A c]) w' [decC D (sizP d l).1 A c] := by
  have hl9 := hl.le
  obtain ⟨hcu1, hcu2⟩ := cutP_len 59 l
  have hm := hd.most
  unfold I64 at hm
  have hrm := hd.room.2
  have hlt := hexP_lt (cutP 59 l).1
  refine calls_of Tryd.func82 rfl Tryd.ntmps82 (by rfl) (K0 := [(0, _), (1, _)]) ⟨rfl, rfl, trivial⟩ (WC.seq (WC.reg (WL.v (Ev.assign rfl) rfl (WL.nil (WQ.tn (WC.seq (WC.reg (WL.v (Ev.move rfl) rfl (WL.callS (vs := [_, _]) rfl cl54 rfl H (lb_Cut l 59 hl _) fun w1 H L => (WL.v (Ev.move rfl) rfl (WL.v (Ev.extract rfl rfl) rfl (WL.v (Ev.extract rfl rfl) rfl (WL.v (Ev.extract rfl rfl) rfl (WL.v (Ev.assign rfl) rfl (WL.v (Ev.assign rfl) rfl (WL.v (Ev.assign rfl) rfl (WL.nil (WQ.tn (WC.seq (WC.reg (WL.v (Ev.move rfl) rfl (WL.callS (vs := [_, _]) rfl cl91 rfl H (lx_Hex _ (hl.mono hcu1) 8 (by unfold I64; omega) _) fun w1 H L => (WL.v (Ev.move rfl) rfl (WL.v (Ev.extract rfl rfl) rfl (WL.v (Ev.extract rfl rfl) rfl (WL.v (Ev.assign rfl) rfl (WL.v (Ev.assign rfl) rfl (WL.nil ?_))))))))))))))))))))))))))))
  refine WQ.tn (WC.seq (WC.seq (WC.reg (WL.v (Ev.move rfl) rfl (WL.v (Ev.lens Tryd.underlying9 rfl) rfl (WL.v (Ev.move rfl) rfl (WL.nil (WQ.tn (WC.block (WC.loop (γ := Nat) (fun j => [(0, .pointer (some ⟨D, 0, none⟩)), (4, .int .i64 0), (6, str (cutP 59 l).2.1), (8, .int .i64 ((hexP (cutP 59 l).1 8).1 : Nat)), (9, .bool ((hexP (cutP 59 l).1 8).2 && ((cutP 59 l).2.1.take j).all extc)), (23, .int .i64 ((cutP 59 l).2.1.length : Nat)), (24, .int .i64 (j : Nat))]) (fun j w1 => j ≤ (cutP 59 l).2.1.length ∧ St w (Bk [decC D d A c]) w1 [decC D d A c]) (fun j => (cutP 59 l).2.1.length - j) 0 (⟨Nat.zero_le _, H⟩) ⟨rfl, rfl, rfl, rfl, (by rw [List.take_zero, List.all_nil, Bool.and_true]; rfl), rfl, rfl, trivial⟩ ?_))))))))))
  rintro j w1 ⟨hj, H⟩
  refine WC.seq (WC.reg (WL.v (Ev.lssN rfl rfl) rfl (WL.nil (WQ.tn (WC.seq (WC.cond rfl (fun h1 => ?_) (fun h1 => ?_)))))))
  · try simp only [bsimp] at h1
    refine WC.skip (WQ.tn (WC.seq (WC.block (WC.seq (WC.reg (WL.v (Ev.move rfl) rfl (WL.v (Ev.assign rfl) rfl (WL.nil (WQ.tn (WC.reg (WL.v (Ev.move rfl) rfl (WL.v (Ev.move rfl) rfl (WL.g (Met.yes rfl rfl) (fun hg => Ev.move rfl) rfl (WL.g (Met.yes rfl rfl) (fun hg => Ev.move rfl) rfl (WL.g (Met.yes rfl rfl) (fun hg => Ev.ch Tryd.underlying9 ((evG.un rfl).ev hg) ((evG.un rfl).ev hg) (by simp at hg; omega)) rfl (WL.g (Met.yes rfl rfl) (fun hg => Ev.eqi ((evG.un rfl).ev hg) rfl) rfl (WL.g (Met.yes rfl rfl) (fun hg => Ev.move ((evG.un rfl).ev hg)) rfl (WL.g (Met.gno rfl rfl) (fun hg => Ev.move rfl) rfl (WL.g (Met.gno rfl rfl) (fun hg => Ev.move rfl) rfl (WL.g (Met.gno rfl rfl) (fun hg => Ev.ch Tryd.underlying9 ((evG.un rfl).ev hg) ((evG.un rfl).ev hg) (by simp at hg; omega)) rfl (WL.g (Met.gno rfl rfl) (fun hg => Ev.geq ((evG.un rfl).ev hg) rfl) rfl (WL.g (Met.gno rfl rfl) (fun hg => Ev.move ((evG.un rfl).ev hg)) rfl (WL.g (Met.gyes rfl rfl) (fun hg => Ev.move rfl) rfl (WL.g (Met.gyes rfl rfl) (fun hg => Ev.move rfl) rfl (WL.g (Met.gyes rfl rfl) (fun hg => Ev.ch Tryd.underlying9 ((evG.un rfl).ev hg) ((evG.un rfl).ev hg) (by simp at hg; omega)) rfl (WL.g (Met.gyes rfl rfl) (fun hg => Ev.leq ((evG.un rfl).ev hg) rfl) rfl (WL.g (Met.gno rfl rfl) (fun hg => Ev.and ((evG.un rfl).ev hg) ((evG.nest rfl).ev hg) rfl) rfl (WL.g (Met.yes rfl rfl) (fun hg => Ev.or ((evG.un rfl).ev hg) rfl ((evG.nest rfl).ev hg)) rfl (WL.v (Ev.and rfl rfl rfl) rfl (WL.v (Ev.assign rfl) rfl (WL.nil ?_)))))))))))))))))))))))))))))))
    refine WQ.blk (WQ.tn (WC.reg (WL.v (Ev.addN (b := 1) rfl rfl (by omega)) rfl (WL.v (Ev.move rfl) rfl (WL.nil ?_)))))
    exact WQ.again (j + 1) (⟨by omega, H⟩) ⟨rfl, rfl, rfl, rfl, (by rw [all_succ h1, extc_byte h1, ← Bool.and_assoc]; rfl), rfl, rfl, trivial⟩ (by first | omega | (dsimp only; omega))
  try simp only [bsimp] at h1
  refine WC.exit (WQ.tn_exit (WQ.loop_exit (WQ.blk_here rfl (WQ.tn (WC.seq (WC.block (WC.seq ?_)))))))
  obtain rfl : j = (cutP 59 l).2.1.length := by omega
  rw [List.take_length, show ((hexP (cutP 59 l).1 8).2 && (cutP 59 l).2.1.all extc) = sizOk l from rfl, show ((hexP (cutP 59 l).1 8).1) = sizN l from rfl]
  refine WC.reg (WL.v (Ev.move rfl) rfl (WL.v (Ev.not rfl) rfl (WL.v (Ev.assign rfl) rfl (WL.nil (WQ.tn (WC.cond rfl (fun h2 => ?_) (fun h2 => ?_)))))))
  · have h2 : sizOk l = false := by simpa using h2
    refine WC.seq (WC.reg (WL.v (Ev.assign rfl) rfl (WL.nil (WQ.tn (WC.ret (WQ.blk_ret (WQ.tn_ret (WQ.ret1 rfl rfl ?_))))))))
    unfold sizP; rw [if_pos h2]; exact ⟨rfl, H⟩
  have h2 : sizOk l = true := by simpa using h2
  refine WC.seq (WC.reg (WL.v (Ev.move rfl) rfl (WL.v (Ev.eqN (b := 0) rfl rfl) rfl (WL.v (Ev.assign rfl) rfl (WL.nil (WQ.tn (WC.cond rfl (fun h3 => ?_) (fun h3 => ?_))))))))
  · try simp only [bsimp] at h3
    refine WC.reg (WL.v (Ev.move rfl) rfl (WL.v (Ev.nilCheck rfl) rfl (WL.v (Ev.fieldAddr fa71_2 rfl) rfl (WL.store (i := 0) (vs := [_]) rfl rfl rfl sz3 rfl H rfl rfl fun w1 H L => (WL.nil (WQ.blk (WQ.tn (WC.seq (WC.reg (WL.v (Ev.assign rfl) rfl (WL.nil (WQ.tn (WC.ret (WQ.ret1 rfl rfl ?_))))))))))))))
    unfold sizP; rw [if_neg (by rw [h2]; simp), if_pos h3]; exact ⟨rfl, H⟩
  try simp only [bsimp] at h3
  refine WC.seq (WC.drawT mixed (No) 12 [(false, 0), (false, 1), (false, 2), (false, 3), (false, 4), (false, 5), (false, 6), (false, 7), (false, 8), (false, 9), (false, 10), (false, 11)] (by kernel_rfl) ?_)
  intro w1 L
  replace H := H.ext L
  refine WX.v rfl (fun w2 hC => Ev.move rfl) rfl (WX.v rfl (fun w2 hC => Ev.move rfl) rfl (WX.v rfl (fun w2 hC => Ev.nilCheck rfl) rfl (WX.v rfl (fun w2 hC => Ev.fieldAddr fa71_0 rfl) rfl (WX.v rfl (fun w2 hC => Ev.load fl3 rfl (Gr.cell hC (fun h => h) (H.cell 0 rfl rfl))) rfl (WX.v rfl (fun w2 hC => Ev.move rfl) rfl (WX.v rfl (fun w2 hC => Ev.nilCheck rfl) rfl (WX.v rfl (fun w2 hC => Ev.fieldAddr fa71_1 rfl) rfl (WX.v rfl (fun w2 hC => Ev.load fl3 rfl (Gr.cell hC (fun h => h) (H.cell 0 rfl rfl))) rfl (WX.v rfl (fun w2 hC => Ev.sub rfl rfl (by unfold I64; omega)) rfl (WX.v rfl (fun w2 hC => Ev.gtr rfl rfl) rfl (WX.v rfl (fun w2 hC => Ev.assign rfl) rfl (WX.nil ?_))))))))))))
  refine WQ.tn (WC.cond rfl (fun h4 => ?_) (fun h4 => ?_))
  · try simp only [bsimp] at h4
    refine WC.seq (WC.reg (WL.v (Ev.assign rfl) rfl (WL.nil (WQ.tn (WC.ret (WQ.blk_ret (WQ.tn_ret (WQ.ret1 rfl rfl ?_))))))))
    unfold sizP; rw [if_neg (by rw [h2]; simp), if_neg h3, if_pos h4]; exact ⟨rfl, H⟩
  try simp only [bsimp] at h4
  refine WC.reg (WL.v (Ev.move rfl) rfl (WL.v (Ev.move rfl) rfl (WL.v (Ev.move rfl) rfl (WL.v (Ev.nilCheck rfl) rfl (WL.v (Ev.fieldAddr fa71_2 rfl) rfl (WL.store (i := 0) (vs := [_]) rfl rfl rfl sz3 rfl H rfl rfl fun w1 H L => (WL.v (Ev.nilCheck rfl) rfl (WL.v (Ev.fieldAddr fa71_3 rfl) rfl (WL.store (i := 0) (vs := [_]) rfl rfl rfl sz3 rfl H rfl rfl fun w1 H L => (WL.nil (WQ.blk (WQ.tn (WC.seq (WC.reg (WL.v (Ev.assign rfl) rfl (WL.nil (WQ.tn (WC.ret (WQ.ret1 rfl rfl ?_)))))))))))))))))))
  unfold sizP; rw [if_neg (by rw [h2]; simp), if_neg h3, if_neg (by omega)]; exact ⟨rfl, H⟩
theorem ck_whole (d : Dec) (hd : OkD d) (l : Bs) (hl : l.length ≤ 512) (D c : Nat) (A : Option Addr) (w : World) (H : St w (Bk [decC D d A c]) w [decC D d A c]) :
    Calls Tryd.prog 65 #[.pointer (some ⟨D, 0, none⟩), str l] w fun e w' => e = .returned (.int .i64 (wholeP d l).2) ∧ St w (Bk [decC D d A c]) w' [decC D (wholeP d l).1 A c] := by
  have htr := hd.trail
  have hl9 : Sml l.length := by unfold Sml; omega
  refine calls_of Tryd.func65 rfl Tryd.ntmps65 (by rfl) (K0 := [(0, _), (1, _)]) ⟨rfl, rfl, trivial⟩ (WC.seq (WC.reg (WL.v (Ev.assign rfl) rfl (WL.nil (WQ.tn (WC.seq (WC.block (WC.seq (WC.reg (WL.v (Ev.move rfl) rfl (WL.v (Ev.nilCheck rfl) rfl (WL.v (Ev.fieldAddr fa71_2 rfl) rfl (WL.v (Ev.load fl3 rfl (H.cell 0 rfl rfl)) rfl (WL.v (Ev.eqi rfl rfl) rfl (WL.v (Ev.assign rfl) rfl (WL.nil (WQ.tn (WC.cond rfl (fun h0 => ?_) (fun h0 => ?_)))))))))))))))))))
  · try simp only [bsimp] at h0
    refine WC.seq (WC.reg (WL.v (Ev.move rfl) rfl (WL.v (Ev.move rfl) rfl (WL.call (vs := [_, _]) rfl cl82 rfl (ck_sized d hd l hl9 D c A _ H) ?_))))
    rintro _ w1 ⟨rfl, H⟩
    refine ⟨_, rfl, ?_⟩
    refine WL.v (Ev.assign rfl) rfl (WL.nil (WQ.tn (WC.ret (WQ.blk_ret (WQ.tn_ret (WQ.ret1 rfl rfl ?_))))))
    unfold wholeP; rw [if_pos h0]; exact ⟨rfl, H⟩
  try simp only [bsimp] at h0
  refine WC.seq (WC.reg (WL.v (Ev.move rfl) rfl (WL.v (Ev.nilCheck rfl) rfl (WL.v (Ev.fieldAddr fa71_2 rfl) rfl (WL.v (Ev.load fl3 rfl (H.cell 0 rfl rfl)) rfl (WL.v (Ev.eqi rfl rfl) rfl (WL.v (Ev.assign rfl) rfl (WL.nil (WQ.tn (WC.cond rfl (fun h1 => ?_) (fun h1 => ?_)))))))))))
  · try simp only [bsimp] at h1
    refine WC.reg (WL.v (Ev.move rfl) rfl (WL.v (Ev.nilCheck rfl) rfl (WL.v (Ev.fieldAddr fa71_2 rfl) rfl (WL.store (i := 0) (vs := [_]) rfl rfl rfl sz3 rfl H rfl rfl fun w1 H L => (WL.nil (WQ.blk (WQ.tn (WC.seq (WC.reg (WL.v (Ev.assign rfl) rfl (WL.nil (WQ.tn (WC.ret (WQ.ret1 rfl rfl ?_))))))))))))))
    unfold wholeP; rw [if_neg h0, if_pos h1]; exact ⟨rfl, H⟩
  try simp only [bsimp] at h1
  refine WC.seq (WC.reg (WL.v (Ev.move rfl) rfl (WL.v (Ev.eqs rfl rfl) rfl (WL.v (Ev.assign rfl) rfl (WL.nil (WQ.tn (WC.cond rfl (fun h2 => ?_) (fun h2 => ?_))))))))
  · try simp only [bsimp] at h2
    refine WC.reg (WL.v (Ev.move rfl) rfl (WL.v (Ev.nilCheck rfl) rfl (WL.v (Ev.fieldAddr fa71_2 rfl) rfl (WL.store (i := 0) (vs := [_]) rfl rfl rfl sz3 rfl H rfl rfl fun w1 H L => (WL.nil (WQ.blk (WQ.tn (WC.seq (WC.reg (WL.v (Ev.assign rfl) rfl (WL.nil (WQ.tn (WC.ret (WQ.ret1 rfl rfl ?_))))))))))))))
    unfold wholeP; rw [if_neg h0, if_neg h1, if_pos h2]; exact ⟨rfl, H⟩
  try simp only [bsimp] at h2
  refine WC.seq (WC.reg (WL.v (Ev.move rfl) rfl (WL.v (Ev.nilCheck rfl) rfl (WL.v (Ev.fieldAddr fa71_6 rfl) rfl (WL.v (Ev.load fl3 rfl (H.cell 0 rfl rfl)) rfl (WL.v (Ev.addN (b := 1) rfl rfl (by omega)) rfl (WL.v (Ev.nilCheck rfl) rfl (WL.v (Ev.fieldAddr fa71_6 rfl) rfl (WL.store (i := 0) (vs := [_]) rfl rfl rfl sz3 rfl H rfl rfl fun w1 H L => (WL.nil (WQ.tn (WC.seq (WC.reg (WL.v (Ev.move rfl) rfl (WL.callS (vs := [_]) rfl cl40 rfl H (hd_Field l hl9 _) fun w1 H L => (WL.v (Ev.move rfl) rfl (WL.v (Ev.extract rfl rfl) rfl (WL.v (Ev.extract rfl rfl) rfl (WL.alloc z79 rfl H rfl fun b1 w1 hb1 H L => (WL.store (i := 0) (vs := [_, _]) rfl rfl rfl sz79 rfl H rfl rfl fun w1 H L => (WL.v (Ev.assign rfl) rfl (WL.nil ?_))))))))))))))))))))))
  refine WQ.tn (WC.seq (WC.reg (WL.v (Ev.move rfl) rfl (WL.v (Ev.nei rfl rfl) rfl (WL.v (Ev.move rfl) rfl (WL.g (Met.no rfl rfl) (fun hg => Ev.move rfl) rfl (WL.g (Met.no rfl rfl) (fun hg => Ev.nilCheck ((evG.un rfl).ev hg)) rfl (WL.g (Met.no rfl rfl) (fun hg => Ev.fieldAddr fa71_6 ((evG.un rfl).ev hg)) rfl (WL.g (Met.no rfl rfl) (fun hg => Ev.load fl3 ((evG.un rfl).ev hg) (H.cell 1 rfl rfl)) rfl (WL.g (Met.no rfl rfl) (fun hg => Ev.gtrN (b := 32) ((evG.un rfl).ev hg) rfl) rfl (WL.v (Ev.or rfl rfl rfl) rfl (WL.nil (WQ.tn (WC.cond rfl (fun h3 => ?_) (fun h3 => ?_)))))))))))))))
  · try simp only [bsimp] at h3
    refine WC.seq (WC.reg (WL.v (Ev.assign rfl) rfl (WL.nil (WQ.tn (WC.ret (WQ.blk_ret (WQ.tn_ret (WQ.ret1 rfl rfl ?_))))))))
    unfold wholeP; rw [if_neg h0, if_neg h1, if_neg h2]; exact ⟨by rw [if_pos h3], H.tail⟩
  try simp only [bsimp] at h3
  refine WC.skip (WQ.blk (WQ.tn (WC.seq (WC.reg (WL.v (Ev.assign rfl) rfl (WL.nil (WQ.tn (WC.ret (WQ.ret1 rfl rfl ?_)))))))))
  unfold wholeP; rw [if_neg h0, if_neg h1, if_neg h2]; exact ⟨by rw [if_neg (fun h => by rcases h with h | h; exact h h3.1; omega)], H.tail⟩
set_option maxRecDepth 20000 in
theorem ck_take (x : UInt8) (d : Dec) (hd : OkD d) (D c : Nat) (A : Option Addr) (w : World) (H : St w (Bk (decS D d A c)) w (decS D d A c)) :
    Calls Tryd.prog 51 #[.pointer (some ⟨D, 0, none⟩), ch x] w fun e w' => ∃ A' c', e = .returned (.int .i64 (takeP d x).2) ∧ St w (Bk (decS D d A c)) w' (decS D (takeP d x).1 A' c') := by
  have hln := hd.line
  have h10 := u8_eq x 10 (by omega)
  have h13 := u8_eq x 13 (by omega)
  simp only [show (UInt8.ofNat 10) = 10 from rfl, show (UInt8.ofNat 13) = 13 from rfl, Int.cast_ofNat_Int] at h10 h13
  refine calls_of Tryd.func51 rfl Tryd.ntmps51 (by rfl) (K0 := [(0, _), (1, _)]) ⟨rfl, rfl, trivial⟩ (WC.seq (WC.reg (WL.v (Ev.assign rfl) rfl (WL.nil (WQ.tn (WC.seq (WC.block (WC.seq (WC.reg (WL.v (Ev.move rfl) rfl (WL.v (Ev.nilCheck rfl) rfl (WL.v (Ev.fieldAddr fa71_5 rfl) rfl (WL.v (Ev.load fl4 rfl (H.cell 0 rfl rfl)) rfl (WL.v (Ev.move rfl) rfl (WL.g (Met.yes rfl rfl) (fun hg => Ev.move rfl) rfl (WL.g (Met.yes rfl rfl) (fun hg => Ev.eqi ((evG.un rfl).ev hg) rfl) rfl (WL.v (Ev.and rfl rfl rfl) rfl (WL.v (Ev.assign rfl) rfl (WL.nil (WQ.tn (WC.cond rfl (fun h0 => ?_) (fun h0 => ?_))))))))))))))))))))))
  · have h0 : d.cr = true ∧ x = 10 := by
      have h9 := h0
      simp only [bsimp] at h9
      exact ⟨h9.1, h10.2 h9.2⟩
    refine WC.seq (WC.reg (WL.v (Ev.move rfl) rfl (WL.v (Ev.nilCheck rfl) rfl (WL.v (Ev.fieldAddr fa71_4 rfl) rfl (WL.v (Ev.load fl28 rfl (H.cell 0 rfl rfl)) rfl (WL.v (Ev.toStr (s := d.line) Tryd.underlying28 Tryd.underlying5 Tryd.underlying9 rfl ⟨rfl, fun _ => rfl⟩ (H.rdC kCh 1 rfl)) rfl (WL.v (Ev.assign rfl) rfl (WL.nil (WQ.tn (WC.seq (WC.reg (WL.v (Ev.move rfl) rfl (WL.v (Ev.move rfl) rfl (WL.v (Ev.nilCheck rfl) rfl (WL.v (Ev.fieldAddr fa71_4 rfl) rfl (WL.store (i := 0) (vs := [_]) rfl rfl rfl sz28 rfl H rfl rfl fun w1 H L => (WL.v (Ev.nilCheck rfl) rfl (WL.v (Ev.fieldAddr fa71_5 rfl) rfl (WL.store (i := 0) (vs := [_]) rfl rfl rfl sz4 rfl H rfl rfl fun w1 H L => (WL.nil ?_))))))))))))))))))))
    refine WQ.tn (WC.seq (WC.reg (WL.v (Ev.move rfl) rfl (WL.v (Ev.move rfl) rfl (WL.call (vs := [_, _]) rfl cl65 rfl (ck_whole { d with line := [], cr := false } ⟨hd.most, hd.room, Nat.zero_le _, hd.trail, hd.err⟩ d.line hln D 0 none _ H.local1) ?_)))))
    rintro _ w1 ⟨rfl, H1⟩
    replace H := H.frame1 H1
    refine ⟨_, rfl, ?_⟩
    refine WL.v (Ev.assign rfl) rfl (WL.nil (WQ.tn (WC.ret (WQ.blk_ret (WQ.tn_ret (WQ.ret1 rfl rfl ?_))))))
    have hl0 := wholeP_line { d with line := [], cr := false } d.line
    have hq : takeP d x = wholeP { d with line := [], cr := false } d.line := by unfold takeP; rw [if_pos h0]
    rw [hq]
    refine ⟨none, 0, rfl, ?_⟩
    show St _ _ _ [_, chR none 0 (wholeP { d with line := [], cr := false } d.line).1.line]
    rw [show chR none 0 (wholeP { d with line := [], cr := false } d.line).1.line = .row 5 1 none 0 0 [] from by rw [hl0]; rfl]
    exact ((H.sub (List.Sublist.cons_cons _ (List.Sublist.cons _ (List.nil_sublist _)))).nilrow _ _).perm (List.Perm.swap _ _ _)
  have h0 : ¬ (d.cr = true ∧ x = 10) := by
    have h9 := h0
    simp only [bsimp] at h9
    rintro ⟨h8, h7⟩
    rcases h9 with h9 | h9
    · rw [h8] at h9; cases h9
    · exact h9 (h10.1 h7)
  refine WC.seq (WC.reg (WL.v (Ev.move rfl) rfl (WL.v (Ev.nilCheck rfl) rfl (WL.v (Ev.fieldAddr fa71_5 rfl) rfl (WL.v (Ev.load fl4 rfl (H.cell 0 rfl rfl)) rfl (WL.v (Ev.move rfl) rfl (WL.g (Met.no rfl rfl) (fun hg => Ev.move rfl) rfl (WL.g (Met.no rfl rfl) (fun hg => Ev.eqi ((evG.un rfl).ev hg) rfl) rfl (WL.v (Ev.or rfl rfl rfl) rfl (WL.v (Ev.assign rfl) rfl (WL.nil (WQ.tn (WC.cond rfl (fun h1 => ?_) (fun h1 => ?_))))))))))))))
  · have h1 : d.cr = true ∨ x = 10 := by
      have h9 := h1
      simp only [bsimp] at h9
      exact h9.imp id h10.2
    refine WC.seq (WC.reg (WL.v (Ev.assign rfl) rfl (WL.nil (WQ.tn (WC.ret (WQ.blk_ret (WQ.tn_ret (WQ.ret1 rfl rfl ?_))))))))
    have hq : takeP d x = (d, 100) := by unfold takeP; rw [if_neg h0, if_pos h1]
    rw [hq]
    exact ⟨A, c, rfl, H⟩
  have h1 : ¬ (d.cr = true ∨ x = 10) := by
    have h9 := h1
    simp only [bsimp] at h9
    rintro (h8 | h8)
    · rw [h8] at h9; cases h9.1
    · exact h9.2 (h10.1 h8)
  refine WC.seq (WC.reg (WL.v (Ev.move rfl) rfl (WL.v (Ev.eqi rfl rfl) rfl (WL.v (Ev.assign rfl) rfl (WL.nil (WQ.tn (WC.cond rfl (fun h2 => ?_) (fun h2 => ?_))))))))
  · have h2 : x = 13 := h13.2 (by simpa using h2)
    refine WC.reg (WL.v (Ev.move rfl) rfl (WL.v (Ev.nilCheck rfl) rfl (WL.v (Ev.fieldAddr fa71_5 rfl) rfl (WL.store (i := 0) (vs := [_]) rfl rfl rfl sz4 rfl H rfl rfl fun w1 H L => (WL.nil (WQ.blk (WQ.tn (WC.seq (WC.reg (WL.v (Ev.assign rfl) rfl (WL.nil (WQ.tn (WC.ret (WQ.ret1 rfl rfl ?_))))))))))))))
    have hq : takeP d x = ({ d with cr := true }, 0) := by unfold takeP; rw [if_neg h0, if_neg h1, if_pos h2]
    rw [hq]
    exact ⟨A, c, rfl, H⟩
  have h2 : ¬ x = 13 := fun h => by
    have h9 := h2
    simp only [bsimp] at h9
    exact h9 (h13.1 h)
  refine WC.seq (WC.drawT mixed (No) 9 [(false, 0), (false, 1), (false, 2), (false, 3), (false, 4), (false, 5), (true, 6), (false, 7), (false, 8)] (by kernel_rfl) ?_)
  intro w1 L
  replace H := H.ext L
  have hK := Gr.refl (No) w1
  have HD := H
  refine WX.v rfl (fun w2 hC => Ev.move rfl) rfl (WX.v rfl (fun w2 hC => Ev.nilCheck rfl) rfl (WX.v rfl (fun w2 hC => Ev.fieldAddr fa71_4 rfl) rfl (WX.v rfl (fun w2 hC => Ev.load fl28 rfl (Gr.cell hC (fun h => h) (HD.cell 0 rfl rfl))) rfl (WX.v rfl (fun w2 hC => Ev.lensl Tryd.underlying28 rfl) rfl (WX.v rfl (fun w2 hC => Ev.move rfl) rfl (WX.loud rfl rfl (WL.callS (vs := [_]) rfl cl66 rfl H (ck_bound D d.state _ (H.cell 0 rfl rfl)) fun w1 H L => ?_)))))))
  replace hK := hK.ext L
  refine WL.nil (WQ.back (fun _ => hK) (WX.v rfl (fun w2 hC => Ev.geqN rfl rfl) rfl (WX.v rfl (fun w2 hC => Ev.assign rfl) rfl (WX.nil (WQ.tn (WC.cond rfl (fun h3 => ?_) (fun h3 => ?_)))))))
  · try simp only [bsimp] at h3
    refine WC.seq (WC.reg (WL.v (Ev.assign rfl) rfl (WL.nil (WQ.tn (WC.ret (WQ.blk_ret (WQ.tn_ret (WQ.ret1 rfl rfl ?_))))))))
    have hq : takeP d x = (d, 100) := by unfold takeP; rw [if_neg h0, if_neg h1, if_neg h2, if_pos (by omega)]
    rw [hq]
    exact ⟨A, c, rfl, H⟩
  try simp only [bsimp] at h3
  refine WC.reg (WL.v (Ev.move rfl) rfl (WL.v (Ev.move rfl) rfl (WL.v (Ev.nilCheck rfl) rfl (WL.v (Ev.fieldAddr fa71_4 rfl) rfl (WL.v (Ev.load fl28 rfl (H.cell 0 rfl rfl)) rfl (WL.v (Ev.move rfl) rfl (WL.buildSlice (vs := [_]) (ps := [(_, _)]) Tryd.underlying28 sz5 z5 rfl (by omega) (by omega) rfl rfl H rfl fun b1 w1 hb1 H L => (WL.append (i := 2) (news := [_]) Tryd.underlying28 sz5 by5 z5 rfl (by omega) rfl rfl H rfl rfl (H.cells 0 rfl rfl) (by exact allOne_mem rfl) (by omega) (by omega) rfl fun A1 c1 w1 H L LA LB => ?_))))))))
  replace H := H.tail
  refine WL.v (Ev.nilCheck rfl) rfl (WL.v (Ev.fieldAddr fa71_4 rfl) rfl (WL.store (i := 0) (vs := [_]) rfl rfl rfl sz28 rfl H rfl rfl fun w1 H L => (WL.nil (WQ.blk (WQ.tn (WC.seq (WC.reg (WL.v (Ev.assign rfl) rfl (WL.nil (WQ.tn (WC.ret (WQ.ret1 rfl rfl ?_))))))))))))
  have hq : takeP d x = ({ d with line := d.line ++ [x] }, 0) := by unfold takeP; rw [if_neg h0, if_neg h1, if_neg h2, if_neg (by omega)]
  rw [hq]
  exact ⟨A1, c1, rfl, by unfold decS chR decC decL; dsimp only; rw [List.length_append, flat_snoc]; exact H⟩
end Go.Proofs.YtodappgiadelaaaDoor
