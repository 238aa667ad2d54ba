/- The walks of functions: what each comes to. -/
import Derived.Test.YtodappgiadelaaaDoorXn
import Derived.Test.YtodappgiadelaaaDoorBld
import Derived.Test.YtodappgiadelaaaDoorProg
set_option linter.unusedVariables false
set_option linter.unusedSimpArgs false
namespace Go.Proofs.YtodappgiadelaaaDoor
open Go.RowKit Go.BK
theorem ext81 : extB Tryd.prog 81 Extern.AbiNoEscape.same := ⟨_, Tryd.func81, by kernel_rfl, by kernel_rfl, by kernel_rfl, by kernel_rfl⟩
theorem lies94 : liesAt Tryd.prog Tryd.prog.depth 94 (2 / Tryd.prog.cellsOf 94) 0 94 1 = true := by kernel_rfl
theorem one5 : Tryd.prog.cellsOf 5 = 1 := by kernel_rfl
theorem sz94 : szOk Tryd.prog 94 2 := by unfold szOk; kernel_rfl
theorem fa94_0 : fldB Tryd.prog 94 0 0 = true := by kernel_rfl
theorem fl92 : flatB Tryd.prog 92 = true := by kernel_rfl
theorem sz92 : szOk Tryd.prog 92 1 := by unfold szOk; kernel_rfl
theorem cl64 : callB Tryd.prog 64 = true := by kernel_rfl
theorem fa94_1 : fldB Tryd.prog 94 1 1 = true := by kernel_rfl
theorem fl28 : flatB Tryd.prog 28 = true := by kernel_rfl
theorem by5 : byOk Tryd.prog 5 1 := by unfold byOk; kernel_rfl
theorem z5 : zOk Tryd.prog 5 (.int .u8 0) := by unfold zOk; kernel_rfl
theorem sz28 : szOk Tryd.prog 28 1 := by unfold szOk; kernel_rfl
@[reducible] def bldC (b : Nat) (p A : Option Addr) (n c : Nat) : Chunk := .blk b [.pointer p, .slice A n c] 94 (0, 0)
@[reducible] def chR (A : Option Addr) (c : Nat) (l : Bs) : Chunk := .row 5 1 A l.length c (l.flatMap kCh.enc)
@[reducible] def atB (b : Nat) : Option Addr := some ⟨b, 0, none⟩
theorem sb_copyCheck (b n c : Nat) (p A : Option Addr) (hp : p = none ∨ p = atB b) (w : World) (H : St w (Bk [bldC b p A n c]) w [bldC b p A n c]) :
    Calls Tryd.prog 64 #[.pointer (some ⟨b, 0, none⟩)] w fun e w' => e = .returned (.tuple #[]) ∧ St w (Bk [bldC b p A n c]) w' [bldC b (atB b) A n c] := by
  refine calls_of Tryd.func64 rfl Tryd.ntmps64 (by rfl) (K0 := [(0, _)]) ⟨rfl, trivial⟩ (WC.seq (WC.reg (WL.v (Ev.move rfl) rfl (WL.v (Ev.nilCheck rfl) rfl (WL.v (Ev.fieldAddr fa94_0 rfl) rfl (WL.v (Ev.load fl92 rfl (H.cell 0 rfl rfl)) rfl (WL.v (Ev.eqnil Tryd.underlying92 rfl rfl) rfl (WL.nil (WQ.tn (WC.cond rfl (fun h0 => ?_) (fun h0 => ?_)))))))))))
  · try simp only [bsimp] at h0
    refine WC.reg (WL.v (Ev.move rfl) rfl (WL.v (Ev.move rfl) rfl (WL.v (Ev.toUnsafe Tryd.underlying92 Tryd.underlying121 sz94 rfl rfl (H.shape 0 rfl) (by simp)) rfl (WL.v (Ev.noEsc ext81 rfl) rfl (WL.v (Ev.fromUnsafe Tryd.underlying121 Tryd.underlying92 sz94 rfl (H.shape 0 rfl) lies94) rfl (WL.v (Ev.nilCheck rfl) rfl (WL.v (Ev.fieldAddr fa94_0 rfl) rfl (WL.store (i := 0) (vs := [_]) rfl rfl rfl sz92 rfl H rfl rfl fun w1 H L => (WL.nil (WQ.end0 rfl ?_))))))))))
    exact ⟨rfl, H⟩
  have hq : p.isNone = false := h0
  obtain rfl : p = atB b := by
    rcases hp with rfl | rfl
    · simp at hq
    · rfl
  refine WC.seq (WC.reg (WL.v (Ev.move rfl) rfl (WL.v (Ev.nilCheck rfl) rfl (WL.v (Ev.fieldAddr fa94_0 rfl) rfl (WL.v (Ev.load fl92 rfl (H.cell 0 rfl rfl)) rfl (WL.v (Ev.move rfl) rfl (WL.v (Ev.neSame Tryd.underlying92 sz94 rfl rfl) rfl (WL.nil (WQ.tn (WC.cond rfl (fun h1 => ?_) (fun h1 => ?_)))))))))))
  · exfalso; cases h1
  try simp only [bsimp] at h1
  refine WC.skip (WQ.end0 rfl ?_)
  exact ⟨rfl, H⟩
theorem sb_WriteString (b c : Nat) (p A : Option Addr) (hp : p = none ∨ p = atB b) (l s : Bs) (hs : l.length + s.length ≤ 140737488355328) (w : World) (H : St w (Bk [bldC b p A l.length c, chR A c l]) w [bldC b p A l.length c, chR A c l]) :
    Calls Tryd.prog 50 #[.pointer (some ⟨b, 0, none⟩), str s] w fun e w' => ∃ A' c', e = .returned (.tuple #[.int .i64 (s.length : Nat), .nilIface]) ∧ (A = none → s = [] → A' = none) ∧ St w (Bk [bldC b p A l.length c, chR A c l]) w' [bldC b (atB b) A' (l ++ s).length c', chR A' c' (l ++ s)] := by
  refine calls_of Tryd.func50 rfl Tryd.ntmps50 (by rfl) (K0 := [(0, _), (1, _)]) ⟨rfl, rfl, trivial⟩ (WC.seq (WC.reg (WL.v (Ev.assign rfl) rfl (WL.v (Ev.assign rfl) rfl (WL.nil (WQ.tn (WC.seq (WC.reg (WL.v (Ev.move rfl) rfl (WL.call (vs := [_]) rfl cl64 rfl (sb_copyCheck b _ _ p A hp _ H.local1) ?_))))))))))
  rintro _ w1 ⟨rfl, H1⟩
  replace H := H.frame1 H1
  refine ⟨_, rfl, ?_⟩
  refine WL.nil (WQ.tn (WC.seq (WC.reg (WL.v (Ev.move rfl) rfl (WL.v (Ev.move rfl) rfl (WL.v (Ev.nilCheck rfl) rfl (WL.v (Ev.fieldAddr fa94_1 rfl) rfl (WL.v (Ev.load fl28 rfl (H.cell 0 rfl rfl)) rfl (WL.v (Ev.move rfl) rfl (WL.appendStr (i := 1) Tryd.underlying28 Tryd.underlying9 sz5 by5 z5 rfl rfl H rfl (by omega) rfl fun A1 c1 w1 H L LN => (WL.v (Ev.nilCheck rfl) rfl (WL.v (Ev.fieldAddr fa94_1 rfl) rfl (WL.store (i := 0) (vs := [_]) rfl rfl rfl sz28 rfl H rfl rfl fun w1 H L => (WL.nil (WQ.tn (WC.seq (WC.reg (WL.v (Ev.move rfl) rfl (WL.v (Ev.lens Tryd.underlying9 rfl) rfl (WL.v (Ev.assign rfl) rfl (WL.v (Ev.assign rfl) rfl (WL.nil ?_))))))))))))))))))))))
  refine WQ.tn (WC.ret (WQ.ret2 rfl rfl rfl (⟨A1, c1, rfl, LN, ?_⟩)))
  unfold chR bldC
  rw [List.length_append, List.flatMap_append]
  exact H
theorem sb_String (b c : Nat) (p A : Option Addr) (l : Bs) (h0 : l = [] → A = none) (w : World) (H : St w (Bk [bldC b p A l.length c, chR A c l]) w [bldC b p A l.length c, chR A c l]) :
    Calls Tryd.prog 52 #[.pointer (some ⟨b, 0, none⟩)] w fun e w' => e = .returned (str l) ∧ St w (Bk [bldC b p A l.length c, chR A c l]) w' [bldC b p A l.length c] := by
  refine calls_of Tryd.func52 rfl Tryd.ntmps52 (by rfl) (K0 := [(0, _)]) ⟨rfl, trivial⟩ (WC.seq (WC.reg (WL.v (Ev.assign rfl) rfl (WL.nil (WQ.tn (WC.seq (WC.drawT mixed (fun k => k ∈ (chR A c l).blocks) 12 [(false, 0), (false, 1), (false, 2), (false, 3), (false, 5), (false, 6), (false, 7), (false, 8), (false, 9), (true, 4), (true, 10), (false, 11)] (by kernel_rfl) ?_)))))))
  intro w1 L
  replace H := H.ext L
  have hK := Gr.refl (fun k => k ∈ (chR A c l).blocks) w1
  have HD := H
  refine WX.v rfl (fun w2 hC => Ev.move rfl) rfl (WX.v rfl (fun w2 hC => Ev.nilCheck rfl) rfl (WX.v rfl (fun w2 hC => Ev.fieldAddr fa94_1 rfl) rfl (WX.v rfl (fun w2 hC => Ev.load fl28 rfl (Gr.cell hC (HD.notin 0 1 rfl rfl rfl) (HD.cell 0 rfl rfl))) rfl (WX.v rfl (fun w2 hC => Ev.move rfl) rfl (WX.v rfl (fun w2 hC => Ev.nilCheck rfl) rfl (WX.v rfl (fun w2 hC => Ev.fieldAddr fa94_1 rfl) rfl (WX.v rfl (fun w2 hC => Ev.load fl28 rfl (Gr.cell hC (HD.notin 0 1 rfl rfl rfl) (HD.cell 0 rfl rfl))) rfl (WX.v rfl (fun w2 hC => Ev.lensl Tryd.underlying28 rfl) rfl (WX.loud rfl rfl (WL.v (Ev.sliceData (i := 1) rfl H rfl (fun h => h0 (List.eq_nil_of_length_eq_zero h))) rfl ?_))))))))))
  skip
  refine WL.nil (WQ.back (fun _ => hK) (WX.loud rfl rfl (WL.unsafeStr (i := 1) Tryd.underlying110 one5 rfl rfl H rfl rfl fun w1 H L => ?_)))
  replace hK := hK.trans L
  refine WL.nil (WQ.back (fun _ => hK) (WX.v rfl (fun w2 hC => Ev.assign rfl) rfl (WX.nil (WQ.tn (WC.ret (WQ.ret1 rfl rfl ?_))))))
  exact ⟨rfl, H.sub (List.Sublist.cons_cons _ (List.Sublist.cons _ (List.nil_sublist _)))⟩
end Go.Proofs.YtodappgiadelaaaDoor
