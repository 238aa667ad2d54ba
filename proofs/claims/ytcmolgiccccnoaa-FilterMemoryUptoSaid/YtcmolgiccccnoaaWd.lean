/- The walks of functions: what each comes to. -/
import Derived.Test.YtcmolgiccccnoaaWh
import Derived.Test.YtcmolgiccccnoaaProg
set_option linter.unusedVariables false
set_option linter.unusedSimpArgs false
namespace Go.Proofs.Ytcmolgiccccnoaa
open Go.RowKit Go.BK
theorem fa110_0 : fldB Try.prog 110 0 0 = true := by kernel_rfl
theorem fl82 : flatB Try.prog 82 = true := by kernel_rfl
theorem sz82 : szOk Try.prog 82 1 := by unfold szOk; kernel_rfl
theorem fa110_1 : fldB Try.prog 110 1 1 = true := by kernel_rfl
theorem cl92 : callB Try.prog 92 = true := by kernel_rfl
theorem cl91 : callB Try.prog 91 = true := by kernel_rfl
theorem cl90 : callB Try.prog 90 = true := by kernel_rfl
theorem fa79_1 : fldB Try.prog 79 1 6 = true := by kernel_rfl
theorem fl63 : flatB Try.prog 63 = true := by kernel_rfl
theorem fa79_0 : fldB Try.prog 79 0 0 = true := by kernel_rfl
theorem cl89 : callB Try.prog 89 = true := by kernel_rfl
theorem fa29_4 : fldB Try.prog 29 4 4 = true := by kernel_rfl
def shr64 (a b : Int) : Int := a / 2 ^ min b.toNat IntKind.u64.bits
def and64 (a b : Int) : Int := ibits .and .u64 a b
def xor64 (a b : Int) : Int := ibits .xor .u64 a b
def w64 (a : Int) : Int := IntKind.u64.wrap a
def mixP (x : Int) : Int :=
  let y := w64 (xor64 x (shr64 x 30) * 13787848793156543929)
  let z := w64 (xor64 y (shr64 y 27) * 10723151780598845931)
  xor64 z (shr64 z 31)
def mulHiP (x y : Int) : Int :=
  let x0 := and64 x 4294967295
  let x1 := shr64 x 32
  let y0 := and64 y 4294967295
  let y1 := shr64 y 32
  let w0 := w64 (x0 * y0)
  let t := w64 (w64 (x1 * y0) + shr64 w0 32)
  let w1 := w64 (and64 t 4294967295 + w64 (x0 * y1))
  w64 (w64 (w64 (x1 * y1) + shr64 t 32) + shr64 w1 32)
def stepD (s : Int) : Int := w64 (s + 11400714819323198485)
def belP (s n : Int) : Int := IntKind.i64.wrap (mulHiP (mixP (stepD s)) (w64 n))
@[reducible] def diC (d : Nat) (s dr : Int) : Chunk := .blk d [.int .u64 s, .int .i64 dr] 110 (0, 0)
theorem dc_Mix (x : Int) (w : World) :
    Calls Try.prog 92 #[.int .u64 x] w fun e w' => e = .returned (.int .u64 (mixP x)) ∧ St w No w' [] := by
  refine calls_of Try.func92 rfl Try.ntmps92 (by rfl) (K0 := [(0, _)]) ⟨rfl, trivial⟩ ?_
  have H := St.init w
  refine WC.seq (WC.reg (WL.v (Ev.assign rfl) rfl (WL.nil (WQ.tn (WC.seq (WC.reg (WL.v (Ev.move rfl) rfl (WL.v (Ev.move rfl) rfl (WL.v (Ev.shr rfl rfl (by omega)) rfl (WL.v (Ev.bits .xor rfl rfl rfl) rfl (WL.v (Ev.mulw rfl rfl) rfl (WL.v (Ev.assign rfl) rfl (WL.nil (WQ.tn (WC.seq (WC.reg (WL.v (Ev.move rfl) rfl (WL.v (Ev.move rfl) rfl (WL.v (Ev.shr rfl rfl (by omega)) rfl (WL.v (Ev.bits .xor rfl rfl rfl) rfl (WL.v (Ev.mulw rfl rfl) rfl (WL.v (Ev.assign rfl) rfl (WL.nil (WQ.tn (WC.seq (WC.reg (WL.v (Ev.move rfl) rfl (WL.v (Ev.move rfl) rfl (WL.v (Ev.shr rfl rfl (by omega)) rfl (WL.v (Ev.bits .xor rfl rfl rfl) rfl (WL.v (Ev.assign rfl) rfl (WL.nil ?_))))))))))))))))))))))))))))))))
  refine WQ.tn (WC.ret (WQ.ret1 rfl rfl ?_))
  exact ⟨rfl, H⟩
theorem dc_Mul (x y : Int) (w : World) :
    Calls Try.prog 90 #[.int .u64 x, .int .u64 y] w fun e w' => e = .returned (.tuple #[.int .u64 (mulHiP x y), .int .u64 (w64 (x * y))]) ∧ St w No w' [] := by
  refine calls_of Try.func90 rfl Try.ntmps90 (by rfl) (K0 := [(0, _), (1, _)]) ⟨rfl, rfl, trivial⟩ ?_
  have H := St.init w
  refine WC.seq (WC.reg (WL.v (Ev.assign rfl) rfl (WL.v (Ev.assign rfl) rfl (WL.nil (WQ.tn (WC.seq (WC.reg (WL.v (Ev.move rfl) rfl (WL.v (Ev.bits .and rfl rfl rfl) rfl (WL.v (Ev.assign rfl) rfl (WL.nil (WQ.tn (WC.seq (WC.reg (WL.v (Ev.move rfl) rfl (WL.v (Ev.shr rfl rfl (by omega)) rfl (WL.v (Ev.assign rfl) rfl (WL.nil (WQ.tn (WC.seq (WC.reg (WL.v (Ev.move rfl) rfl (WL.v (Ev.bits .and rfl rfl rfl) rfl (WL.v (Ev.assign rfl) rfl (WL.nil (WQ.tn (WC.seq (WC.reg (WL.v (Ev.move rfl) rfl (WL.v (Ev.shr rfl rfl (by omega)) rfl (WL.v (Ev.assign rfl) rfl (WL.nil (WQ.tn ?_)))))))))))))))))))))))))))))))))
  refine WC.seq (WC.reg (WL.v (Ev.move rfl) rfl (WL.v (Ev.move rfl) rfl (WL.v (Ev.mulw rfl rfl) rfl (WL.v (Ev.assign rfl) rfl (WL.nil (WQ.tn (WC.seq (WC.reg (WL.v (Ev.move rfl) rfl (WL.v (Ev.move rfl) rfl (WL.v (Ev.mulw rfl rfl) rfl (WL.v (Ev.move rfl) rfl (WL.v (Ev.shr rfl rfl (by omega)) rfl (WL.v (Ev.addw rfl rfl) rfl (WL.v (Ev.assign rfl) rfl (WL.nil (WQ.tn (WC.seq (WC.reg (WL.v (Ev.move rfl) rfl (WL.v (Ev.bits .and rfl rfl rfl) rfl (WL.v (Ev.assign rfl) rfl (WL.nil (WQ.tn (WC.seq (WC.reg (WL.v (Ev.move rfl) rfl (WL.v (Ev.shr rfl rfl (by omega)) rfl (WL.v (Ev.assign rfl) rfl (WL.nil ?_)))))))))))))))))))))))))))))))
  refine WQ.tn (WC.seq (WC.reg (WL.v (Ev.move rfl) rfl (WL.v (Ev.move rfl) rfl (WL.v (Ev.move rfl) rfl (WL.v (Ev.mulw rfl rfl) rfl (WL.v (Ev.addw rfl rfl) rfl (WL.v (Ev.assign rfl) rfl (WL.nil (WQ.tn (WC.seq (WC.reg (WL.v (Ev.move rfl) rfl (WL.v (Ev.move rfl) rfl (WL.v (Ev.mulw rfl rfl) rfl (WL.v (Ev.move rfl) rfl (WL.v (Ev.addw rfl rfl) rfl (WL.v (Ev.move rfl) rfl (WL.v (Ev.shr rfl rfl (by omega)) rfl (WL.v (Ev.addw rfl rfl) rfl (WL.v (Ev.assign rfl) rfl (WL.nil (WQ.tn (WC.seq (WC.reg (WL.v (Ev.move rfl) rfl (WL.v (Ev.move rfl) rfl (WL.v (Ev.mulw rfl rfl) rfl (WL.v (Ev.assign rfl) rfl (WL.nil ?_))))))))))))))))))))))))))))))
  refine WQ.tn (WC.ret (WQ.ret2 rfl rfl rfl ?_))
  exact ⟨rfl, H⟩
theorem dc_Next (d : Nat) (s dr : Int) (w : World) (H : St w (Bk [diC d s dr]) w [diC d s dr]) :
    Calls Try.prog 91 #[.pointer (some ⟨d, 0, none⟩)] w fun e w' => e = .returned (.int .u64 (mixP (stepD s))) ∧ ∃ dr', St w (Bk [diC d s dr]) w' [diC d (stepD s) dr'] := by
  refine calls_of Try.func91 rfl Try.ntmps91 (by rfl) (K0 := [(0, _)]) ⟨rfl, trivial⟩ (WC.seq (WC.reg (WL.v (Ev.assign rfl) rfl (WL.nil (WQ.tn (WC.seq (WC.reg (WL.v (Ev.move rfl) rfl (WL.v (Ev.nilCheck rfl) rfl (WL.v (Ev.fieldAddr fa110_0 rfl) rfl (WL.v (Ev.load fl82 rfl (H.cell 0 rfl rfl)) rfl (WL.v (Ev.addw rfl rfl) rfl (WL.v (Ev.nilCheck rfl) rfl (WL.v (Ev.fieldAddr fa110_0 rfl) rfl (WL.store (i := 0) (vs := [_]) rfl rfl rfl sz82 rfl H rfl rfl fun w1 H L => (WL.nil (WQ.tn (WC.seq (WC.reg (WL.v (Ev.move rfl) rfl (WL.v (Ev.nilCheck rfl) rfl (WL.v (Ev.fieldAddr fa110_1 rfl) rfl (WL.v (Ev.load fl3 rfl (H.cell 0 rfl rfl)) rfl (WL.v (Ev.addw rfl rfl) rfl (WL.v (Ev.nilCheck rfl) rfl (WL.v (Ev.fieldAddr fa110_1 rfl) rfl (WL.store (i := 0) (vs := [_]) rfl rfl rfl sz3 rfl H rfl rfl fun w1 H L => (WL.nil ?_))))))))))))))))))))))))))))
  refine WQ.tn (WC.seq (WC.reg (WL.v (Ev.move rfl) rfl (WL.v (Ev.nilCheck rfl) rfl (WL.v (Ev.fieldAddr fa110_0 rfl) rfl (WL.v (Ev.load fl82 rfl (H.cell 0 rfl rfl)) rfl (WL.callS (vs := [_]) rfl cl92 rfl H (dc_Mix _ _) fun w1 H L => (WL.v (Ev.assign rfl) rfl (WL.nil (WQ.tn (WC.ret (WQ.ret1 rfl rfl ?_))))))))))))
  exact ⟨rfl, _, H⟩
theorem dc_Below (d : Nat) (s dr : Int) (n : Int) (hn : 1 ≤ n) (w : World) (H : St w (Bk [diC d s dr]) w [diC d s dr]) :
    Calls Try.prog 89 #[.pointer (some ⟨d, 0, none⟩), .int .i64 n] w fun e w' => e = .returned (.int .i64 (belP s n)) ∧ ∃ dr', St w (Bk [diC d s dr]) w' [diC d (stepD s) dr'] := by
  refine calls_of Try.func89 rfl Try.ntmps89 (by rfl) (K0 := [(0, _), (1, _)]) ⟨rfl, rfl, trivial⟩ (WC.seq (WC.reg (WL.v (Ev.assign rfl) rfl (WL.nil (WQ.tn (WC.seq (WC.seq (WC.reg (WL.v (Ev.move rfl) rfl (WL.v (Ev.lss rfl rfl) rfl (WL.nil (WQ.tn (WC.cond rfl (fun h0 => ?_) (fun h0 => ?_))))))))))))))
  · simp only [bsimp] at h0
    exfalso; omega
  try simp only [bsimp] at h0
  refine WC.skip (WQ.tn (WC.seq (WC.reg (WL.v (Ev.move rfl) rfl (WL.call (vs := [_]) rfl cl91 rfl (dc_Next d s dr w H) ?_)))))
  rintro _ w1 ⟨rfl, dr', H⟩
  refine ⟨_, rfl, ?_⟩
  refine WL.v (Ev.move rfl) rfl (WL.v (Ev.conv Try.underlying3 Try.underlying82 rfl) rfl (WL.callS (vs := [_, _]) rfl cl90 rfl H (dc_Mul _ _ _) fun w1 H L => (WL.v (Ev.move rfl) rfl (WL.v (Ev.extract rfl rfl) rfl (WL.v (Ev.extract rfl rfl) rfl (WL.v (Ev.assign rfl) rfl (WL.v (Ev.assign rfl) rfl (WL.nil (WQ.tn (WC.seq (WC.reg (WL.v (Ev.move rfl) rfl (WL.v (Ev.conv Try.underlying82 Try.underlying3 rfl) rfl (WL.v (Ev.assign rfl) rfl (WL.nil (WQ.tn (WC.ret (WQ.ret1 rfl rfl ?_))))))))))))))))))
  exact ⟨rfl, _, H⟩
theorem fl_fault (f : Flt) (v : Nat) (now size : Int) (m : Bs) (A : Option Addr) (c : Nat) (xs : List Fld) (hx : Okf xs) (hf : Sml f.name.length) (d : Nat) (s dr : Int) (w : World) (H : St w (Bk [rowF A c xs, visC v now size m A xs.length c none, diC d s dr]) w [rowF A c xs, visC v now size m A xs.length c none, diC d s dr]) :
    Calls Try.prog 88 #[.agg (encFl f ++ [Value.pointer (some ⟨d, 0, none⟩)]).toArray, .pointer (some ⟨v, 0, none⟩)] w fun e w' => e = .returned (.tuple #[]) ∧ ∃ dr', if belP s 100 < f.n then ∃ r Af cf A' n' c', St w (Bk [rowF A c xs, visC v now size m A xs.length c none, diC d s dr]) w' [verC r f.m Af (([] : List Fld)).length cf (([102, 97, 117, 108, 116] : Bs)), rowF Af cf ([] : List Fld), visC v now size m A' n' c' (some ⟨r, 0, none⟩), diC d (stepD s) dr'] else ∃ A' c', St w (Bk [rowF A c xs, visC v now size m A xs.length c none, diC d s dr]) w' [rowF A' c' xs, visC v now size m A' xs.length c' none, diC d (stepD s) dr'] := by
  refine calls_of Try.func88 rfl Try.ntmps88 (by rfl) (K0 := [(0, _), (1, _)]) ⟨rfl, rfl, trivial⟩ (WC.seq (WC.reg (WL.box (t := 79) (cs := [_, _, _, _, _, _, _]) rfl rfl H rfl fun b1 w1 hb1 H L => (WL.nil (WQ.tn (WC.seq (WC.drawT mixed ((fun k => k = d)) 8 [(false, 0), (false, 1), (false, 3), (false, 4), (false, 5), (false, 6), (true, 2), (false, 7)] (by kernel_rfl) ?_)))))))
  intro w1 L
  replace H := H.ext L
  have hn1 := H.ne 0 3 rfl rfl rfl
  have hn2 := H.ne 2 3 rfl rfl rfl
  have HP := (H.perm (σ' := [_, _, _, _]) (List.perm_middle (l₁ := [_, _, _]) (l₂ := [])).symm)
  have hK := Gr.refl ((fun k => k = d)) w1
  have HD := H
  refine WX.v rfl (fun w2 hC => Ev.fieldAddr fa79_1 rfl) rfl (WX.v rfl (fun w2 hC => Ev.load fl63 rfl (Gr.cell hC hn1 (HD.cell 0 rfl rfl))) rfl (WX.v rfl (fun w2 hC => Ev.fieldAddr fa79_0 rfl) rfl (WX.v rfl (fun w2 hC => Ev.fieldAddr fa66_0 rfl) rfl (WX.v rfl (fun w2 hC => Ev.fieldAddr fa29_3 rfl) rfl (WX.v rfl (fun w2 hC => Ev.load fl3 rfl (Gr.cell hC hn1 (HD.cell 0 rfl rfl))) rfl (WX.loud rfl rfl (WL.call (vs := [_, _]) rfl cl89 rfl (dc_Below d s dr 100 (by omega) _ HP.local1) ?_)))))))
  rintro _ w1 ⟨rfl, dr', H1⟩
  have LX : Gr (fun k => k = d) _ _ := H1.gr.mono (fun _ _ h => by simpa [Bk, Chunk.blocks] using h)
  replace H := HP.frame1 H1
  refine ⟨_, rfl, ?_⟩
  replace hK := hK.trans LX
  refine WL.nil (WQ.back (fun _ => hK) (WX.v rfl (fun w2 hC => Ev.lss rfl rfl) rfl (WX.nil (WQ.tn (WC.cond rfl (fun h0 => ?_) (fun h0 => ?_))))))
  · try simp only [bsimp] at h0
    have HV := (H.perm (σ' := [_, _, _, _]) (List.perm_middle (l₁ := [_, _, _]) (l₂ := [])).symm)
    refine WC.reg (WL.v (Ev.move rfl) rfl (WL.v (Ev.fieldAddr fa79_0 rfl) rfl (WL.v (Ev.fieldAddr fa66_0 rfl) rfl (WL.v (Ev.fieldAddr fa29_4 rfl) rfl (WL.v (Ev.load fl3 rfl (H.cell 1 rfl rfl)) rfl (WL.call (vs := [_, _, _, _]) rfl cl80 rfl (fl_say v now size m _ _ _ f.m _ none 0 0 _ HV.local1) ?_))))))
    rintro _ w1 ⟨rfl, r, H1⟩
    replace H := HV.frame1 H1
    refine ⟨_, rfl, ?_⟩
    refine WL.nil (WQ.end0 rfl (⟨rfl, dr', ?_⟩))
    rw [if_pos h0]
    exact ⟨r, none, 0, A, _, c, ((H.nilrow 54 2).perm (List.Perm.swap _ _ _)).sub (List.Sublist.cons_cons _ (List.Sublist.cons_cons _ (List.Sublist.cons_cons _ (List.Sublist.cons_cons _ (List.Sublist.cons _ (List.Sublist.cons _ (List.nil_sublist _)))))))⟩
  try simp only [bsimp] at h0
  refine WC.skip (WQ.end0 rfl (⟨rfl, dr', ?_⟩))
  rw [if_neg (by omega)]
  exact ⟨A, c, (H.sub (List.Sublist.cons_cons _ (List.Sublist.cons _ (List.Sublist.cons_cons _ (List.Sublist.cons_cons _ (List.nil_sublist _)))))).perm (List.perm_append_comm (l₁ := [_, _]) (l₂ := [_]))⟩
end Go.Proofs.Ytcmolgiccccnoaa
