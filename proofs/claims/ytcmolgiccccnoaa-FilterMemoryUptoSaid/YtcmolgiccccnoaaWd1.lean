/- The walks of functions: what each comes to. -/
import Derived.Test.YtcmolgiccccnoaaWn
import Derived.Test.YtcmolgiccccnoaaProg
set_option linter.unusedVariables false
set_option linter.unusedSimpArgs false
namespace Go.Proofs.Ytcmolgiccccnoaa
open Go.RowKit Go.BK
theorem fa84_0 : fldB Try.prog 84 0 0 = true := by kernel_rfl
theorem fa84_1 : fldB Try.prog 84 1 1 = true := by kernel_rfl
theorem cl52 : callB Try.prog 52 = true := by kernel_rfl
theorem cl47 : callB Try.prog 47 = true := by kernel_rfl
theorem cl48 : callB Try.prog 48 = true := by kernel_rfl
@[reducible] def rC (c : Nat) (Al : Option Addr) (n cl : Nat) (Ab : Option Addr) (nb cb : Nat) (s dr seen : Int) : Chunk := .blk c [.slice Al n cl, .slice Ab nb cb, .int .u64 s, .int .i64 dr, .int .i64 seen] 86 (0, 0)
theorem r1_Mix (x : Int) (w : World) :
    Calls Try.prog 52 #[.int .u64 x] w fun e w' => e = .returned (.int .u64 (mixP x)) ∧ St w No w' [] := by
  refine calls_of Try.func52 rfl Try.ntmps52 (by rfl) (K0 := [(0, _)]) ⟨rfl, trivial⟩ ?_
  have H := St.init w
  refine WC.seq (WC.reg (WL.v (Ev.assign rfl) rfl (WL.nil (WQ.tn (WC.seq (WC.reg (WL.v (Ev.move rfl) rfl (WL.v (Ev.move rfl) rfl (WL.v (Ev.shr rfl rfl (by omega)) rfl (WL.v (Ev.bits .xor rfl rfl rfl) rfl (WL.v (Ev.assign rfl) rfl (WL.nil (WQ.tn (WC.seq (WC.reg (WL.v (Ev.move rfl) rfl (WL.v (Ev.mulw rfl rfl) rfl (WL.v (Ev.assign rfl) rfl (WL.nil (WQ.tn (WC.seq (WC.reg (WL.v (Ev.move rfl) rfl (WL.v (Ev.move rfl) rfl (WL.v (Ev.shr rfl rfl (by omega)) rfl (WL.v (Ev.bits .xor rfl rfl rfl) rfl (WL.v (Ev.assign rfl) rfl (WL.nil (WQ.tn (WC.seq (WC.reg (WL.v (Ev.move rfl) rfl (WL.v (Ev.mulw rfl rfl) rfl (WL.v (Ev.assign rfl) rfl (WL.nil ?_)))))))))))))))))))))))))))))))))))
  refine WQ.tn (WC.seq (WC.reg (WL.v (Ev.move rfl) rfl (WL.v (Ev.move rfl) rfl (WL.v (Ev.shr rfl rfl (by omega)) rfl (WL.v (Ev.bits .xor rfl rfl rfl) rfl (WL.v (Ev.assign rfl) rfl (WL.nil (WQ.tn (WC.ret (WQ.ret1 rfl rfl ?_)))))))))))
  exact ⟨rfl, H⟩
def highP (x y : Int) : Int :=
  let x0 := and64 x 4294967295
  let x1 := shr64 x 32
  let y0 := and64 y 4294967295
  let y1 := shr64 y 32
  let w0 := w64 (x0 * y0)
  let t := w64 (w64 (x1 * y0) + shr64 w0 32)
  let w1 := w64 (w64 (x0 * y1) + and64 t 4294967295)
  w64 (w64 (w64 (x1 * y1) + shr64 t 32) + shr64 w1 32)
theorem highP_eq (x y : Int) : highP x y = mulHiP x y := by
  unfold highP mulHiP
  dsimp only
  rw [Int.add_comm (w64 _) (and64 _ _)]
theorem r1_High (x y : Int) (w : World) :
    Calls Try.prog 48 #[.int .u64 x, .int .u64 y] w fun e w' => e = .returned (.int .u64 (highP x y)) ∧ St w No w' [] := by
  refine calls_of Try.func48 rfl Try.ntmps48 (by rfl) (K0 := [(0, _), (1, _)]) ⟨rfl, rfl, trivial⟩ ?_
  have H := St.init w
  refine WC.seq (WC.reg (WL.v (Ev.assign rfl) rfl (WL.nil (WQ.tn (WC.seq (WC.reg (WL.v (Ev.move rfl) rfl (WL.v (Ev.bits .and rfl rfl rfl) rfl (WL.v (Ev.move rfl) rfl (WL.v (Ev.shr rfl rfl (by omega)) rfl (WL.v (Ev.assign rfl) rfl (WL.v (Ev.assign rfl) rfl (WL.nil (WQ.tn (WC.seq (WC.reg (WL.v (Ev.move rfl) rfl (WL.v (Ev.bits .and rfl rfl rfl) rfl (WL.v (Ev.move rfl) rfl (WL.v (Ev.shr rfl rfl (by omega)) rfl (WL.v (Ev.assign rfl) rfl (WL.v (Ev.assign rfl) rfl (WL.nil (WQ.tn (WC.seq (WC.reg (WL.v (Ev.move rfl) rfl (WL.v (Ev.move rfl) rfl (WL.v (Ev.mulw rfl rfl) rfl (WL.v (Ev.assign rfl) rfl (WL.nil ?_)))))))))))))))))))))))))))))))
  refine WQ.tn (WC.seq (WC.reg (WL.v (Ev.move rfl) rfl (WL.v (Ev.move rfl) rfl (WL.v (Ev.mulw rfl rfl) rfl (WL.v (Ev.move rfl) rfl (WL.v (Ev.shr rfl rfl (by omega)) rfl (WL.v (Ev.addw rfl rfl) rfl (WL.v (Ev.assign rfl) rfl (WL.nil (WQ.tn (WC.seq (WC.reg (WL.v (Ev.move rfl) rfl (WL.v (Ev.move rfl) rfl (WL.v (Ev.mulw rfl rfl) rfl (WL.v (Ev.move rfl) rfl (WL.v (Ev.bits .and rfl rfl rfl) rfl (WL.v (Ev.addw rfl rfl) rfl (WL.v (Ev.assign rfl) rfl (WL.nil (WQ.tn (WC.seq (WC.reg (WL.v (Ev.move rfl) rfl (WL.v (Ev.move rfl) rfl (WL.v (Ev.mulw rfl rfl) rfl (WL.v (Ev.move rfl) rfl (WL.v (Ev.shr rfl rfl (by omega)) rfl (WL.v (Ev.addw rfl rfl) rfl (WL.v (Ev.move rfl) rfl (WL.v (Ev.shr rfl rfl (by omega)) rfl (WL.v (Ev.addw rfl rfl) rfl (WL.v (Ev.assign rfl) rfl (WL.nil ?_)))))))))))))))))))))))))))))))))))
  refine WQ.tn (WC.ret (WQ.ret1 rfl rfl ?_))
  exact ⟨rfl, H⟩
theorem r1_Next (c : Nat) (Al : Option Addr) (n cl : Nat) (Ab : Option Addr) (nb cb : Nat) (s dr seen : Int) (w : World) (H : St w (Bk [rC c Al n cl Ab nb cb s dr seen]) w [rC c Al n cl Ab nb cb s dr seen]) :
    Calls Try.prog 47 #[.pointer (some ⟨c, 2, none⟩)] w fun e w' => e = .returned (.int .u64 (mixP (stepD s))) ∧ ∃ dr', St w (Bk [rC c Al n cl Ab nb cb s dr seen]) w' [rC c Al n cl Ab nb cb (stepD s) dr' seen] := by
  refine calls_of Try.func47 rfl Try.ntmps47 (by rfl) (K0 := [(0, _)]) ⟨rfl, trivial⟩ (WC.seq (WC.reg (WL.v (Ev.assign rfl) rfl (WL.nil (WQ.tn (WC.seq (WC.reg (WL.v (Ev.move rfl) rfl (WL.v (Ev.nilCheck rfl) rfl (WL.v (Ev.fieldAddr fa84_0 rfl) rfl (WL.v (Ev.load fl82 rfl (H.cell 0 rfl rfl)) rfl (WL.v (Ev.addw rfl rfl) rfl (WL.v (Ev.nilCheck rfl) rfl (WL.v (Ev.fieldAddr fa84_0 rfl) rfl (WL.store (i := 0) (vs := [_]) rfl rfl rfl sz82 rfl H rfl rfl fun w1 H L => (WL.nil (WQ.tn (WC.seq (WC.reg (WL.v (Ev.move rfl) rfl (WL.v (Ev.nilCheck rfl) rfl (WL.v (Ev.fieldAddr fa84_1 rfl) rfl (WL.v (Ev.load fl3 rfl (H.cell 0 rfl rfl)) rfl (WL.v (Ev.addw rfl rfl) rfl (WL.v (Ev.nilCheck rfl) rfl (WL.v (Ev.fieldAddr fa84_1 rfl) rfl (WL.store (i := 0) (vs := [_]) rfl rfl rfl sz3 rfl H rfl rfl fun w1 H L => (WL.nil ?_))))))))))))))))))))))))))))
  refine WQ.tn (WC.seq (WC.reg (WL.v (Ev.move rfl) rfl (WL.v (Ev.nilCheck rfl) rfl (WL.v (Ev.fieldAddr fa84_0 rfl) rfl (WL.v (Ev.load fl82 rfl (H.cell 0 rfl rfl)) rfl (WL.callS (vs := [_]) rfl cl52 rfl H (r1_Mix _ _) fun w1 H L => (WL.v (Ev.assign rfl) rfl (WL.nil (WQ.tn (WC.ret (WQ.ret1 rfl rfl ?_))))))))))))
  exact ⟨rfl, _, H⟩
theorem r1_Below (c : Nat) (Al : Option Addr) (n cl : Nat) (Ab : Option Addr) (nb cb : Nat) (s dr seen : Int) (k : Int) (hk : 1 ≤ k) (w : World) (H : St w (Bk [rC c Al n cl Ab nb cb s dr seen]) w [rC c Al n cl Ab nb cb s dr seen]) :
    Calls Try.prog 41 #[.pointer (some ⟨c, 2, none⟩), .int .i64 k] w fun e w' => e = .returned (.int .i64 (belP s k)) ∧ ∃ dr', St w (Bk [rC c Al n cl Ab nb cb s dr seen]) w' [rC c Al n cl Ab nb cb (stepD s) dr' seen] := by
  refine calls_of Try.func41 rfl Try.ntmps41 (by rfl) (K0 := [(0, _), (1, _)]) ⟨rfl, rfl, trivial⟩ (WC.seq (WC.reg (WL.v (Ev.assign rfl) rfl (WL.nil (WQ.tn (WC.seq (WC.seq (WC.reg (WL.v (Ev.move rfl) rfl (WL.v (Ev.lss rfl rfl) rfl (WL.nil (WQ.tn (WC.cond rfl (fun h0 => ?_) (fun h0 => ?_))))))))))))))
  · simp only [bsimp] at h0
    exfalso; omega
  try simp only [bsimp] at h0
  refine WC.skip (WQ.tn (WC.seq (WC.reg (WL.v (Ev.move rfl) rfl (WL.call (vs := [_]) rfl cl47 rfl (r1_Next c Al n cl Ab nb cb s dr seen w H) ?_)))))
  rintro _ w1 ⟨rfl, dr', H⟩
  refine ⟨_, rfl, ?_⟩
  refine WL.v (Ev.assign rfl) rfl (WL.nil (WQ.tn (WC.seq (WC.reg (WL.v (Ev.move rfl) rfl (WL.v (Ev.move rfl) rfl (WL.v (Ev.conv Try.underlying3 Try.underlying82 rfl) rfl (WL.callS (vs := [_, _]) rfl cl48 rfl H (r1_High _ _ _) fun w1 H L => (WL.v (Ev.conv Try.underlying82 Try.underlying3 rfl) rfl (WL.v (Ev.assign rfl) rfl (WL.nil (WQ.tn (WC.ret (WQ.ret1 rfl rfl (⟨?_, dr', H⟩)))))))))))))))
  rw [highP_eq]; rfl
end Go.Proofs.Ytcmolgiccccnoaa
