/- The walks of functions: what each comes to. -/
import Derived.Test.YtodappgiadelaaaDoorLib
import Derived.Test.YtodappgiadelaaaDoorByt
import Derived.Test.YtodappgiadelaaaDoorProg
set_option linter.unusedVariables false
set_option linter.unusedSimpArgs false
namespace Go.Proofs.YtodappgiadelaaaDoor
open Go.RowKit Go.BK
theorem sz5 : szOk Tryd.prog 5 1 := by unfold szOk; kernel_rfl
theorem fl5 : flatB Tryd.prog 5 = true := by kernel_rfl
theorem cl60 : callB Tryd.prog 60 = true := by kernel_rfl
theorem lex_Lower (s : Bs) (hs : Sml s.length) (w : World) :
    Calls Tryd.prog 60 #[str s] w fun e w' => e = .returned (str (low s)) ∧ St w No w' [] := by
  have hs := hs.le
  refine calls_of Tryd.func60 rfl Tryd.ntmps60 (by rfl) (K0 := [(0, _)]) ⟨rfl, trivial⟩ ?_
  have H := St.init w
  refine WC.seq (WC.reg (WL.v (Ev.assign rfl) rfl (WL.nil (WQ.tn (WC.seq (WC.reg (WL.v (Ev.move rfl) rfl (WL.toBytes Tryd.underlying9 Tryd.underlying28 Tryd.underlying5 rfl H rfl fun b1 cap w1 hb1 hcap H L => ?_))))))))
  rw [← lowCells_zero] at H
  refine WL.v (Ev.assign rfl) rfl (WL.nil (WQ.tn (WC.seq (WC.seq (WC.reg (WL.v (Ev.move rfl) rfl (WL.v (Ev.lensl Tryd.underlying28 rfl) rfl (WL.v (Ev.move rfl) rfl (WL.nil (WQ.tn (WC.block (WC.loop (γ := Nat) (fun j => [(0, str s), (3, .slice (some ⟨b1, 0, none⟩) s.length cap), (8, .slice (some ⟨b1, 0, none⟩) s.length cap), (9, .int .i64 (s.length : Nat)), (10, .int .i64 (j : Nat))]) (fun j w1 => j ≤ s.length ∧ St w No w1 [.blk b1 (lowCells s j (List.replicate (cap - s.length) (Value.int .u8 0))) 5 (cap, cap + 1)]) (fun j => s.length - j) 0 (⟨Nat.zero_le _, H⟩) ⟨rfl, rfl, rfl, rfl, rfl, trivial⟩ ?_))))))))))))
  rintro j w1 ⟨hj, H⟩
  refine WC.seq (WC.reg (WL.v (Ev.lssN rfl rfl) rfl (WL.nil (WQ.tn (WC.seq (WC.cond rfl (fun h1 => ?_) (fun h1 => ?_)))))))
  · try simp only [bsimp] at h1
    refine WC.skip (WQ.tn (WC.seq (WC.block (WC.seq (WC.reg (WL.v (Ev.move rfl) rfl (WL.v (Ev.idx Tryd.underlying28 sz5 rfl rfl (by omega)) rfl (WL.v (Ev.load fl5 rfl (H.cell 0 rfl (lowCells_get h1))) rfl (WL.v (Ev.assign rfl) rfl (WL.v (Ev.assign rfl) rfl (WL.nil (WQ.tn (WC.seq (WC.reg (WL.v (Ev.move rfl) rfl (WL.v (Ev.geq rfl rfl) rfl (WL.v (Ev.move rfl) rfl (WL.g (Met.yes rfl rfl) (fun hg => Ev.move rfl) rfl (WL.g (Met.yes rfl rfl) (fun hg => Ev.leq ((evG.un rfl).ev hg) rfl) rfl (WL.v (Ev.and rfl rfl rfl) rfl (WL.nil (WQ.tn (WC.cond rfl (fun h2 => ?_) (fun h2 => ?_))))))))))))))))))))))))
    · try simp only [bsimp] at h2
      refine WC.reg (WL.v (Ev.move rfl) rfl (WL.v (Ev.move rfl) rfl (WL.v (Ev.move rfl) rfl (WL.v (Ev.bits .or rfl rfl rfl) rfl (WL.v (Ev.idx Tryd.underlying28 sz5 rfl rfl (by omega)) rfl (WL.storeT (i := 0) (v := _) rfl rfl rfl sz5 rfl H rfl (by simp; omega) (by rw [lowCells_len _ _ _ hj]; simp; omega) fun w1 H L => ?_))))))
      rw [show (List.set _ _ _ : Held) = [_] from rfl, lowCells_put h1 (low_or h1 h2)] at H
      refine WL.nil (WQ.blk (WQ.tn (WC.reg (WL.v (Ev.addN (b := 1) rfl rfl (by omega)) rfl (WL.v (Ev.move rfl) rfl (WL.nil ?_))))))
      exact WQ.again (j + 1) (⟨by omega, H⟩) ⟨rfl, rfl, rfl, rfl, rfl, trivial⟩ (by first | omega | (dsimp only; omega))
    try simp only [bsimp] at h2
    refine WC.skip (WQ.blk (WQ.tn (WC.reg (WL.v (Ev.addN (b := 1) rfl rfl (by omega)) rfl (WL.v (Ev.move rfl) rfl (WL.nil ?_))))))
    exact WQ.again (j + 1) (⟨by omega, by rw [lowCells_same h1 (by omega)]; exact H⟩) ⟨rfl, rfl, rfl, rfl, rfl, trivial⟩ (by first | omega | (dsimp only; omega))
  try simp only [bsimp] at h1
  refine WC.exit (WQ.tn_exit (WQ.loop_exit (WQ.blk_here rfl (WQ.tn (WC.seq ?_)))))
  obtain rfl : j = s.length := by omega
  have R := H.rdB kCh 0 rfl (low s) (lowCells_end s _) (by rw [low_length]; exact hcap)
  refine WC.reg (WL.v (Ev.move rfl) rfl (WL.v (Ev.toStr (s := low s) Tryd.underlying28 Tryd.underlying5 Tryd.underlying9 (by rw [low_length]; rfl) ⟨rfl, fun _ => rfl⟩ R) rfl (WL.v (Ev.assign rfl) rfl (WL.nil (WQ.tn (WC.ret (WQ.ret1 rfl rfl ?_)))))))
  exact ⟨rfl, H.done⟩
theorem alike_len (a b : Bs) : alike a b = (decide (a.length = b.length) && decide (low a = low b)) := by
  unfold alike
  by_cases h : a.length = b.length
  · simp [h]
  · have : low a ≠ low b := fun e => h (by rw [← low_length a, e, low_length])
    simp [h, this]
theorem lex_Alike (a b : Bs) (ha : Sml a.length) (hb : Sml b.length) (w : World) :
    Calls Tryd.prog 45 #[str a, str b] w fun e w' => e = .returned (.bool (alike a b)) ∧ St w No w' [] := by
  refine calls_of Tryd.func45 rfl Tryd.ntmps45 (by rfl) (K0 := [(0, _), (1, _)]) ⟨rfl, rfl, trivial⟩ ?_
  have H := St.init w
  refine WC.seq (WC.reg (WL.v (Ev.assign rfl) rfl (WL.nil (WQ.tn (WC.seq (WC.reg (WL.v (Ev.move rfl) rfl (WL.v (Ev.lens Tryd.underlying9 rfl) rfl (WL.v (Ev.move rfl) rfl (WL.v (Ev.lens Tryd.underlying9 rfl) rfl (WL.v (Ev.eqN rfl rfl) rfl (WL.v (Ev.move rfl) rfl (WL.g (Met.yes rfl rfl) (fun hg => Ev.move rfl) rfl (WL.gcallS (vs := [_]) (Met.yes rfl rfl) (fun hg => (evs_cons ((evG.un rfl).ev hg) rfl)) cl60 rfl H (fun hg => lex_Lower _ ha _) fun w1 H L => (WL.g (Met.yes rfl rfl) (fun hg => Ev.move rfl) rfl (WL.gcallS (vs := [_]) (Met.yes rfl rfl) (fun hg => (evs_cons ((evG.un rfl).ev hg) rfl)) cl60 rfl H (fun hg => lex_Lower _ hb _) fun w1 H L => (WL.g (Met.yes rfl rfl) (fun hg => Ev.eqs ((evG.un rfl).ev hg) ((evG.un rfl).ev hg)) rfl (WL.v (Ev.and rfl rfl rfl) rfl (WL.v (Ev.assign rfl) rfl (WL.nil ?_))))))))))))))))))))
  refine WQ.tn (WC.ret (WQ.ret1 rfl rfl ?_))
  exact ⟨by congr 2; exact (alike_len a b).symm, H⟩
end Go.Proofs.YtodappgiadelaaaDoor
