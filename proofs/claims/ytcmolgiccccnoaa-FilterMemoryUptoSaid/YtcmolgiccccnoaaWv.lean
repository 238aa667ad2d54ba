/- The walks of functions: what each comes to. -/
import Derived.Test.YtcmolgiccccnoaaWx
import Derived.Test.YtcmolgiccccnoaaSub
import Derived.Test.YtcmolgiccccnoaaProg
set_option linter.unusedVariables false
set_option linter.unusedSimpArgs false
namespace Go.Proofs.Ytcmolgiccccnoaa
open Go.RowKit Go.BK
theorem cl10 : callB Try.prog 10 = true := by kernel_rfl
theorem fa34_0 : fldB Try.prog 34 0 0 = true := by kernel_rfl
theorem by29 : byOk Try.prog 29 64 := by unfold byOk; kernel_rfl
theorem fa34_1 : fldB Try.prog 34 1 1 = true := by kernel_rfl
theorem fa34_2 : fldB Try.prog 34 2 2 = true := by kernel_rfl
theorem fa34_3 : fldB Try.prog 34 3 3 = true := by kernel_rfl
theorem fa38_3 : fldB Try.prog 38 3 3 = true := by kernel_rfl
theorem fa38_2 : fldB Try.prog 38 2 2 = true := by kernel_rfl
theorem getF_cons (x : Fld) (r : List Fld) (nm : Bs) : getF (x :: r) nm = if alike x.1 nm = true then (x.2, (getF r nm).2 + 1) else getF r nm := by
  unfold getF
  by_cases h : alike x.1 nm = true
  · rw [List.filter_cons_of_pos (p := fun f : Fld => alike f.1 nm) h, if_pos h]; rfl
  · rw [List.filter_cons_of_neg (p := fun f : Fld => alike f.1 nm) h, if_neg h]
theorem getF_yes {xs : List Fld} {nm : Bs} {q : Nat} (hq : q < xs.length) (h : alike xs[q].1 nm = true) : getF (xs.drop q) nm = (xs[q].2, (getF (xs.drop (q + 1)) nm).2 + 1) := by
  rw [List.drop_eq_getElem_cons hq, getF_cons, if_pos h]
theorem getF_no {xs : List Fld} {nm : Bs} {q : Nat} (hq : q < xs.length) (h : alike xs[q].1 nm = false) : getF (xs.drop q) nm = getF (xs.drop (q + 1)) nm := by
  rw [List.drop_eq_getElem_cons hq, getF_cons, if_neg (by rw [h]; simp)]
theorem getF_len (xs : List Fld) (nm : Bs) : (getF xs nm).2 ≤ xs.length := List.length_filter_le _ _
theorem ref07_Get (A : Option Addr) (c : Nat) (xs : List Fld) (G : Nat → Prop) (hx : Okf xs) (nm : Bs) (hn : Sml nm.length) (w : World) (R : Rd kFd G w A c xs) :
    Calls Try.prog 19 #[.slice A xs.length c, str nm] w fun e w' => e = .returned (.tuple #[str (getF xs nm).1, .int .i64 ((getF xs nm).2 : Nat)]) ∧ St w No w' [] := by
  have hlen := hx.len
  refine calls_of Try.func19 rfl Try.ntmps19 (by rfl) (K0 := [(0, _), (1, _)]) ⟨rfl, rfl, trivial⟩ ?_
  have H := St.init w
  refine WC.seq (WC.reg (WL.v (Ev.assign rfl) rfl (WL.v (Ev.assign rfl) rfl (WL.nil (WQ.tn (WC.seq (WC.reg (WL.v (Ev.assign rfl) rfl (WL.v (Ev.assign rfl) rfl (WL.nil (WQ.tn (WC.seq (WC.seq (WC.reg (WL.v (Ev.move rfl) rfl (WL.v (Ev.lensl Try.underlying32 rfl) rfl (WL.v (Ev.sub rfl rfl (by unfold I64; omega)) rfl (WL.v (Ev.assign rfl) rfl (WL.nil (WQ.tn (WC.block (WC.loop (γ := Nat) (fun m => [(0, .slice A xs.length c), (1, str nm), (6, str (getF (xs.drop m) nm).1), (7, .int .i64 ((getF (xs.drop m) nm).2 : Nat)), (8, .int .i64 ((m : Nat) - 1 : Int))]) (fun m w1 => m ≤ xs.length ∧ St w No w1 []) (fun m => m) xs.length (⟨Nat.le_refl _, H⟩) ⟨rfl, rfl, (by rw [List.drop_length]; rfl), (by rw [List.drop_length]; rfl), rfl, trivial⟩ ?_))))))))))))))))))))))
  rintro m w1 ⟨hm, H⟩
  refine WC.seq (WC.seq (WC.reg (WL.v (Ev.move rfl) rfl (WL.v (Ev.geq rfl rfl) rfl (WL.nil (WQ.tn (WC.cond rfl (fun h1 => ?_) (fun h1 => ?_))))))))
  · simp only [bsimp] at h1
    obtain ⟨q, rfl⟩ : ∃ q, m = q + 1 := ⟨m - 1, by omega⟩
    rw [show ((q + 1 : Nat) : Int) - 1 = (q : Int) by omega]
    have hq : q < xs.length := by omega
    obtain ⟨bk, off, rfl, hG, hc⟩ := R.at hq
    have hj1 := getx hq
    have hgl := getF_len (xs.drop (q + 1)) nm
    rw [List.length_drop] at hgl
    refine WC.skip (WQ.tn (WC.seq (WC.block (WC.seq (WC.reg (WL.v (Ev.move rfl) rfl (WL.v (Ev.move rfl) rfl (WL.v (Ev.idx Try.underlying32 sz54 rfl rfl (by omega)) rfl (WL.v (Ev.fieldAddr fa54_0 rfl) rfl (WL.v (Ev.load fl9 rfl (H.old (hc _ _ hj1 0 _ rfl))) rfl (WL.v (Ev.move rfl) rfl (WL.callS (vs := [_, _]) rfl cl30 rfl H (ref07_alike _ _ (hx.at hj1).1 hn _) fun w1 H L => (WL.nil (WQ.tn (WC.cond rfl (fun h2 => ?_) (fun h2 => ?_))))))))))))))))
    · try simp only [bsimp] at h2
      refine WC.seq (WC.reg (WL.v (Ev.move rfl) rfl (WL.v (Ev.move rfl) rfl (WL.v (Ev.idx Try.underlying32 sz54 rfl rfl (by omega)) rfl (WL.v (Ev.fieldAddr fa54_1 rfl) rfl (WL.v (Ev.load fl9 rfl (H.old (hc _ _ hj1 1 _ rfl))) rfl (WL.v (Ev.assign rfl) rfl (WL.nil (WQ.tn (WC.reg (WL.v (Ev.move rfl) rfl (WL.v (Ev.addN (b := 1) rfl rfl (by omega)) rfl (WL.v (Ev.assign rfl) rfl (WL.nil (WQ.blk (WQ.tn (WC.reg (WL.v (Ev.move rfl) rfl (WL.v (Ev.sub rfl rfl (by unfold I64; omega)) rfl (WL.v (Ev.assign rfl) rfl (WL.nil ?_)))))))))))))))))))))
      exact WQ.again (q) (⟨by omega, H⟩) ⟨rfl, rfl, (by rw [getF_yes hq h2]; rfl), (by rw [getF_yes hq h2]; rfl), rfl, trivial⟩ (by first | omega | (dsimp only; omega))
    try simp only [bsimp] at h2
    refine WC.skip (WQ.blk (WQ.tn (WC.reg (WL.v (Ev.move rfl) rfl (WL.v (Ev.sub rfl rfl (by unfold I64; omega)) rfl (WL.v (Ev.assign rfl) rfl (WL.nil ?_)))))))
    exact WQ.again (q) (⟨by omega, H⟩) ⟨rfl, rfl, (by rw [getF_no hq h2]; rfl), (by rw [getF_no hq h2]; rfl), rfl, trivial⟩ (by first | omega | (dsimp only; omega))
  try simp only [bsimp] at h1
  refine WC.exit (WQ.tn_exit (WQ.loop_exit (WQ.blk_here rfl (WQ.tn (WC.seq (WC.reg (WL.v (Ev.move rfl) rfl (WL.v (Ev.move rfl) rfl (WL.v (Ev.assign rfl) rfl (WL.v (Ev.assign rfl) rfl (WL.nil (WQ.tn (WC.ret (WQ.ret2 rfl rfl rfl ?_))))))))))))))
  obtain rfl : m = 0 := by omega
  exact ⟨rfl, H⟩
end Go.Proofs.Ytcmolgiccccnoaa
