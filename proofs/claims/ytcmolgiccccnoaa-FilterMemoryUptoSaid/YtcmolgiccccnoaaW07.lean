/- The walks of functions: what each comes to. -/
import Derived.Test.YtcmolgiccccnoaaW04
import Derived.Test.YtcmolgiccccnoaaProg
set_option linter.unusedVariables false
set_option linter.unusedSimpArgs false
namespace Go.Proofs.Ytcmolgiccccnoaa
open Go.RowKit Go.BK
theorem cl42 : callB Try.prog 42 = true := by kernel_rfl
theorem sz54 : szOk Try.prog 54 2 := by unfold szOk; kernel_rfl
theorem fa54_0 : fldB Try.prog 54 0 0 = true := by kernel_rfl
theorem fl9 : flatB Try.prog 9 = true := by kernel_rfl
theorem cl30 : callB Try.prog 30 = true := by kernel_rfl
theorem ag54 : aggB Try.prog 54 = true := by kernel_rfl
theorem z54 : zOk Try.prog 54 (.agg #[str [], str []]) := by unfold zOk; kernel_rfl
theorem by54 : byOk Try.prog 54 32 := by unfold byOk; kernel_rfl
theorem cl37 : callB Try.prog 37 = true := by kernel_rfl
theorem pl54 : plOf Try.prog 54 = some [(0, 1), (1, 1)] := by kernel_rfl
theorem mixed : Try.prog.follows .mixedOrders = true := by kernel_rfl
theorem cmp54 : cmpB Try.prog 54 [0, 0] = true := by kernel_rfl
theorem ref07_alike (a b : Bs) (ha : Sml a.length) (hb : Sml b.length) (w : World) :
    Calls Try.prog 30 #[str a, str b] w fun e w' => e = .returned (.bool (alike a b)) ∧ St w No w' [] := by
  refine calls_of Try.func30 rfl Try.ntmps30 (by rfl) (K0 := [(0, _), (1, _)]) ⟨rfl, rfl, trivial⟩ ?_
  have H := St.init w
  refine WC.seq (WC.reg (WL.v (Ev.assign rfl) rfl (WL.nil (WQ.tn (WC.seq (WC.reg (WL.v (Ev.move rfl) rfl (WL.callS (vs := [_]) rfl cl42 rfl H (ref04_Lower _ ha _) fun w1 H L => (WL.v (Ev.move rfl) rfl (WL.callS (vs := [_]) rfl cl42 rfl H (ref04_Lower _ hb _) fun w1 H L => (WL.v (Ev.eqs rfl rfl) rfl (WL.v (Ev.assign rfl) rfl (WL.nil (WQ.tn (WC.ret (WQ.ret1 rfl rfl ?_))))))))))))))))
  exact ⟨rfl, H.done⟩
theorem remove_len {xs : List Fld} {nm : Bs} {j : Nat} : (removeF (xs.take j) nm).length ≤ j := Nat.le_trans (List.length_filter_le _ _) (by rw [List.length_take]; omega)
theorem remove_yes {xs : List Fld} {nm : Bs} {j : Nat} (h : j < xs.length) (ha : alike xs[j].1 nm = false) : removeF (xs.take (j + 1)) nm = removeF (xs.take j) nm ++ [xs[j]] := filter_yes h (by simp [ha])
theorem remove_no {xs : List Fld} {nm : Bs} {j : Nat} (h : j < xs.length) (ha : alike xs[j].1 nm = true) : removeF (xs.take (j + 1)) nm = removeF (xs.take j) nm := filter_no h (by simp [ha])
theorem ref07_Remove (A : Option Addr) (c : Nat) (xs : List Fld) (G : Nat → Prop) (hx : Okf xs) (nm : Bs) (hn : Sml nm.length) (w : World) (R : Rd kFd G w A c xs) :
    Calls Try.prog 37 #[.slice A xs.length c, str nm] w fun e w' => ∃ A' c', e = .returned (.slice A' (removeF xs nm).length c') ∧ St w No w' [.row 54 2 A' (removeF xs nm).length c' ((removeF xs nm).flatMap kFd.enc)] := by
  have hlen := hx.len
  refine calls_of Try.func37 rfl Try.ntmps37 (by rfl) (K0 := [(0, _), (1, _)]) ⟨rfl, rfl, trivial⟩ ?_
  have H := (St.init w).nilrow 54 2
  refine WC.seq (WC.reg (WL.v (Ev.assign rfl) rfl (WL.nil (WQ.tn (WC.seq (WC.reg (WL.v (Ev.assign rfl) rfl (WL.nil (WQ.tn (WC.seq (WC.seq (WC.reg (WL.v (Ev.assign rfl) rfl (WL.nil (WQ.tn (WC.block (WC.loop (γ := Nat × List Fld × Option Addr × Nat) (fun ⟨j, o, A2, c2⟩ => [(0, .slice A xs.length c), (1, str nm), (5, .slice A2 o.length c2), (6, .int .i64 (j : Nat))]) (fun ⟨j, o, A2, c2⟩ w1 => j ≤ xs.length ∧ o = removeF (xs.take j) nm ∧ St w No w1 [.row 54 2 A2 o.length c2 (o.flatMap kFd.enc)]) (fun ⟨j, o, A2, c2⟩ => xs.length - j) (0, [], none, 0) (⟨Nat.zero_le _, rfl, H⟩) ⟨rfl, rfl, rfl, rfl, trivial⟩ ?_)))))))))))))))))
  rintro ⟨j, o, A2, c2⟩ w1 ⟨hj, ho, H⟩
  refine WC.seq (WC.seq (WC.reg (WL.v (Ev.move rfl) rfl (WL.v (Ev.move rfl) rfl (WL.v (Ev.lensl Try.underlying32 rfl) rfl (WL.v (Ev.lssN rfl rfl) rfl (WL.nil (WQ.tn (WC.cond rfl (fun h1 => ?_) (fun h1 => ?_))))))))))
  · simp only [bsimp] at h1
    obtain ⟨bk, off, rfl, hG, hc⟩ := R.at h1
    have hj1 := getx h1
    refine WC.skip (WQ.tn (WC.seq (WC.block (WC.seq (WC.reg (WL.v (Ev.move rfl) rfl (WL.v (Ev.move rfl) rfl (WL.v (Ev.idx Try.underlying32 sz54 rfl rfl (by omega)) rfl (WL.v (Ev.fieldAddr fa54_0 rfl) rfl (WL.v (Ev.load fl9 rfl (H.old (hc _ _ hj1 0 _ rfl))) rfl (WL.v (Ev.move rfl) rfl (WL.callS (vs := [_, _]) rfl cl30 rfl H (ref07_alike _ _ (hx.at hj1).1 hn _) fun w1 H L => (WL.v (Ev.not rfl) rfl (WL.nil (WQ.tn (WC.cond rfl (fun h2 => ?_) (fun h2 => ?_)))))))))))))))))
    · try simp only [bsimp] at h2
      refine WC.reg (WL.v (Ev.move rfl) rfl (WL.v (Ev.move rfl) rfl (WL.v (Ev.move rfl) rfl (WL.v (Ev.idx Try.underlying32 sz54 rfl rfl (by omega)) rfl (WL.v (Ev.loadA (vs := [_, _]) ag54 sz54 rfl (H.olds (rdCells hc hj1 0 rfl))) rfl (WL.buildSlice (vs := [_, _]) (ps := [(_, _)]) Try.underlying32 sz54 z54 rfl (by omega) (by omega) rfl rfl H rfl fun b1 w1 hb1 H L => (WL.append (i := 1) (news := [_, _]) Try.underlying32 sz54 by54 z54 rfl (by omega) rfl rfl H rfl rfl (H.cells 0 rfl rfl) (by exact allOne_mem rfl) (by omega) (by have := ho ▸ remove_len (xs := xs) (nm := nm) (j := j); omega) rfl fun A1 c1 w1 H L LA LB => ?_)))))))
      replace H := H.tail
      refine WL.v (Ev.assign rfl) rfl (WL.nil (WQ.blk (WQ.tn (WC.reg (WL.v (Ev.move rfl) rfl (WL.v (Ev.addN (b := 1) rfl rfl (by omega)) rfl (WL.v (Ev.assign rfl) rfl (WL.nil ?_))))))))
      exact WQ.again ((j + 1, o ++ [xs[j]], A1, c1)) (⟨by omega, by rw [ho, remove_yes h1 h2], by rw [flat_snoc, List.length_append]; exact H⟩) ⟨rfl, rfl, (by rw [List.length_append]; rfl), rfl, trivial⟩ (by first | omega | (dsimp only; omega))
    try simp only [bsimp] at h2
    refine WC.skip (WQ.blk (WQ.tn (WC.reg (WL.v (Ev.move rfl) rfl (WL.v (Ev.addN (b := 1) rfl rfl (by omega)) rfl (WL.v (Ev.assign rfl) rfl (WL.nil ?_)))))))
    exact WQ.again ((j + 1, o, A2, c2)) (⟨by omega, by rw [ho, remove_no h1 h2], H⟩) ⟨rfl, rfl, rfl, rfl, trivial⟩ (by first | omega | (dsimp only; omega))
  try simp only [bsimp] at h1
  refine WC.exit (WQ.tn_exit (WQ.loop_exit (WQ.blk_here rfl (WQ.tn (WC.seq (WC.reg (WL.v (Ev.move rfl) rfl (WL.v (Ev.assign rfl) rfl (WL.nil (WQ.tn (WC.ret (WQ.ret1 rfl rfl ?_))))))))))))
  obtain rfl : j = xs.length := by omega
  rw [List.take_length] at ho
  subst ho
  exact ⟨A2, c2, rfl, H⟩
theorem ref07_Set (A : Option Addr) (c : Nat) (xs : List Fld) (G : Nat → Prop) (hx : Okf xs) (nm v : Bs) (hn : Sml nm.length) (w : World) (R : Rd kFd G w A c xs) :
    Calls Try.prog 28 #[.slice A xs.length c, str nm, str v] w fun e w' => ∃ A' c', e = .returned (.slice A' (setF xs nm v).length c') ∧ St w No w' [.row 54 2 A' (setF xs nm v).length c' ((setF xs nm v).flatMap kFd.enc)] := by
  have hlen := hx.len
  have hr : (removeF xs nm).length ≤ xs.length := List.length_filter_le _ _
  refine calls_of Try.func28 rfl Try.ntmps28 (by rfl) (K0 := [(0, _), (1, _), (2, _)]) ⟨rfl, rfl, rfl, trivial⟩ ?_
  have H := St.init w
  refine WC.seq (WC.reg (WL.v (Ev.assign rfl) rfl (WL.nil (WQ.tn (WC.seq (WC.reg (WL.v (Ev.move rfl) rfl (WL.v (Ev.move rfl) rfl (WL.call (vs := [_, _]) rfl cl37 rfl (ref07_Remove _ _ _ _ hx _ hn _ R) ?_)))))))))
  rintro _ w1 ⟨A2, c2, rfl, H1⟩
  replace H := H.app H1
  refine ⟨_, rfl, ?_⟩
  refine WL.v (Ev.assign rfl) rfl (WL.nil (WQ.tn (WC.seq (WC.reg (WL.v (Ev.move rfl) rfl (WL.v (Ev.move rfl) rfl (WL.v (Ev.move rfl) rfl (WL.v (Ev.build (vs := [_, _]) (ps := [(_, _), (_, _)]) pl54 z54 rfl rfl) rfl (WL.buildSlice (vs := [_, _]) (ps := [(_, _)]) Try.underlying32 sz54 z54 rfl (by omega) (by omega) rfl rfl H rfl fun b1 w1 hb1 H L => (WL.append (i := 1) (news := [_, _]) Try.underlying32 sz54 by54 z54 rfl (by omega) rfl rfl H rfl rfl (H.cells 0 rfl rfl) (by exact allOne_mem rfl) (by omega) (by omega) rfl fun A1 c1 w1 H L LA LB => ?_))))))))))
  replace H := H.tail
  refine WL.v (Ev.assign rfl) rfl (WL.nil (WQ.tn (WC.ret (WQ.ret1 rfl rfl ?_))))
  have e1 : (setF xs nm v).length = (removeF xs nm).length + 1 := by simp [setF]
  have e2 : (setF xs nm v).flatMap kFd.enc = (removeF xs nm).flatMap kFd.enc ++ [str nm, str v] := by unfold setF; rw [flat_snoc]; rfl
  refine ⟨A1, c1, by rw [e1], ?_⟩
  rw [e1, e2]; exact H
theorem same_yes {x y : Fld} (h : (!(decide (x.1 = y.1) && (decide (x.2 = y.2) && true))) = false) : x = y := by
  obtain ⟨a, b⟩ := x; obtain ⟨a', b'⟩ := y; simp at h; simp [h]
theorem same_no {x y : Fld} (h : (!(decide (x.1 = y.1) && (decide (x.2 = y.2) && true))) = true) : x ≠ y := by
  rintro rfl; simp at h
theorem ref07_Same (A : Option Addr) (c : Nat) (xs : List Fld) (G : Nat → Prop) (A2 : Option Addr) (c2 : Nat) (ys : List Fld) (G2 : Nat → Prop) (hx : Sml xs.length) (w : World) (R : Rd kFd G w A c xs) (R2 : Rd kFd G2 w A2 c2 ys) :
    Calls Try.prog 13 #[.slice A xs.length c, .slice A2 ys.length c2] w fun e w' => e = .returned (.bool (decide (xs = ys))) ∧ St w No w' [] := by
  have hlen := hx.le
  refine calls_of Try.func13 rfl Try.ntmps13 (by rfl) (K0 := [(0, _), (1, _)]) ⟨rfl, rfl, trivial⟩ ?_
  have H := St.init w
  refine WC.seq (WC.reg (WL.v (Ev.assign rfl) rfl (WL.nil (WQ.tn (WC.seq (WC.seq (WC.reg (WL.v (Ev.move rfl) rfl (WL.v (Ev.lensl Try.underlying32 rfl) rfl (WL.v (Ev.move rfl) rfl (WL.v (Ev.lensl Try.underlying32 rfl) rfl (WL.v (Ev.neN rfl rfl) rfl (WL.nil (WQ.tn (WC.cond rfl (fun h0 => ?_) (fun h0 => ?_))))))))))))))))
  · try simp only [bsimp] at h0
    refine WC.seq (WC.reg (WL.v (Ev.assign rfl) rfl (WL.nil (WQ.tn (WC.ret (WQ.tn_ret (WQ.ret1 rfl rfl ?_)))))))
    exact ⟨by congr 2; exact (decide_eq_false (fun e => h0 (by rw [e]))).symm, H⟩
  try simp only [bsimp] at h0
  refine WC.skip (WQ.tn (WC.seq (WC.seq (WC.reg (WL.v (Ev.assign rfl) rfl (WL.nil (WQ.tn (WC.block (WC.loop (γ := Nat) (fun j => [(0, .slice A xs.length c), (1, .slice A2 ys.length c2), (5, .int .i64 (j : Nat))]) (fun j w1 => j ≤ xs.length ∧ xs.take j = ys.take j ∧ St w No w1 []) (fun j => xs.length - j) 0 (⟨Nat.zero_le _, rfl, H⟩) ⟨rfl, rfl, rfl, trivial⟩ ?_)))))))))
  rintro j w1 ⟨hj, he, H⟩
  refine WC.seq (WC.seq (WC.reg (WL.v (Ev.move rfl) rfl (WL.v (Ev.move rfl) rfl (WL.v (Ev.lensl Try.underlying32 rfl) rfl (WL.v (Ev.lssN rfl rfl) rfl (WL.nil (WQ.tn (WC.cond rfl (fun h2 => ?_) (fun h2 => ?_))))))))))
  · simp only [bsimp] at h2
    obtain ⟨bk, off, rfl, hG, hc⟩ := R.at h2
    have hj1 := getx h2
    have h2b : j < ys.length := by omega
    obtain ⟨b2, o2, rfl, hG2, hc2⟩ := R2.at h2b
    have hj2 := getx h2b
    refine WC.skip (WQ.tn (WC.seq (WC.block (WC.seq (WC.drawT mixed (No) 9 [(false, 0), (false, 1), (false, 2), (false, 3), (false, 4), (false, 5), (false, 6), (false, 7), (false, 8)] (by kernel_rfl) ?_)))))
    intro w1 L
    replace H := H.ext L
    refine WX.v rfl (fun w2 hC => Ev.move rfl) rfl (WX.v rfl (fun w2 hC => Ev.move rfl) rfl (WX.v rfl (fun w2 hC => Ev.idx Try.underlying32 sz54 rfl rfl (by omega)) rfl (WX.v rfl (fun w2 hC => Ev.loadA (vs := [_, _]) ag54 sz54 rfl (Gr.cells hC (fun h => h) (H.olds (rdCells hc hj1 0 rfl)))) rfl (WX.v rfl (fun w2 hC => Ev.move rfl) rfl (WX.v rfl (fun w2 hC => Ev.move rfl) rfl (WX.v rfl (fun w2 hC => Ev.idx Try.underlying32 sz54 rfl rfl (by omega)) rfl (WX.v rfl (fun w2 hC => Ev.loadA (vs := [_, _]) ag54 sz54 rfl (Gr.cells hC (fun h => h) (H.olds (rdCells hc2 hj2 0 rfl)))) rfl (WX.v rfl (fun w2 hC => Ev.neA (us := [_, _]) (vs := [_, _]) cmp54 rfl rfl (.str (.str .nil))) rfl (WX.nil ?_)))))))))
    refine WQ.tn (WC.cond rfl (fun h3 => ?_) (fun h3 => ?_))
    · try simp only [bsimp] at h3
      refine WC.seq (WC.reg (WL.v (Ev.assign rfl) rfl (WL.nil (WQ.tn (WC.ret (WQ.blk_ret (WQ.tn_ret (WQ.loop_ret (WQ.blk_ret (WQ.tn_ret (WQ.ret1 rfl rfl ?_)))))))))))
      exact ⟨by congr 2; exact (decide_eq_false (fun e => by subst e; simp at h3)).symm, H⟩
    try simp only [bsimp] at h3
    refine WC.skip (WQ.blk (WQ.tn (WC.reg (WL.v (Ev.move rfl) rfl (WL.v (Ev.addN (b := 1) rfl rfl (by omega)) rfl (WL.v (Ev.assign rfl) rfl (WL.nil ?_)))))))
    exact WQ.again (j + 1) (⟨by omega, by rw [take_succ_get h2, take_succ_get h2b, he, Prod.ext h3.1 h3.2.1], H⟩) ⟨rfl, rfl, rfl, trivial⟩ (by first | omega | (dsimp only; omega))
  try simp only [bsimp] at h2
  refine WC.exit (WQ.tn_exit (WQ.loop_exit (WQ.blk_here rfl (WQ.tn (WC.seq (WC.reg (WL.v (Ev.assign rfl) rfl (WL.nil (WQ.tn (WC.ret (WQ.ret1 rfl rfl ?_)))))))))))
  obtain rfl : j = xs.length := by omega
  rw [List.take_length, h0, List.take_length] at he
  exact ⟨by congr 2; exact (decide_eq_true he).symm, H⟩
end Go.Proofs.Ytcmolgiccccnoaa
