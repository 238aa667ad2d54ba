/- The walks of functions: what each comes to. -/
import Derived.Test.YtcmolgiccccnoaaW07
import Derived.Test.YtcmolgiccccnoaaByt
import Derived.Test.YtcmolgiccccnoaaProg
set_option linter.unusedVariables false
set_option linter.unusedSimpArgs false
namespace Go.Proofs.Ytcmolgiccccnoaa
open Go.RowKit Go.BK
theorem fl5 : flatB Try.prog 5 = true := by kernel_rfl
theorem cl75 : callB Try.prog 75 = true := by kernel_rfl
theorem cl74 : callB Try.prog 74 = true := by kernel_rfl
theorem cl73 : callB Try.prog 73 = true := by kernel_rfl
theorem lex_Lower (s : Bs) (hs : Sml s.length) (w : World) :
    Calls Try.prog 75 #[str s] w fun e w' => e = .returned (str (low s)) ∧ St w No w' [] := by
  have hs := hs.le
  refine calls_of Try.func75 rfl Try.ntmps75 (by rfl) (K0 := [(0, _)]) ⟨rfl, trivial⟩ ?_
  have H := St.init w
  refine WC.seq (WC.reg (WL.v (Ev.assign rfl) rfl (WL.nil (WQ.tn (WC.seq (WC.reg (WL.v (Ev.move rfl) rfl (WL.toBytes Try.underlying9 Try.underlying127 Try.underlying5 rfl H rfl fun b1 cap w1 hb1 hcap H L => ?_))))))))
  rw [← lowCells_zero] at H
  refine WL.v (Ev.assign rfl) rfl (WL.nil (WQ.tn (WC.seq (WC.seq (WC.reg (WL.v (Ev.move rfl) rfl (WL.v (Ev.lensl Try.underlying127 rfl) rfl (WL.v (Ev.move rfl) rfl (WL.nil (WQ.tn (WC.block (WC.loop (γ := Nat) (fun j => [(0, str s), (3, .slice (some ⟨b1, 0, none⟩) s.length cap), (8, .slice (some ⟨b1, 0, none⟩) s.length cap), (9, .int .i64 (s.length : Nat)), (10, .int .i64 (j : Nat))]) (fun j w1 => j ≤ s.length ∧ St w No w1 [.blk b1 (lowCells s j (List.replicate (cap - s.length) (Value.int .u8 0))) 5 (cap, cap + 1)]) (fun j => s.length - j) 0 (⟨Nat.zero_le _, H⟩) ⟨rfl, rfl, rfl, rfl, rfl, trivial⟩ ?_))))))))))))
  rintro j w1 ⟨hj, H⟩
  refine WC.seq (WC.reg (WL.v (Ev.lssN rfl rfl) rfl (WL.nil (WQ.tn (WC.seq (WC.cond rfl (fun h1 => ?_) (fun h1 => ?_)))))))
  · try simp only [bsimp] at h1
    refine WC.skip (WQ.tn (WC.seq (WC.block (WC.seq (WC.reg (WL.v (Ev.move rfl) rfl (WL.v (Ev.idx Try.underlying127 sz5 rfl rfl (by omega)) rfl (WL.v (Ev.load fl5 rfl (H.cell 0 rfl (lowCells_get h1))) rfl (WL.v (Ev.assign rfl) rfl (WL.v (Ev.assign rfl) rfl (WL.nil (WQ.tn (WC.seq (WC.reg (WL.v (Ev.move rfl) rfl (WL.v (Ev.geq rfl rfl) rfl (WL.v (Ev.move rfl) rfl (WL.g (Met.yes rfl rfl) (fun hg => Ev.move rfl) rfl (WL.g (Met.yes rfl rfl) (fun hg => Ev.leq ((evG.un rfl).ev hg) rfl) rfl (WL.v (Ev.and rfl rfl rfl) rfl (WL.nil (WQ.tn (WC.cond rfl (fun h2 => ?_) (fun h2 => ?_))))))))))))))))))))))))
    · try simp only [bsimp] at h2
      refine WC.reg (WL.v (Ev.move rfl) rfl (WL.v (Ev.move rfl) rfl (WL.v (Ev.move rfl) rfl (WL.v (Ev.bits .or rfl rfl rfl) rfl (WL.v (Ev.idx Try.underlying127 sz5 rfl rfl (by omega)) rfl (WL.storeT (i := 0) (v := _) rfl rfl rfl sz5 rfl H rfl (by simp; omega) (by rw [lowCells_len _ _ _ hj]; simp; omega) fun w1 H L => ?_))))))
      rw [show (List.set _ _ _ : Held) = [_] from rfl, lowCells_put h1 (low_or h1 h2)] at H
      refine WL.nil (WQ.blk (WQ.tn (WC.reg (WL.v (Ev.addN (b := 1) rfl rfl (by omega)) rfl (WL.v (Ev.move rfl) rfl (WL.nil ?_))))))
      exact WQ.again (j + 1) (⟨by omega, H⟩) ⟨rfl, rfl, rfl, rfl, rfl, trivial⟩ (by first | omega | (dsimp only; omega))
    try simp only [bsimp] at h2
    refine WC.skip (WQ.blk (WQ.tn (WC.reg (WL.v (Ev.addN (b := 1) rfl rfl (by omega)) rfl (WL.v (Ev.move rfl) rfl (WL.nil ?_))))))
    exact WQ.again (j + 1) (⟨by omega, by rw [lowCells_same h1 (by omega)]; exact H⟩) ⟨rfl, rfl, rfl, rfl, rfl, trivial⟩ (by first | omega | (dsimp only; omega))
  try simp only [bsimp] at h1
  refine WC.exit (WQ.tn_exit (WQ.loop_exit (WQ.blk_here rfl (WQ.tn (WC.seq ?_)))))
  obtain rfl : j = s.length := by omega
  have R := H.rdB kCh 0 rfl (low s) (lowCells_end s _) (by rw [low_length]; exact hcap)
  refine WC.reg (WL.v (Ev.move rfl) rfl (WL.v (Ev.toStr (s := low s) Try.underlying127 Try.underlying5 Try.underlying9 (by rw [low_length]; rfl) ⟨rfl, fun _ => rfl⟩ R) rfl (WL.v (Ev.assign rfl) rfl (WL.nil (WQ.tn (WC.ret (WQ.ret1 rfl rfl ?_)))))))
  exact ⟨rfl, H.done⟩
theorem alike_len (a b : Bs) : alike a b = (decide (a.length = b.length) && decide (low a = low b)) := by
  unfold alike
  by_cases h : a.length = b.length
  · simp [h]
  · have : low a ≠ low b := fun e => h (by rw [← low_length a, e, low_length])
    simp [h, this]
theorem lex_Alike (a b : Bs) (ha : Sml a.length) (hb : Sml b.length) (w : World) :
    Calls Try.prog 74 #[str a, str b] w fun e w' => e = .returned (.bool (alike a b)) ∧ St w No w' [] := by
  refine calls_of Try.func74 rfl Try.ntmps74 (by rfl) (K0 := [(0, _), (1, _)]) ⟨rfl, rfl, trivial⟩ ?_
  have H := St.init w
  refine WC.seq (WC.reg (WL.v (Ev.assign rfl) rfl (WL.nil (WQ.tn (WC.seq (WC.reg (WL.v (Ev.move rfl) rfl (WL.v (Ev.lens Try.underlying9 rfl) rfl (WL.v (Ev.move rfl) rfl (WL.v (Ev.lens Try.underlying9 rfl) rfl (WL.v (Ev.eqN rfl rfl) rfl (WL.v (Ev.move rfl) rfl (WL.g (Met.yes rfl rfl) (fun hg => Ev.move rfl) rfl (WL.gcallS (vs := [_]) (Met.yes rfl rfl) (fun hg => (evs_cons ((evG.un rfl).ev hg) rfl)) cl75 rfl H (fun hg => lex_Lower _ ha _) fun w1 H L => (WL.g (Met.yes rfl rfl) (fun hg => Ev.move rfl) rfl (WL.gcallS (vs := [_]) (Met.yes rfl rfl) (fun hg => (evs_cons ((evG.un rfl).ev hg) rfl)) cl75 rfl H (fun hg => lex_Lower _ hb _) fun w1 H L => (WL.g (Met.yes rfl rfl) (fun hg => Ev.eqs ((evG.un rfl).ev hg) ((evG.un rfl).ev hg)) rfl (WL.v (Ev.and rfl rfl rfl) rfl (WL.v (Ev.assign rfl) rfl (WL.nil ?_))))))))))))))))))))
  refine WQ.tn (WC.ret (WQ.ret1 rfl rfl ?_))
  exact ⟨by congr 2; exact (alike_len a b).symm, H⟩
theorem fd_Remove (A : Option Addr) (c : Nat) (xs : List Fld) (G : Nat → Prop) (hx : Okf xs) (nm : Bs) (hn : Sml nm.length) (w : World) (R : Rd kFd G w A c xs) :
    Calls Try.prog 73 #[.slice A xs.length c, str nm] w fun e w' => ∃ A' c', e = .returned (.slice A' (removeF xs nm).length c') ∧ St w No w' [.row 54 2 A' (removeF xs nm).length c' ((removeF xs nm).flatMap kFd.enc)] := by
  have hlen := hx.len
  refine calls_of Try.func73 rfl Try.ntmps73 (by rfl) (K0 := [(0, _), (1, _)]) ⟨rfl, rfl, trivial⟩ ?_
  have H := (St.init w).nilrow 54 2
  refine WC.seq (WC.reg (WL.v (Ev.assign rfl) rfl (WL.nil (WQ.tn (WC.seq (WC.reg (WL.v (Ev.assign rfl) rfl (WL.nil (WQ.tn (WC.seq (WC.seq (WC.reg (WL.v (Ev.move rfl) rfl (WL.v (Ev.lensl Try.underlying32 rfl) rfl (WL.v (Ev.move rfl) rfl (WL.nil (WQ.tn (WC.block (WC.loop (γ := Nat × List Fld × Option Addr × Nat) (fun ⟨j, o, A2, c2⟩ => [(1, str nm), (5, .slice A2 o.length c2), (8, .slice A xs.length c), (9, .int .i64 (xs.length : Nat)), (10, .int .i64 (j : Nat))]) (fun ⟨j, o, A2, c2⟩ w1 => j ≤ xs.length ∧ o = removeF (xs.take j) nm ∧ St w No w1 [.row 54 2 A2 o.length c2 (o.flatMap kFd.enc)]) (fun ⟨j, o, A2, c2⟩ => xs.length - j) (0, [], none, 0) (⟨Nat.zero_le _, rfl, H⟩) ⟨rfl, rfl, rfl, rfl, rfl, trivial⟩ ?_)))))))))))))))))))
  rintro ⟨j, o, A2, c2⟩ w1 ⟨hj, ho, H⟩
  refine WC.seq (WC.reg (WL.v (Ev.lssN rfl rfl) rfl (WL.nil (WQ.tn (WC.seq (WC.cond rfl (fun h1 => ?_) (fun h1 => ?_)))))))
  · simp only [bsimp] at h1
    obtain ⟨bk, off, rfl, hG, hc⟩ := R.at h1
    have hj1 := getx h1
    refine WC.skip (WQ.tn (WC.seq (WC.block (WC.seq (WC.reg (WL.v (Ev.idx Try.underlying32 sz54 rfl rfl (by omega)) rfl (WL.v (Ev.loadA (vs := [_, _]) ag54 sz54 rfl (H.olds (rdCells hc hj1 0 rfl))) rfl (WL.alloc z54 rfl H rfl fun b1 w1 hb1 H L => (WL.store (i := 0) (vs := [_, _]) rfl rfl rfl sz54 rfl H rfl rfl fun w1 H L => ?_)))))))))
    have hq := H.cell 0 rfl (o := 0) rfl
    refine WL.nil (WQ.tn (WC.seq (WC.reg (WL.v (Ev.fieldAddr fa54_0 rfl) rfl (WL.v (Ev.load fl9 rfl (H.cell 0 rfl rfl)) rfl (WL.v (Ev.move rfl) rfl (WL.callS (vs := [_, _]) rfl cl74 rfl H (lex_Alike _ _ (hx.at hj1).1 hn _) fun w1 H L => (WL.v (Ev.not rfl) rfl (WL.nil (WQ.tn (WC.cond rfl (fun h2 => ?_) (fun h2 => ?_))))))))))))
    · try simp only [bsimp] at h2
      refine WC.reg (WL.v (Ev.move rfl) rfl (WL.v (Ev.loadA (vs := [_, _]) ag54 sz54 rfl (H.cells 0 rfl rfl)) rfl (WL.buildSlice (vs := [_, _]) (ps := [(_, _)]) Try.underlying32 sz54 z54 rfl (by omega) (by omega) rfl rfl H rfl fun b2 w1 hb2 H L => (WL.append (i := 2) (news := [_, _]) Try.underlying32 sz54 by54 z54 rfl (by omega) rfl rfl H rfl rfl (H.cells 0 rfl rfl) (by exact allOne_mem rfl) (by omega) (by have := ho ▸ remove_len (xs := xs) (nm := nm) (j := j); omega) rfl fun A1 c1 w1 H L LA LB => ?_))))
      replace H := H.tail
      refine WL.v (Ev.assign rfl) rfl (WL.nil (WQ.blk (WQ.tn (WC.reg (WL.v (Ev.addN (b := 1) rfl rfl (by omega)) rfl (WL.v (Ev.move rfl) rfl (WL.nil ?_)))))))
      exact WQ.again ((j + 1, o ++ [xs[j]], A1, c1)) (⟨by omega, by rw [ho, remove_yes h1 h2], by rw [flat_snoc, List.length_append]; exact H.tail⟩) ⟨rfl, (by rw [List.length_append]; rfl), rfl, rfl, rfl, trivial⟩ (by first | omega | (dsimp only; omega))
    try simp only [bsimp] at h2
    refine WC.skip (WQ.blk (WQ.tn (WC.reg (WL.v (Ev.addN (b := 1) rfl rfl (by omega)) rfl (WL.v (Ev.move rfl) rfl (WL.nil ?_))))))
    exact WQ.again ((j + 1, o, A2, c2)) (⟨by omega, by rw [ho, remove_no h1 h2], H.tail⟩) ⟨rfl, rfl, rfl, rfl, rfl, trivial⟩ (by first | omega | (dsimp only; omega))
  try simp only [bsimp] at h1
  refine WC.exit (WQ.tn_exit (WQ.loop_exit (WQ.blk_here rfl (WQ.tn (WC.seq (WC.reg (WL.v (Ev.move rfl) rfl (WL.v (Ev.assign rfl) rfl (WL.nil (WQ.tn (WC.ret (WQ.ret1 rfl rfl ?_))))))))))))
  obtain rfl : j = xs.length := by omega
  rw [List.take_length] at ho
  subst ho
  exact ⟨A2, c2, rfl, H⟩
theorem fd_Set (A : Option Addr) (c : Nat) (xs : List Fld) (G : Nat → Prop) (hx : Okf xs) (nm v : Bs) (hn : Sml nm.length) (w : World) (R : Rd kFd G w A c xs) :
    Calls Try.prog 72 #[.slice A xs.length c, str nm, str v] w fun e w' => ∃ A' c', e = .returned (.slice A' (setF xs nm v).length c') ∧ St w No w' [.row 54 2 A' (setF xs nm v).length c' ((setF xs nm v).flatMap kFd.enc)] := by
  have hlen := hx.len
  have hr : (removeF xs nm).length ≤ xs.length := List.length_filter_le _ _
  refine calls_of Try.func72 rfl Try.ntmps72 (by rfl) (K0 := [(0, _), (1, _), (2, _)]) ⟨rfl, rfl, rfl, trivial⟩ ?_
  have H := St.init w
  refine WC.seq (WC.reg (WL.v (Ev.assign rfl) rfl (WL.nil (WQ.tn (WC.seq (WC.reg (WL.v (Ev.move rfl) rfl (WL.v (Ev.move rfl) rfl (WL.call (vs := [_, _]) rfl cl73 rfl (fd_Remove _ _ _ _ hx _ hn _ R) ?_)))))))))
  rintro _ w1 ⟨A2, c2, rfl, H1⟩
  replace H := H.app H1
  refine ⟨_, rfl, ?_⟩
  refine WL.v (Ev.move rfl) rfl (WL.v (Ev.move rfl) rfl (WL.v (Ev.build (vs := [_, _]) (ps := [(_, _), (_, _)]) pl54 z54 rfl rfl) rfl (WL.buildSlice (vs := [_, _]) (ps := [(_, _)]) Try.underlying32 sz54 z54 rfl (by omega) (by omega) rfl rfl H rfl fun b1 w1 hb1 H L => (WL.append (i := 1) (news := [_, _]) Try.underlying32 sz54 by54 z54 rfl (by omega) rfl rfl H rfl rfl (H.cells 0 rfl rfl) (by exact allOne_mem rfl) (by omega) (by omega) rfl fun A1 c1 w1 H L LA LB => ?_))))
  replace H := H.tail
  refine WL.v (Ev.assign rfl) rfl (WL.nil (WQ.tn (WC.ret (WQ.ret1 rfl rfl ?_))))
  have e1 : (setF xs nm v).length = (removeF xs nm).length + 1 := by simp [setF]
  have e2 : (setF xs nm v).flatMap kFd.enc = (removeF xs nm).flatMap kFd.enc ++ [str nm, str v] := by unfold setF; rw [flat_snoc]; rfl
  refine ⟨A1, c1, by rw [e1], ?_⟩
  rw [e1, e2]; exact H
end Go.Proofs.Ytcmolgiccccnoaa
