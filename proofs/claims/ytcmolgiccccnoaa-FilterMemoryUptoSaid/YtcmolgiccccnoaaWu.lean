/- The walks of functions: what each comes to. -/
import Derived.Test.YtcmolgiccccnoaaWs
import Derived.Test.YtcmolgiccccnoaaProg
set_option linter.unusedVariables false
set_option linter.unusedSimpArgs false
namespace Go.Proofs.Ytcmolgiccccnoaa
open Go.RowKit Go.BK
theorem fa86_0 : fldB Try.prog 86 0 0 = true := by kernel_rfl
theorem fl22 : flatB Try.prog 22 = true := by kernel_rfl
theorem cl28 : callB Try.prog 28 = true := by kernel_rfl
theorem fa86_1 : fldB Try.prog 86 1 1 = true := by kernel_rfl
theorem fl81 : flatB Try.prog 81 = true := by kernel_rfl
theorem sz87 : szOk Try.prog 87 1 := by unfold szOk; kernel_rfl
theorem fl87 : flatB Try.prog 87 = true := by kernel_rfl
theorem cl38 : callB Try.prog 38 = true := by kernel_rfl
theorem cl40 : callB Try.prog 40 = true := by kernel_rfl
theorem fa86_2 : fldB Try.prog 86 2 2 = true := by kernel_rfl
theorem cl41 : callB Try.prog 41 = true := by kernel_rfl
set_option maxRecDepth 20000 in
set_option maxHeartbeats 1000000 in
theorem r6_one (pre post : List Fx) (x : Fx) (hx : okFx x) (c : Nat) (Al : Option Addr) (cl : Nat) (Ab : Option Addr) (cb : Nat) (s dr seen : Int) (GL : Nat → Prop) (now size : Int) (hnow : I64 now) (m : Bs) (A : Option Addr) (c1 : Nat) (l : List Fld) (G : Nat → Prop) (hl : Okf l) (w : World) (RL : Rd kFl GL w Al cl ((pre ++ x :: post).map (·.f))) (hGL : ∀ b, GL b → ¬ Bk (rS c Al cl Ab cb s dr seen (pre ++ x :: post)) b) (R : Rd kFd G w A c1 l) (hG : ∀ b, G b → ¬ Bk (rS c Al cl Ab cb s dr seen (pre ++ x :: post)) b) (H : St w (Bk (rS c Al cl Ab cb s dr seen (pre ++ x :: post))) w (rS c Al cl Ab cb s dr seen (pre ++ x :: post))) :
    Calls Try.prog 29 #[.pointer (some ⟨c, 0, none⟩), .int .i64 (pre.length : Nat), .int .i64 now, str m, .slice A l.length c1, .int .i64 size] w fun e w' => ∃ dr', OneR w w' (rS c Al cl Ab cb s dr seen (pre ++ x :: post)) (rS c Al cl Ab cb (oneF x s now size m l).2.1 dr' seen (pre ++ (oneF x s now size m l).1 :: post)) (oneF x s now size m l).2.2.1 (oneF x s now size m l).2.2.2 G e := by
  refine calls_of Try.func29 rfl Try.ntmps29 (by rfl) (K0 := [(0, _), (1, _), (2, _), (3, _), (4, _), (5, _)]) ⟨rfl, rfl, rfl, rfl, rfl, rfl, trivial⟩ (WC.seq (WC.reg (WL.alloc z42 rfl H rfl fun b1 w1 hb1 H L => (WL.v (Ev.assign rfl) rfl (WL.nil (WQ.tn (WC.seq ?_)))))))
  obtain ⟨bl, ol, rfl, hGl, hcl⟩ := (RL.gr H.gr hGL).at (j := pre.length) (by simp)
  have hjl : ((pre ++ x :: post).map (·.f))[pre.length]? = some x.f := by simp
  refine WC.reg (WL.v (Ev.move rfl) rfl (WL.v (Ev.nilCheck rfl) rfl (WL.v (Ev.fieldAddr fa86_0 rfl) rfl (WL.v (Ev.load fl22 rfl (H.cell 1 rfl rfl)) rfl (WL.v (Ev.move rfl) rfl (WL.v (Ev.idx Try.underlying22 sz29 rfl rfl (by simp)) rfl (WL.v (Ev.loadA (vs := [_, _, _, _, _, _]) ag29 sz29 rfl ((rdCells hcl hjl 0 rfl))) rfl (WL.alloc z29 rfl H rfl fun b2 w1 hb2 H L => (WL.store (i := 0) (vs := [_, _, _, _, _, _]) rfl rfl rfl sz29 rfl H rfl rfl fun w1 H L => (WL.nil (WQ.tn (WC.seq (WC.seq ?_)))))))))))))
  replace H : St w _ _ (flC b2 x.f :: .blk b1 [.bool false, .int .i64 0, .slice none 0 0, str [], .slice none 0 0] 42 (0, 0) :: rS c (some ⟨bl, ol, none⟩) cl Ab cb s dr seen (pre ++ x :: post)) := H
  refine WC.reg (WL.v (Ev.fieldAddr fa29_0 rfl) rfl (WL.v (Ev.load fl3 rfl (H.cell 0 rfl rfl)) rfl (WL.nil (WQ.tn (WC.block (WC.seq (WC.reg (WL.v (Ev.eqi rfl rfl) rfl (WL.v (Ev.assign rfl) rfl (WL.nil (WQ.tn (WC.cond rfl (fun h0 => ?_) (fun h0 => ?_)))))))))))))
  · try simp only [bsimp] at h0
    refine WC.seq (WC.reg (WL.v (Ev.build (vs := [_, _, _, _, _]) (ps := []) pl42 z42 rfl rfl) rfl (WL.v (Ev.move rfl) rfl (WL.v (Ev.fieldAddr fa29_1 rfl) rfl (WL.v (Ev.load fl9 rfl (H.cell 0 rfl rfl)) rfl (WL.v (Ev.fieldAddr fa29_2 rfl) rfl (WL.v (Ev.load fl9 rfl (H.cell 0 rfl rfl)) rfl (WL.call (vs := [_, _, _]) rfl cl28 rfl (ref07_Set A c1 l _ hl x.f.name x.f.value hx.fl.nm _ (R.gr H.gr hG)) ?_))))))))
    rintro _ w1 ⟨A2, c2, rfl, H1⟩
    have hge := St.newB H.gr.size H1 0 rfl
    replace H := H.app H1
    refine ⟨_, rfl, ?_⟩
    refine WL.store (i := 2) (vs := [_, _, _, _, _]) rfl rfl rfl sz42 rfl H rfl rfl fun w1 H L => (WL.v (Ev.assign rfl) rfl (WL.nil (WQ.tn (WC.ret (WQ.blk_ret (WQ.tn_ret (WQ.retC2 (vs := [_, _, _, _, _]) rfl rfl rfl ag42 sz42 (H.cells 2 rfl rfl) ?_)))))))
    have e1 : oneF x s now size m l = (x, s, none, setF l x.f.name x.f.value) := by unfold oneF; rw [if_pos h0]
    refine ⟨dr, ?_⟩
    rw [e1]
    exact OneR.go H.tail.tail.tail (fun b hb => .inr hb) (Rd.mono (St.rdC kFd H 0 rfl) hge)
  try simp only [bsimp] at h0
  refine WC.seq (WC.reg (WL.v (Ev.eqi rfl rfl) rfl (WL.v (Ev.assign rfl) rfl (WL.nil (WQ.tn (WC.cond rfl (fun h1 => ?_) (fun h1 => ?_)))))))
  · try simp only [bsimp] at h1
    refine WC.seq (WC.reg (WL.v (Ev.build (vs := [_, _, _, _, _]) (ps := []) pl42 z42 rfl rfl) rfl (WL.v (Ev.move rfl) rfl (WL.v (Ev.fieldAddr fa29_1 rfl) rfl (WL.v (Ev.load fl9 rfl (H.cell 0 rfl rfl)) rfl (WL.call (vs := [_, _]) rfl cl37 rfl (ref07_Remove A c1 l _ hl x.f.name hx.fl.nm _ (R.gr H.gr hG)) ?_))))))
    rintro _ w1 ⟨A2, c2, rfl, H1⟩
    have hge := St.newB H.gr.size H1 0 rfl
    replace H := H.app H1
    refine ⟨_, rfl, ?_⟩
    refine WL.store (i := 2) (vs := [_, _, _, _, _]) rfl rfl rfl sz42 rfl H rfl rfl fun w1 H L => (WL.v (Ev.assign rfl) rfl (WL.nil (WQ.tn (WC.ret (WQ.blk_ret (WQ.tn_ret (WQ.retC2 (vs := [_, _, _, _, _]) rfl rfl rfl ag42 sz42 (H.cells 2 rfl rfl) ?_)))))))
    have e1 : oneF x s now size m l = (x, s, none, removeF l x.f.name) := by unfold oneF; rw [if_neg h0, if_pos h1]
    refine ⟨dr, ?_⟩
    rw [e1]
    exact OneR.go H.tail.tail.tail (fun b hb => .inr hb) (Rd.mono (St.rdC kFd H 0 rfl) hge)
  try simp only [bsimp] at h1
  refine WC.seq (WC.reg (WL.v (Ev.eqi rfl rfl) rfl (WL.v (Ev.assign rfl) rfl (WL.nil (WQ.tn (WC.cond rfl (fun h2 => ?_) (fun h2 => ?_)))))))
  · try simp only [bsimp] at h2
    refine WC.seq ?_
    obtain ⟨bq, oq, rfl, hGq, hcq⟩ := ((H.rd kBp 3 rfl).1).at (j := pre.length) (by simp)
    have hjq : (pre ++ x :: post)[pre.length]? = some x := by simp
    refine WC.reg (WL.v (Ev.move rfl) rfl (WL.v (Ev.nilCheck rfl) rfl (WL.v (Ev.fieldAddr fa86_1 rfl) rfl (WL.v (Ev.load fl81 rfl (H.cell 2 rfl rfl)) rfl (WL.v (Ev.move rfl) rfl (WL.v (Ev.idx Try.underlying81 sz87 rfl rfl (by simp)) rfl (WL.v (Ev.load fl87 rfl (hcq _ _ hjq 0 _ rfl)) rfl (WL.v (Ev.move rfl) rfl ?_))))))))
    have HP := H.perm (σ' := blkB x :: flC b2 x.f :: .blk b1 [.bool false, .int .i64 0, .slice none 0 0, str [], .slice none 0 0] 42 (0, 0) :: rC c (some ⟨bl, ol, none⟩) (pre ++ x :: post).length cl (some ⟨bq, oq, none⟩) (pre ++ x :: post).length cb s dr seen :: rowB (some ⟨bq, oq, none⟩) cb (pre ++ x :: post) :: (bksR pre ++ bksR post)) (by classical (rw [List.perm_iff_count]; intro q; simp only [List.count_append, List.count_cons, List.count_nil, bksR, List.map_append, List.map_cons, List.map_nil, List.flatMap_append, List.flatMap_cons, litSlow, litFault]; omega))
    refine WL.call (vs := [_, _, _]) rfl cl38 rfl (r3_Take x.s (hx.bk h2) now 1 hnow (by unfold I64; omega) x.b _ HP.local1) ?_
    rintro _ w1 ⟨rfl, H1⟩
    replace H := HP.frame1 H1
    refine ⟨_, rfl, ?_⟩
    refine WL.v (Ev.move rfl) rfl (WL.v (Ev.extract rfl rfl) rfl (WL.v (Ev.extract rfl rfl) rfl (WL.v (Ev.assign rfl) rfl (WL.v (Ev.assign rfl) rfl (WL.nil (WQ.tn (WC.seq (WC.reg (WL.v (Ev.move rfl) rfl (WL.v (Ev.not rfl) rfl (WL.nil (WQ.tn (WC.cond rfl (fun h3 => ?_) (fun h3 => ?_))))))))))))))
    · try simp only [bsimp] at h3
      refine WC.seq (WC.reg (WL.callS (vs := [_, _]) rfl cl39 rfl H (r6_say _ _ _) fun w1 H L => (WL.store (i := 2) (vs := [_, _, _, _, _]) rfl rfl rfl sz42 rfl H rfl rfl fun w1 H L => (WL.v (Ev.assign rfl) rfl (WL.nil (WQ.tn (WC.ret (WQ.blk_ret (WQ.tn_ret (WQ.retC2 (vs := [_, _, _, _, _]) rfl rfl rfl ag42 sz42 (H.cells 2 rfl rfl) ?_))))))))))
      have eB := rowB_same (Ab := some ⟨bq, oq, none⟩) (cb := cb) (pre := pre) (post := post) (x := x) (y := { x with s := (takeR x.s now 1).2.2 }) rfl
      have eL : (pre ++ x :: post).length = (pre ++ { x with s := (takeR x.s now 1).2.2 } :: post).length := by simp
      rw [eL] at H
      replace H : St w _ _ (blkB { x with s := (takeR x.s now 1).2.2 } :: _ :: _ :: _ :: _ :: (bksR pre ++ bksR post)) := H
      rw [eB] at H
      replace H := (H.sub (σ' := blkB { x with s := (takeR x.s now 1).2.2 } :: _ :: _ :: (bksR pre ++ bksR post)) (List.Sublist.cons_cons _ (List.Sublist.cons _ (List.Sublist.cons _ (List.Sublist.refl _))))).perm (σ' := rS c (some ⟨bl, ol, none⟩) cl (some ⟨bq, oq, none⟩) cb s dr seen (pre ++ { x with s := (takeR x.s now 1).2.2 } :: post)) (by classical (rw [List.perm_iff_count]; intro q; simp only [List.count_append, List.count_cons, List.count_nil, bksR, List.map_append, List.map_cons, List.map_nil, List.flatMap_append, List.flatMap_cons, litSlow, litFault]; omega))
      have e1 : oneF x s now size m l = ({ x with s := (takeR x.s now 1).2.2 }, s, if (takeR x.s now 1).1 = true then none else some (429, [], litSlow), l) := by unfold oneF; rw [if_neg h0, if_neg h1, if_pos h2]
      refine ⟨dr, ?_⟩
      rw [e1]
      rw [if_neg (by rw [h3]; decide)]
      exact OneR.stop0 H
    try simp only [bsimp] at h3
    refine WC.skip (WQ.blk (WQ.tn (WC.seq (WC.reg (WL.v (Ev.build (vs := [_, _, _, _, _]) (ps := []) pl42 z42 rfl rfl) rfl (WL.v (Ev.move rfl) rfl (WL.store (i := 2) (vs := [_, _, _, _, _]) rfl rfl rfl sz42 rfl H rfl rfl fun w1 H L => (WL.v (Ev.assign rfl) rfl (WL.nil (WQ.tn (WC.ret (WQ.retC2 (vs := [_, _, _, _, _]) rfl rfl rfl ag42 sz42 (H.cells 2 rfl rfl) ?_))))))))))))
    have eB := rowB_same (Ab := some ⟨bq, oq, none⟩) (cb := cb) (pre := pre) (post := post) (x := x) (y := { x with s := (takeR x.s now 1).2.2 }) rfl
    have eL : (pre ++ x :: post).length = (pre ++ { x with s := (takeR x.s now 1).2.2 } :: post).length := by simp
    rw [eL] at H
    replace H : St w _ _ (blkB { x with s := (takeR x.s now 1).2.2 } :: _ :: _ :: _ :: _ :: (bksR pre ++ bksR post)) := H
    rw [eB] at H
    replace H := (H.sub (σ' := blkB { x with s := (takeR x.s now 1).2.2 } :: _ :: _ :: (bksR pre ++ bksR post)) (List.Sublist.cons_cons _ (List.Sublist.cons _ (List.Sublist.cons _ (List.Sublist.refl _))))).perm (σ' := rS c (some ⟨bl, ol, none⟩) cl (some ⟨bq, oq, none⟩) cb s dr seen (pre ++ { x with s := (takeR x.s now 1).2.2 } :: post)) (by classical (rw [List.perm_iff_count]; intro q; simp only [List.count_append, List.count_cons, List.count_nil, bksR, List.map_append, List.map_cons, List.map_nil, List.flatMap_append, List.flatMap_cons, litSlow, litFault]; omega))
    have e1 : oneF x s now size m l = ({ x with s := (takeR x.s now 1).2.2 }, s, if (takeR x.s now 1).1 = true then none else some (429, [], litSlow), l) := by unfold oneF; rw [if_neg h0, if_neg h1, if_pos h2]
    refine ⟨dr, ?_⟩
    rw [e1]
    rw [if_pos h3]
    exact OneR.go H (fun b hb => .inl hb) (R.gr H.gr hG)
  try simp only [bsimp] at h2
  refine WC.seq (WC.reg (WL.v (Ev.eqi rfl rfl) rfl (WL.v (Ev.assign rfl) rfl (WL.nil (WQ.tn (WC.cond rfl (fun h4 => ?_) (fun h4 => ?_)))))))
  · try simp only [bsimp] at h4
    refine WC.seq (WC.reg (WL.v (Ev.move rfl) rfl (WL.v (Ev.fieldAddr fa29_1 rfl) rfl (WL.v (Ev.load fl9 rfl (H.cell 0 rfl rfl)) rfl (WL.call (vs := [_, _]) rfl cl19 rfl (ref07_Get A c1 l _ hl x.f.name hx.fl.nm _ (R.gr H.gr hG)) ?_)))))
    rintro _ w1 ⟨rfl, H1⟩
    replace H := H.ext H1.gr
    refine ⟨_, rfl, ?_⟩
    refine WL.v (Ev.move rfl) rfl (WL.v (Ev.extract rfl rfl) rfl (WL.v (Ev.extract rfl rfl) rfl (WL.v (Ev.assign rfl) rfl (WL.v (Ev.assign rfl) rfl (WL.nil (WQ.tn (WC.seq (WC.seq (WC.reg (WL.v (Ev.move rfl) rfl (WL.v (Ev.neN (b := 1) rfl rfl) rfl (WL.v (Ev.move rfl) rfl (WL.g (Met.no rfl rfl) (fun hg => Ev.move rfl) rfl (WL.g (Met.no rfl rfl) (fun hg => Ev.fieldAddr fa29_2 rfl) rfl (WL.g (Met.no rfl rfl) (fun hg => Ev.load fl9 ((evG.un rfl).ev hg) (H.cell 0 rfl rfl)) rfl (WL.g (Met.no rfl rfl) (fun hg => Ev.nes ((evG.un rfl).ev hg) ((evG.un rfl).ev hg)) rfl (WL.v (Ev.or rfl rfl rfl) rfl (WL.nil ?_))))))))))))))))))
    refine WQ.tn (WC.cond rfl (fun h5 => ?_) (fun h5 => ?_))
    · try simp only [bsimp] at h5
      refine WC.seq (WC.reg (WL.callS (vs := [_, _]) rfl cl39 rfl H (r6_say _ _ _) fun w1 H L => (WL.alloc z42 rfl H rfl fun b3 w1 hb3 H L => (WL.store (i := 0) (vs := [_, _, _, _, _]) rfl rfl rfl sz42 rfl H rfl rfl fun w1 H L => (WL.nil (WQ.tn (WC.seq (WC.reg (WL.v (Ev.build (vs := [_, _]) (ps := [(_, _), (_, _)]) pl54 z54 rfl rfl) rfl (WL.buildSlice (vs := [_, _]) (ps := [(_, _)]) Try.underlying32 sz54 z54 rfl (by omega) (by omega) rfl rfl H rfl fun b4 w1 hb4 H L => (WL.v (Ev.fieldAddr fa42_2 rfl) rfl (WL.store (i := 1) (vs := [_]) rfl rfl rfl sz32 rfl H rfl rfl fun w1 H L => (WL.nil ?_)))))))))))))
      refine WQ.tn (WC.seq (WC.reg (WL.v (Ev.loadA (vs := [_, _, _, _, _]) ag42 sz42 rfl (H.cells 1 rfl rfl)) rfl (WL.store (i := 3) (vs := [_, _, _, _, _]) rfl rfl rfl sz42 rfl H rfl rfl fun w1 H L => (WL.v (Ev.assign rfl) rfl (WL.nil (WQ.tn (WC.ret (WQ.tn_ret (WQ.blk_ret (WQ.tn_ret (WQ.retC2 (vs := [_, _, _, _, _]) rfl rfl rfl ag42 sz42 (H.cells 3 rfl rfl) ?_))))))))))))
      have e1 : oneF x s now size m l = (x, s, if (getF l x.f.name).2 ≠ 1 ∨ (getF l x.f.name).1 ≠ x.f.value then some (401, [(litWww, litToken)], litNoEntry) else none, removeF l x.f.name) := by unfold oneF; rw [if_neg h0, if_neg h1, if_neg h2, if_pos h4]
      refine ⟨dr, ?_⟩
      rw [e1]
      rw [if_pos h5]
      have H := H.toRow 0 (m := 1) (k := 2) rfl rfl (by decide)
      exact OneR.stop (fs := [(litWww, litToken)]) (H.sub (List.Sublist.cons_cons _ (List.Sublist.cons _ (List.Sublist.cons _ (List.Sublist.cons _ (List.Sublist.refl _))))))
    try simp only [bsimp] at h5
    refine WC.skip (WQ.tn (WC.seq (WC.reg (WL.v (Ev.build (vs := [_, _, _, _, _]) (ps := []) pl42 z42 rfl rfl) rfl (WL.v (Ev.move rfl) rfl (WL.v (Ev.fieldAddr fa29_1 rfl) rfl (WL.v (Ev.load fl9 rfl (H.cell 0 rfl rfl)) rfl (WL.call (vs := [_, _]) rfl cl37 rfl (ref07_Remove A c1 l _ hl x.f.name hx.fl.nm _ (R.gr H.gr hG)) ?_))))))))
    rintro _ w1 ⟨A2, c2, rfl, H1⟩
    have hge := St.newB H.gr.size H1 0 rfl
    replace H := H.app H1
    refine ⟨_, rfl, ?_⟩
    refine WL.store (i := 2) (vs := [_, _, _, _, _]) rfl rfl rfl sz42 rfl H rfl rfl fun w1 H L => (WL.v (Ev.assign rfl) rfl (WL.nil (WQ.tn (WC.ret (WQ.blk_ret (WQ.tn_ret (WQ.retC2 (vs := [_, _, _, _, _]) rfl rfl rfl ag42 sz42 (H.cells 2 rfl rfl) ?_)))))))
    have e1 : oneF x s now size m l = (x, s, if (getF l x.f.name).2 ≠ 1 ∨ (getF l x.f.name).1 ≠ x.f.value then some (401, [(litWww, litToken)], litNoEntry) else none, removeF l x.f.name) := by unfold oneF; rw [if_neg h0, if_neg h1, if_neg h2, if_pos h4]
    refine ⟨dr, ?_⟩
    rw [e1]
    rw [if_neg (fun hh => by rcases hh with hh | hh; exact hh h5.1; exact hh h5.2)]
    exact OneR.go H.tail.tail.tail (fun b hb => .inr hb) (Rd.mono (St.rdC kFd H 0 rfl) hge)
  try simp only [bsimp] at h4
  refine WC.seq (WC.reg (WL.v (Ev.eqi rfl rfl) rfl (WL.v (Ev.assign rfl) rfl (WL.nil (WQ.tn (WC.cond rfl (fun h6 => ?_) (fun h6 => ?_)))))))
  · try simp only [bsimp] at h6
    refine WC.seq (WC.reg (WL.v (Ev.loadA (vs := [_, _, _, _, _, _]) ag29 sz29 rfl (H.cells 0 rfl rfl)) rfl (WL.v (Ev.move rfl) rfl (WL.v (Ev.move rfl) rfl (WL.call (vs := [_, _, _]) rfl cl40 rfl (r6_cors x.f m A c1 l _ hl _ (R.gr H.gr hG)) ?_)))))
    rintro _ w1 ⟨Af, cf, rfl, H1⟩
    replace H := H.app H1
    refine ⟨_, rfl, ?_⟩
    refine WL.v (Ev.move rfl) rfl (WL.store (i := 2) (vs := [_, _, _, _, _]) rfl rfl rfl sz42 rfl H rfl rfl fun w1 H L => (WL.v (Ev.assign rfl) rfl (WL.nil (WQ.tn (WC.ret (WQ.blk_ret (WQ.tn_ret (WQ.retC2 (vs := [_, _, _, _, _]) rfl rfl rfl ag42 sz42 (H.cells 2 rfl rfl) ?_))))))))
    have e1 : oneF x s now size m l = (x, s, corsT x.f m l, l) := by unfold oneF corsT; rw [if_neg h0, if_neg h1, if_neg h2, if_neg h4, if_pos h6]
    refine ⟨dr, ?_⟩
    rw [e1]
    exact ⟨Af, cf, A, _, c1, rfl, H.sub (List.Sublist.cons_cons _ (List.Sublist.cons _ (List.Sublist.cons _ (List.Sublist.refl _)))), fun _ => ⟨rfl, G, fun b hb => .inl hb, R.gr H.gr hG⟩⟩
  try simp only [bsimp] at h6
  refine WC.seq (WC.reg (WL.v (Ev.eqi rfl rfl) rfl (WL.v (Ev.assign rfl) rfl (WL.nil (WQ.tn (WC.cond rfl (fun h7 => ?_) (fun h7 => ?_)))))))
  · try simp only [bsimp] at h7
    refine WC.seq (WC.reg (WL.v (Ev.move rfl) rfl (WL.v (Ev.fieldAddr fa29_3 rfl) rfl (WL.v (Ev.load fl3 rfl (H.cell 0 rfl rfl)) rfl (WL.v (Ev.gtr rfl rfl) rfl (WL.nil (WQ.tn (WC.cond rfl (fun h8 => ?_) (fun h8 => ?_)))))))))
    · try simp only [bsimp] at h8
      refine WC.seq (WC.reg (WL.callS (vs := [_, _]) rfl cl39 rfl H (r6_say _ _ _) fun w1 H L => (WL.store (i := 1) (vs := [_, _, _, _, _]) rfl rfl rfl sz42 rfl H rfl rfl fun w1 H L => (WL.v (Ev.assign rfl) rfl (WL.nil (WQ.tn (WC.ret (WQ.blk_ret (WQ.tn_ret (WQ.retC2 (vs := [_, _, _, _, _]) rfl rfl rfl ag42 sz42 (H.cells 1 rfl rfl) ?_))))))))))
      have e1 : oneF x s now size m l = (x, s, if x.f.n < size then some (413, [], litTooMuch) else none, l) := by unfold oneF; rw [if_neg h0, if_neg h1, if_neg h2, if_neg h4, if_neg h6, if_pos h7]
      refine ⟨dr, ?_⟩
      rw [e1]
      rw [if_pos h8]
      exact OneR.stop0 H.tail.tail
    try simp only [bsimp] at h8
    refine WC.skip (WQ.blk (WQ.tn (WC.seq (WC.reg (WL.v (Ev.build (vs := [_, _, _, _, _]) (ps := []) pl42 z42 rfl rfl) rfl (WL.v (Ev.move rfl) rfl (WL.store (i := 1) (vs := [_, _, _, _, _]) rfl rfl rfl sz42 rfl H rfl rfl fun w1 H L => (WL.v (Ev.assign rfl) rfl (WL.nil (WQ.tn (WC.ret (WQ.retC2 (vs := [_, _, _, _, _]) rfl rfl rfl ag42 sz42 (H.cells 1 rfl rfl) ?_))))))))))))
    have e1 : oneF x s now size m l = (x, s, if x.f.n < size then some (413, [], litTooMuch) else none, l) := by unfold oneF; rw [if_neg h0, if_neg h1, if_neg h2, if_neg h4, if_neg h6, if_pos h7]
    refine ⟨dr, ?_⟩
    rw [e1]
    rw [if_neg (by omega)]
    exact OneR.go H.tail.tail (fun b hb => .inl hb) (R.gr H.gr hG)
  try simp only [bsimp] at h7
  refine WC.seq (WC.reg (WL.v (Ev.eqi rfl rfl) rfl (WL.v (Ev.assign rfl) rfl (WL.nil (WQ.tn (WC.cond rfl (fun h9 => ?_) (fun h9 => ?_)))))))
  · try simp only [bsimp] at h9
    refine WC.seq (WC.reg (WL.v (Ev.move rfl) rfl (WL.v (Ev.nilCheck rfl) rfl (WL.v (Ev.fieldAddr fa86_2 rfl) rfl ?_))))
    have HP := H.perm (σ' := rC c (some ⟨bl, ol, none⟩) (pre ++ x :: post).length cl Ab (pre ++ x :: post).length cb s dr seen :: flC b2 x.f :: .blk b1 [.bool false, .int .i64 0, .slice none 0 0, str [], .slice none 0 0] 42 (0, 0) :: rowB Ab cb (pre ++ x :: post) :: bksR (pre ++ x :: post)) (by classical (rw [List.perm_iff_count]; intro q; simp only [List.count_append, List.count_cons, List.count_nil, bksR, List.map_append, List.map_cons, List.map_nil, List.flatMap_append, List.flatMap_cons, litSlow, litFault]; omega))
    refine WL.call (vs := [_, _]) rfl cl41 rfl (r1_Below c _ _ cl Ab _ cb s dr seen 100 (by omega) _ HP.local1) ?_
    rintro _ w1 ⟨rfl, dr', H1⟩
    replace H := HP.frame1 H1
    refine ⟨_, rfl, ?_⟩
    refine WL.v (Ev.assign rfl) rfl (WL.nil (WQ.tn (WC.seq (WC.reg (WL.v (Ev.move rfl) rfl (WL.v (Ev.fieldAddr fa29_3 rfl) rfl (WL.v (Ev.load fl3 rfl (H.cell 1 rfl rfl)) rfl (WL.v (Ev.lss rfl rfl) rfl (WL.nil (WQ.tn (WC.cond rfl (fun h10 => ?_) (fun h10 => ?_))))))))))))
    · try simp only [bsimp] at h10
      refine WC.seq (WC.reg (WL.v (Ev.fieldAddr fa29_4 rfl) rfl (WL.v (Ev.load fl3 rfl (H.cell 1 rfl rfl)) rfl (WL.callS (vs := [_, _]) rfl cl39 rfl H (r6_say _ _ _) fun w1 H L => (WL.store (i := 2) (vs := [_, _, _, _, _]) rfl rfl rfl sz42 rfl H rfl rfl fun w1 H L => (WL.v (Ev.assign rfl) rfl (WL.nil (WQ.tn (WC.ret (WQ.blk_ret (WQ.tn_ret (WQ.retC2 (vs := [_, _, _, _, _]) rfl rfl rfl ag42 sz42 (H.cells 2 rfl rfl) ?_))))))))))))
      have e1 : oneF x s now size m l = (x, stepD s, if belP s 100 < x.f.n then some (x.f.m, [], litFault) else none, l) := by unfold oneF; rw [if_neg h0, if_neg h1, if_neg h2, if_neg h4, if_neg h6, if_neg h7, if_pos h9]
      refine ⟨dr', ?_⟩
      rw [e1]
      rw [if_pos h10]
      exact OneR.stop0 ((H.sub (σ' := [_, _] ++ bksR (pre ++ x :: post)) (List.Sublist.cons_cons _ (List.Sublist.cons _ (List.Sublist.cons _ (List.Sublist.refl _))))).perm (σ' := rS c (some ⟨bl, ol, none⟩) cl Ab cb (stepD s) dr' seen (pre ++ x :: post)) (by classical (rw [List.perm_iff_count]; intro q; simp only [List.count_append, List.count_cons, List.count_nil, bksR, List.map_append, List.map_cons, List.map_nil, List.flatMap_append, List.flatMap_cons, litSlow, litFault]; omega)))
    try simp only [bsimp] at h10
    refine WC.skip (WQ.blk (WQ.tn (WC.seq (WC.reg (WL.v (Ev.build (vs := [_, _, _, _, _]) (ps := []) pl42 z42 rfl rfl) rfl (WL.v (Ev.move rfl) rfl (WL.store (i := 2) (vs := [_, _, _, _, _]) rfl rfl rfl sz42 rfl H rfl rfl fun w1 H L => (WL.v (Ev.assign rfl) rfl (WL.nil (WQ.tn (WC.ret (WQ.retC2 (vs := [_, _, _, _, _]) rfl rfl rfl ag42 sz42 (H.cells 2 rfl rfl) ?_))))))))))))
    have e1 : oneF x s now size m l = (x, stepD s, if belP s 100 < x.f.n then some (x.f.m, [], litFault) else none, l) := by unfold oneF; rw [if_neg h0, if_neg h1, if_neg h2, if_neg h4, if_neg h6, if_neg h7, if_pos h9]
    refine ⟨dr', ?_⟩
    rw [e1]
    rw [if_neg (by omega)]
    exact OneR.go ((H.sub (σ' := [_, _] ++ bksR (pre ++ x :: post)) (List.Sublist.cons_cons _ (List.Sublist.cons _ (List.Sublist.cons _ (List.Sublist.refl _))))).perm (σ' := rS c (some ⟨bl, ol, none⟩) cl Ab cb (stepD s) dr' seen (pre ++ x :: post)) (by classical (rw [List.perm_iff_count]; intro q; simp only [List.count_append, List.count_cons, List.count_nil, bksR, List.map_append, List.map_cons, List.map_nil, List.flatMap_append, List.flatMap_cons, litSlow, litFault]; omega))) (fun b hb => .inl hb) (R.gr H.gr hG)
  try simp only [bsimp] at h9
  refine WC.skip (WQ.blk (WQ.tn (WC.seq (WC.reg (WL.v (Ev.build (vs := [_, _, _, _, _]) (ps := []) pl42 z42 rfl rfl) rfl (WL.v (Ev.move rfl) rfl (WL.store (i := 1) (vs := [_, _, _, _, _]) rfl rfl rfl sz42 rfl H rfl rfl fun w1 H L => (WL.v (Ev.assign rfl) rfl (WL.nil (WQ.tn (WC.ret (WQ.retC2 (vs := [_, _, _, _, _]) rfl rfl rfl ag42 sz42 (H.cells 1 rfl rfl) ?_))))))))))))
  have e1 : oneF x s now size m l = (x, s, none, l) := by unfold oneF; rw [if_neg h0, if_neg h1, if_neg h2, if_neg h4, if_neg h6, if_neg h7, if_neg h9]
  refine ⟨dr, ?_⟩
  rw [e1]
  exact OneR.go H.tail.tail (fun b hb => .inl hb) (R.gr H.gr hG)
end Go.Proofs.Ytcmolgiccccnoaa
