/- The walks of functions: what each comes to. -/
import Derived.Test.YtcmolgiccccnoaaWel
import Derived.Test.YtcmolgiccccnoaaPut
import Derived.Test.YtcmolgiccccnoaaProg
set_option linter.unusedVariables false
set_option linter.unusedSimpArgs false
namespace Go.Proofs.Ytcmolgiccccnoaa
open Go.RowKit Go.BK
theorem cl12 : callB Try.prog 12 = true := by kernel_rfl
theorem sz34 : szOk Try.prog 34 5 := by unfold szOk; kernel_rfl
theorem ag34 : aggB Try.prog 34 = true := by kernel_rfl
theorem z34 : zOk Try.prog 34 (.agg #[.int .i64 0, str [], .slice none 0 0, .int .i64 0, .bool false]) := by unfold zOk; kernel_rfl
theorem fa34_4 : fldB Try.prog 34 4 4 = true := by kernel_rfl
theorem cl15 : callB Try.prog 15 = true := by kernel_rfl
theorem cl17 : callB Try.prog 17 = true := by kernel_rfl
theorem cl18 : callB Try.prog 18 = true := by kernel_rfl
set_option maxRecDepth 20000 in
set_option maxHeartbeats 4000000 in
theorem lw_Plays (Al : Option Addr) (e1 : Nat) (ls : List Flt) (seed : Int) (As : Option Addr) (es : Nat) (cs : List Cll) (hll : Sml ls.length) (hsl : ∀ f ∈ ls, Sml f.name.length ∧ Sml f.value.length) (hcl : Sml cs.length) (w : World) (hcs : ∀ a ∈ cs, I64 a.now ∧ OkfN ls.length a.x ∧ Rd kFd (fun _ => True) w a.A a.c a.x) (RL : Rd kFl (fun _ => True) w Al e1 ls) (RS : Rd kCl (fun _ => True) w As es cs) :
    Calls Try.prog 3 #[.slice Al ls.length e1, .int .i64 seed, .slice As cs.length es] w fun e w' => e = .returned (.bool true) ∧ St w No w' [] := by
  have hll' := hll.le
  have hcl' := hcl.le
  refine calls_of Try.func3 rfl Try.ntmps3 (by rfl) (K0 := [(0, _), (1, _), (2, _)]) ⟨rfl, rfl, rfl, trivial⟩ ?_
  have H := St.init w
  refine WC.seq (WC.reg (WL.v (Ev.assign rfl) rfl (WL.nil (WQ.tn (WC.seq (WC.seq (WC.reg (WL.callS (vs := []) rfl cl9 rfl H (lw_anchor _) fun w1 H L => (WL.v (Ev.not rfl) rfl (WL.nil (WQ.tn (WC.cond rfl (fun h0 => ?_) (fun h0 => ?_)))))))))))))
  · exact absurd h0 (by simp)
  try simp only [bsimp] at h0
  refine WC.skip (WQ.tn (WC.seq (WC.seq (WC.reg (WL.v (Ev.move rfl) rfl (WL.callS (vs := [_]) rfl cl10 rfl H (lw_right _ _ _ _ hll hsl _ (RL.st H)) fun w1 H L => (WL.v (Ev.not rfl) rfl (WL.nil (WQ.tn (WC.cond rfl (fun h1 => ?_) (fun h1 => ?_)))))))))))
  · try simp only [bsimp] at h1
    refine WC.seq (WC.reg (WL.v (Ev.assign rfl) rfl (WL.nil (WQ.tn (WC.ret (WQ.tn_ret (WQ.ret1 rfl rfl ?_)))))))
    exact ⟨rfl, H⟩
  simp only [bsimp] at h1
  have hokl : ∀ f ∈ ls, okFl f := fun f hf => okFl_right (List.all_eq_true.1 h1 f hf) (hsl f hf).1 (hsl f hf).2
  refine WC.skip (WQ.tn (WC.seq (WC.reg (WL.buildSlice0 Try.underlying22 sz29 H rfl fun b0 w1 hb0 H L => (WL.v (Ev.move rfl) rfl (WL.appendRd (i := 0) (k := kFl) Try.underlying22 sz29 by29 z29 rfl rfl rfl (RL.st H) H rfl (by omega) (by omega) rfl fun A1 c1 w1 H L => ?_))))))
  rw [Nat.zero_add, List.nil_append] at H
  rw [Nat.zero_add]
  refine WL.v (Ev.assign rfl) rfl (WL.nil (WQ.tn (WC.seq ?_)))
  replace H : St w No _ [.row 29 6 A1 ls.length c1 (ls.flatMap kFl.enc)] := H
  refine WC.reg (WL.v (Ev.move rfl) rfl (WL.v (Ev.move rfl) rfl (WL.call (vs := [_, _]) rfl cl11 rfl (fl_New _ _ ls _ hll hokl seed _ (St.rdC kFl H 0 rfl)) ?_)))
  rintro _ w1 ⟨ca, da, Aa, pa, xa, rfl, hN, H1⟩
  replace H := (H.app H1).perm (σ' := .row 29 6 A1 ls.length c1 (ls.flatMap kFl.enc) :: chS ca da Aa pa 0 (w64 seed) 0 xa) (by classical (rw [List.perm_iff_count]; intro q; simp only [List.count_append, List.count_cons, List.count_nil, chS, rS, bks, List.flatMap_append, List.flatMap_cons]; omega))
  refine ⟨_, rfl, ?_⟩
  refine WL.v (Ev.assign rfl) rfl (WL.nil (WQ.tn (WC.seq (WC.seq (WC.reg (WL.v (Ev.move rfl) rfl (WL.v (Ev.eqnil Try.underlying26 rfl rfl) rfl (WL.nil (WQ.tn (WC.cond rfl (fun h2 => ?_) (fun h2 => ?_)))))))))))
  · exact absurd h2 (by simp)
  try simp only [bsimp] at h2
  refine WC.skip (WQ.tn (WC.seq (WC.seq (WC.reg (WL.v (Ev.move rfl) rfl (WL.v (Ev.lensl Try.underlying22 rfl) rfl (WL.v (Ev.move rfl) rfl (WL.nil (WQ.tn (WC.block (WC.loop (γ := Nat × List Value) (fun ⟨j, vs⟩ => [(0, .slice Al ls.length e1), (1, .int .i64 seed), (2, .slice As cs.length es), (7, .slice A1 ls.length c1), (8, .pointer (some ⟨ca, 0, none⟩)), (32, .int .i64 (ls.length : Nat)), (33, .int .i64 (j : Nat))]) (fun ⟨j, vs⟩ w1 => j ≤ ls.length ∧ St w No w1 (.row 29 6 A1 ls.length c1 vs :: chS ca da Aa pa 0 (w64 seed) 0 xa)) (fun ⟨j, vs⟩ => ls.length - j) (0, ls.flatMap kFl.enc) (⟨Nat.zero_le _, H⟩) ⟨rfl, rfl, rfl, rfl, rfl, rfl, rfl, trivial⟩ ?_)))))))))))
  rintro ⟨j, vs⟩ w1 ⟨hj, H⟩
  refine WC.seq (WC.reg (WL.v (Ev.lssN rfl rfl) rfl (WL.nil (WQ.tn (WC.seq (WC.cond rfl (fun h4 => ?_) (fun h4 => ?_)))))))
  · simp only [bsimp] at h4
    obtain ⟨g, rfl⟩ := H.rowAt 0 rfl (by omega)
    refine WC.skip (WQ.tn (WC.seq (WC.block (WC.seq (WC.reg (WL.v (Ev.move rfl) rfl (WL.v (Ev.assign rfl) rfl (WL.nil (WQ.tn (WC.reg (WL.v (Ev.move rfl) rfl (WL.v (Ev.move rfl) rfl (WL.v (Ev.build (vs := [_, _, _, _, _, _]) (ps := [(_, _), (_, _)]) pl29 z29 rfl rfl) rfl (WL.v (Ev.idx Try.underlying22 sz29 rfl rfl (by omega)) rfl (WL.storeRow (i := 0) (j := j) (vs := [_, _, _, _, _, _]) rfl rfl rfl sz29 rfl rfl H rfl h4 fun w1 H L => (WL.nil (WQ.blk (WQ.tn (WC.reg (WL.v (Ev.addN (b := 1) rfl rfl (by omega)) rfl (WL.v (Ev.move rfl) rfl (WL.nil ?_))))))))))))))))))))))
    exact WQ.again ((j + 1, _)) (⟨by omega, H⟩) ⟨rfl, rfl, rfl, rfl, rfl, rfl, rfl, trivial⟩ (by first | omega | (dsimp only; omega))
  try simp only [bsimp] at h4
  refine WC.exit (WQ.tn_exit (WQ.loop_exit (WQ.blk_here rfl (WQ.tn (WC.seq ?_)))))
  replace H := H.tail
  refine WC.reg (WL.v (Ev.move rfl) rfl (WL.v (Ev.move rfl) rfl (WL.call (vs := [_, _]) rfl cl12 rfl (r6_New Al e1 ls _ hll seed _ (RL.st H)) ?_)))
  rintro _ w1 ⟨cr, Ab, cb, ya, rfl, hR, H1⟩
  replace H := (H.app H1).perm (σ' := chS ca da Aa pa 0 (w64 seed) 0 xa ++ rS cr Al e1 Ab cb (w64 seed) 0 0 ya) (by classical (rw [List.perm_iff_count]; intro q; simp only [List.count_append, List.count_cons, List.count_nil, chS, rS, bks, List.flatMap_append, List.flatMap_cons]; omega))
  refine ⟨_, rfl, ?_⟩
  refine WL.v (Ev.assign rfl) rfl (WL.nil (WQ.tn (WC.seq (WC.seq (WC.reg (WL.v (Ev.move rfl) rfl (WL.v (Ev.lensl Try.underlying23 rfl) rfl (WL.v (Ev.move rfl) rfl (WL.nil (WQ.tn (WC.block (WC.loop (γ := Nat × Int × Int × Int × Int × List Fx × List Fx) (fun ⟨i, seen, s, dr, dq, xs, ys⟩ => [(8, .pointer (some ⟨ca, 0, none⟩)), (10, .pointer (some ⟨cr, 0, none⟩)), (44, .slice As cs.length es), (45, .int .i64 (cs.length : Nat)), (46, .int .i64 (i : Nat))]) (fun ⟨i, seen, s, dr, dq, xs, ys⟩ w1 => i ≤ cs.length ∧ AlqL xs ys ∧ (∀ x ∈ xs, okFx x) ∧ (∀ y ∈ ys, okFx y) ∧ ys.map (·.f) = ls ∧ St w No w1 (chS ca da Aa pa seen s dr xs ++ rS cr Al e1 Ab cb s dq seen ys)) (fun ⟨i, seen, s, dr, dq, xs, ys⟩ => cs.length - i) (0, 0, w64 seed, 0, 0, xa, ya) (⟨Nat.zero_le _, new_alq hN hR hokl, new_okx hN hokl, newR_okx hR hokl, by have := hR.1; rw [List.take_length] at this; exact this, H⟩) ⟨rfl, rfl, rfl, rfl, rfl, trivial⟩ ?_))))))))))))
  rintro ⟨i, seen, s, dr, dq, xs, ys⟩ w1 ⟨hi, hal, hxo, hyo, hyf, H⟩
  refine WC.seq (WC.reg (WL.v (Ev.lssN rfl rfl) rfl (WL.nil (WQ.tn (WC.seq (WC.cond rfl (fun h6 => ?_) (fun h6 => ?_)))))))
  · simp only [bsimp] at h6
    obtain ⟨bS, oS, rfl, _, hcS⟩ := (RS.st H).at h6
    obtain ⟨a, hjS⟩ : ∃ a, cs[i]? = some a := ⟨_, getx h6⟩
    obtain ⟨hnow, hxk, RX⟩ := hcs a (List.mem_of_getElem? hjS)
    have hyl : ys.length = ls.length := by rw [← hyf, List.length_map]
    have hxl : xs.length = ls.length := by rw [hal.len, hyl]
    refine WC.skip (WQ.tn (WC.seq (WC.block (WC.seq (WC.reg (WL.v (Ev.idx Try.underlying23 sz34 rfl rfl (by omega)) rfl (WL.v (Ev.loadA (vs := [_, _, _, _, _]) ag34 sz34 rfl ((rdCells hcS hjS 0 rfl))) rfl (WL.alloc z34 rfl H rfl fun b1 w1 hb1 H L => (WL.store (i := 0) (vs := [_, _, _, _, _]) rfl rfl rfl sz34 rfl H rfl rfl fun w1 H L => (WL.nil (WQ.tn (WC.seq (WC.reg (WL.buildSlice0 Try.underlying32 sz54 H rfl fun b2 w1 hb2 H L => (WL.v (Ev.fieldAddr fa34_2 rfl) rfl (WL.v (Ev.load fl32 rfl (H.cell 1 rfl rfl)) rfl (WL.appendRd (i := 0) (k := kFd) Try.underlying32 sz54 by54 z54 rfl rfl rfl (RX.st H) H rfl (by omega) (by have := hxk.okf.len; omega) rfl fun A1 c1 w1 H L => ?_)))))))))))))))))
    rw [Nat.zero_add, List.nil_append] at H
    rw [Nat.zero_add]
    refine WL.v (Ev.assign rfl) rfl (WL.nil (WQ.tn (WC.seq (WC.seq (WC.reg (WL.v (Ev.fieldAddr fa34_4 rfl) rfl (WL.v (Ev.load fl4 rfl (H.cell 1 rfl rfl)) rfl (WL.nil (WQ.tn (WC.cond rfl (fun h7 => ?_) (fun h7 => ?_)))))))))))
    · try simp only [bsimp] at h7
      refine WC.seq (WC.seq ?_)
      replace H : St w No _ (rowF A1 c1 a.x :: .blk b1 (encC a) 34 (0, 0) :: (chS ca da Aa pa seen s dr xs ++ rS cr Al e1 Ab cb s dq seen ys)) := H
      refine WC.drawT mixed (No) 16 [(false, 0), (false, 1), (false, 3), (false, 4), (false, 5), (true, 2), (true, 6), (true, 7), (false, 8), (false, 9), (false, 10), (false, 11), (false, 12), (true, 13), (false, 14), (false, 15)] (by kernel_rfl) ?_
      intro w1 L
      replace H := H.ext L
      have hK := Gr.refl (No) w1
      have HD := H
      refine WX.v rfl (fun w2 hC => Ev.move rfl) rfl (WX.v rfl (fun w2 hC => Ev.move rfl) rfl (WX.v rfl (fun w2 hC => Ev.move rfl) rfl (WX.v rfl (fun w2 hC => Ev.fieldAddr fa34_2 rfl) rfl (WX.v rfl (fun w2 hC => Ev.load fl32 rfl (Gr.cell hC (fun h => h) (HD.cell 1 rfl rfl))) rfl (WX.loud rfl rfl ?_)))))
      obtain ⟨os, hos⟩ := of_list hxo
      have hol : os.length = xs.length := by rw [hos, List.length_map]
      have RXX := (H.rd (kFx da) 3 rfl).1
      rw [hos] at RXX
      have hresp := fl_Response ca da Aa pa os _ (by rw [hol, hxl]; exact hll) A1 c1 a.x _ (by rw [hol, hxl]; exact hxk) _ (by rw [hol]; exact H.cell 2 rfl (o := 0) rfl) (Rd.of RXX) (St.rdC kFd H 0 rfl)
      rw [← hos] at hresp
      refine WL.call (vs := [_, _]) rfl cl14 rfl (hresp) ?_
      rintro _ w1 ⟨Ao, co, rfl, H1⟩
      have LX := H1.gr
      replace H := H.app H1
      refine ⟨_, rfl, ?_⟩
      replace hK := hK.ext LX
      refine WL.nil (WQ.back (fun _ => hK) (WX.loud rfl rfl ?_))
      have HZ := H.perm (σ' := rS cr Al e1 Ab cb s dq seen ys ++ (rowF Ao co (backL a.x xs.reverse) :: rowF A1 c1 a.x :: .blk b1 (encC a) 34 (0, 0) :: chS ca da Aa pa seen s dr xs)) (by classical (rw [List.perm_iff_count]; intro q; simp only [List.count_append, List.count_cons, List.count_nil, chS, rS, bks, List.flatMap_append, List.flatMap_cons]; omega))
      refine WL.call (vs := [_, _]) rfl cl15 rfl (r6_Response cr Al e1 ys hyo (by rw [hyl]; exact hll) _ a.A a.c a.x _ (by rw [hyl]; exact hxk) _ (HZ.cell 0 rfl (o := 0) rfl) (by rw [hyf]; exact RL.st H) (RX.st H)) ?_
      rintro _ w1 ⟨Aq, cq, rfl, H1⟩
      have LX2 := H1.gr
      replace H := H.app H1
      refine ⟨_, rfl, ?_⟩
      replace hK := hK.ext LX2
      refine WL.nil (WQ.back (fun _ => hK) (WX.loud rfl rfl (WL.callS (vs := [_, _]) rfl cl13 rfl H (ref07_Same Ao co _ _ Aq cq _ _ (backL_okP xs a.x 0 hxo (by rw [hxl]; exact hxk)).okf.1 _ (St.rdC kFd H 1 rfl) (St.rdC kFd H 0 rfl)) fun w1 H L => ?_)))
      replace hK := hK.ext L
      refine WL.nil (WQ.back (fun _ => hK) (WX.v rfl (fun w2 hC => Ev.not rfl) rfl (WX.v rfl (fun w2 hC => Ev.move rfl) rfl (WX.g rfl (Met.no rfl rfl) (fun hg w2 hC => Ev.move rfl) rfl (WX.g rfl (Met.no rfl rfl) (fun hg w2 hC => Ev.fieldAddr fa34_2 rfl) rfl (WX.g rfl (Met.no rfl rfl) (fun hg w2 hC => Ev.load fl32 ((evG.un rfl).ev hg) (Gr.cell hC (fun h => h) (HD.cell 1 rfl rfl))) rfl (WX.loud rfl rfl (WL.gcallS (vs := [_, _]) (Met.no rfl rfl) (fun hg => (evs_cons ((evG.un rfl).ev hg) (evs_cons ((evG.un rfl).ev hg) rfl))) cl13 rfl H (fun hg => by have q := ref07_Same A1 c1 a.x _ a.A a.c a.x _ hxk.okf.1 _ (St.rdC kFd H 2 rfl) (RX.st H); exact q) fun w1 H L => ?_))))))))
      replace hK := hK.ext L
      refine WL.nil (WQ.back (fun _ => hK) (WX.g rfl (Met.no rfl rfl) (fun hg w2 hC => Ev.not ((evG.un rfl).ev hg)) rfl (WX.v rfl (fun w2 hC => Ev.or rfl rfl rfl) rfl (WX.nil (WQ.tn (WC.cond rfl (fun h8 => ?_) (fun h8 => ?_)))))))
      · simp only [bsimp] at h8
        exfalso
        rcases h8 with h | h
        · exact h (backL_alq hal _)
        · exact h trivial
      try simp only [bsimp] at h8
      refine WC.skip (WQ.tn (WC.exit (WQ.tn_exit (WQ.blk_here rfl (WQ.tn (WC.reg (WL.v (Ev.addN (b := 1) rfl rfl (by omega)) rfl (WL.v (Ev.move rfl) rfl (WL.nil ?_)))))))))
      exact WQ.again ((i + 1, seen, s, dr, dq, xs, ys)) (⟨by omega, hal, hxo, hyo, hyf, H.sub (List.Sublist.cons _ (List.Sublist.cons _ (List.Sublist.cons _ (List.Sublist.cons _ (List.Sublist.refl _)))))⟩) ⟨rfl, rfl, rfl, rfl, rfl, trivial⟩ (by first | omega | (dsimp only; omega))
    try simp only [bsimp] at h7
    refine WC.skip (WQ.tn (WC.seq (WC.reg (WL.v (Ev.move rfl) rfl (WL.v (Ev.fieldAddr fa34_0 rfl) rfl (WL.v (Ev.load fl3 rfl (H.cell 1 rfl rfl)) rfl (WL.v (Ev.fieldAddr fa34_1 rfl) rfl (WL.v (Ev.load fl9 rfl (H.cell 1 rfl rfl)) rfl (WL.v (Ev.move rfl) rfl (WL.v (Ev.fieldAddr fa34_3 rfl) rfl (WL.v (Ev.load fl3 rfl (H.cell 1 rfl rfl)) rfl ?_)))))))))))
    replace H : St w No _ (rowF A1 c1 a.x :: .blk b1 (encC a) 34 (0, 0) :: (chS ca da Aa pa seen s dr xs ++ rS cr Al e1 Ab cb s dq seen ys)) := H
    have HQ2 := H.perm (σ' := chS ca da Aa pa seen s dr xs ++ (rowF A1 c1 a.x :: .blk b1 (encC a) 34 (0, 0) :: rS cr Al e1 Ab cb s dq seen ys)) (by classical (rw [List.perm_iff_count]; intro q; simp only [List.count_append, List.count_cons, List.count_nil, chS, rS, bks, List.flatMap_append, List.flatMap_cons]; omega))
    have HQ := HQ2.sub (List.sublist_append_left _ _)
    refine WL.call (vs := [_, _, _, _, _]) rfl cl16 rfl (fl_Request ca da Aa pa seen s dr xs hxo (by rw [hxl]; exact hll) a.now a.size hnow a.m A1 c1 a.x _ (by rw [hxl]; exact hxk) _ (St.rdC kFd H 0 rfl) (St.rowBk HQ2 (List.mem_cons_self ..)) HQ.local) ?_
    rintro _ w1 hp
    obtain ⟨dr1, Af, cf, Ap, cp, rfl, H1⟩ := hp.all
    replace H := (HQ2.frame H1).perm (σ' := rowF A1 c1 a.x :: .blk b1 (encC a) 34 (0, 0) :: rowF Af cf (oF (rq seen a.now a.size a.m xs s a.x)) :: rowF Ap cp (oP (rq seen a.now a.size a.m xs s a.x)) :: (chS ca da Aa pa (rqT seen a.now) (rq seen a.now a.size a.m xs s a.x).2.1 dr1 (rq seen a.now a.size a.m xs s a.x).1 ++ rS cr Al e1 Ab cb s dq seen ys)) (by classical (rw [List.perm_iff_count]; intro q; simp only [List.count_append, List.count_cons, List.count_nil, chS, rS, bks, List.flatMap_append, List.flatMap_cons]; omega))
    refine ⟨_, rfl, ?_⟩
    refine WL.v (Ev.move rfl) rfl (WL.v (Ev.extract rfl rfl) rfl (WL.v (Ev.extract rfl rfl) rfl (WL.alloc z38 rfl H rfl fun b3 w1 hb3 H L => (WL.store (i := 0) (vs := [_, _, _, _, _]) rfl rfl rfl sz38 rfl H rfl rfl fun w1 H L => (WL.v (Ev.assign rfl) rfl (WL.nil (WQ.tn (WC.seq (WC.reg (WL.v (Ev.move rfl) rfl (WL.v (Ev.fieldAddr fa34_0 rfl) rfl (WL.v (Ev.load fl3 rfl (H.cell 2 rfl rfl)) rfl (WL.v (Ev.fieldAddr fa34_1 rfl) rfl (WL.v (Ev.load fl9 rfl (H.cell 2 rfl rfl)) rfl (WL.v (Ev.fieldAddr fa34_2 rfl) rfl (WL.v (Ev.load fl32 rfl (H.cell 2 rfl rfl)) rfl (WL.v (Ev.fieldAddr fa34_3 rfl) rfl (WL.v (Ev.load fl3 rfl (H.cell 2 rfl rfl)) rfl ?_))))))))))))))))))
    replace H : St w No _ (.blk b3 [.bool (oStop (rq seen a.now a.size a.m xs s a.x)), .int .i64 (oSt (rq seen a.now a.size a.m xs s a.x)), .slice Af (oF (rq seen a.now a.size a.m xs s a.x)).length cf, str (oB (rq seen a.now a.size a.m xs s a.x)), .slice Ap (oP (rq seen a.now a.size a.m xs s a.x)).length cp] 38 (0, 0) :: rowF A1 c1 a.x :: .blk b1 (encC a) 34 (0, 0) :: rowF Af cf (oF (rq seen a.now a.size a.m xs s a.x)) :: rowF Ap cp (oP (rq seen a.now a.size a.m xs s a.x)) :: (chS ca da Aa pa (rqT seen a.now) (rq seen a.now a.size a.m xs s a.x).2.1 dr1 (rq seen a.now a.size a.m xs s a.x).1 ++ rS cr Al e1 Ab cb s dq seen ys)) := H
    have HQ2 := H.perm (σ' := rS cr Al e1 Ab cb s dq seen ys ++ (.blk b3 [.bool (oStop (rq seen a.now a.size a.m xs s a.x)), .int .i64 (oSt (rq seen a.now a.size a.m xs s a.x)), .slice Af (oF (rq seen a.now a.size a.m xs s a.x)).length cf, str (oB (rq seen a.now a.size a.m xs s a.x)), .slice Ap (oP (rq seen a.now a.size a.m xs s a.x)).length cp] 38 (0, 0) :: rowF A1 c1 a.x :: .blk b1 (encC a) 34 (0, 0) :: rowF Af cf (oF (rq seen a.now a.size a.m xs s a.x)) :: rowF Ap cp (oP (rq seen a.now a.size a.m xs s a.x)) :: chS ca da Aa pa (rqT seen a.now) (rq seen a.now a.size a.m xs s a.x).2.1 dr1 (rq seen a.now a.size a.m xs s a.x).1)) (by classical (rw [List.perm_iff_count]; intro q; simp only [List.count_append, List.count_cons, List.count_nil, chS, rS, bks, List.flatMap_append, List.flatMap_cons]; omega))
    have HQ := HQ2.sub (List.sublist_append_left _ _)
    refine WL.call (vs := [_, _, _, _, _]) rfl cl17 rfl (r6_Request cr Al e1 Ab cb s dq seen ys hyo (by rw [hyl]; exact hll) _ a.now a.size hnow a.m a.A a.c a.x _ (by rw [hyl]; exact hxk) _ (by rw [hyf]; exact RL.lt.st H) (St.oldBk HQ2) (RX.lt.st H) (St.oldBk HQ2) HQ.local) ?_
    rintro _ w1 hp
    obtain ⟨dq1, Bf, ef, Bp, ep, rfl, H1⟩ := hp.all
    replace H := (HQ2.frame H1).perm (σ' := .blk b3 [.bool (oStop (rq seen a.now a.size a.m xs s a.x)), .int .i64 (oSt (rq seen a.now a.size a.m xs s a.x)), .slice Af (oF (rq seen a.now a.size a.m xs s a.x)).length cf, str (oB (rq seen a.now a.size a.m xs s a.x)), .slice Ap (oP (rq seen a.now a.size a.m xs s a.x)).length cp] 38 (0, 0) :: rowF A1 c1 a.x :: .blk b1 (encC a) 34 (0, 0) :: rowF Af cf (oF (rq seen a.now a.size a.m xs s a.x)) :: rowF Ap cp (oP (rq seen a.now a.size a.m xs s a.x)) :: rowF Bf ef (oF (rq seen a.now a.size a.m ys s a.x)) :: rowF Bp ep (oP (rq seen a.now a.size a.m ys s a.x)) :: (chS ca da Aa pa (rqT seen a.now) (rq seen a.now a.size a.m xs s a.x).2.1 dr1 (rq seen a.now a.size a.m xs s a.x).1 ++ rS cr Al e1 Ab cb (rq seen a.now a.size a.m ys s a.x).2.1 dq1 (rqT seen a.now) (rq seen a.now a.size a.m ys s a.x).1)) (by classical (rw [List.perm_iff_count]; intro q; simp only [List.count_append, List.count_cons, List.count_nil, chS, rS, bks, List.flatMap_append, List.flatMap_cons]; omega))
    refine ⟨_, rfl, ?_⟩
    refine WL.v (Ev.move rfl) rfl (WL.v (Ev.extract rfl rfl) rfl (WL.v (Ev.extract rfl rfl) rfl (WL.alloc z42 rfl H rfl fun b4 w1 hb4 H L => (WL.store (i := 0) (vs := [_, _, _, _, _]) rfl rfl rfl sz42 rfl H rfl rfl fun w1 H L => (WL.v (Ev.assign rfl) rfl (WL.nil (WQ.tn (WC.seq (WC.reg (WL.v (Ev.move rfl) rfl (WL.v (Ev.move rfl) rfl (WL.v (Ev.nei rfl rfl) rfl (WL.v (Ev.move rfl) rfl (WL.g (Met.no rfl rfl) (fun hg => Ev.loadA (vs := [_, _, _, _, _]) ag38 sz38 rfl (H.cells 1 rfl rfl)) rfl (WL.g (Met.no rfl rfl) (fun hg => Ev.loadA (vs := [_, _, _, _, _]) ag42 sz42 rfl (H.cells 0 rfl rfl)) rfl (WL.gcallS (vs := [_, _]) (Met.no rfl rfl) (fun hg => (evs_cons ((evG.un rfl).ev hg) (evs_cons ((evG.un rfl).ev hg) rfl))) cl18 rfl H (fun hg => lw_same _ _ _ _ _ _ _ _ _ _ _ _ _ _ _ _ _ _ _ _ _ _ (rq_fl seen a.now a.size a.m xs s a.x) (rq_pl hxo (by rw [hxl]; exact hxk) seen a.now a.size a.m s).1 _ (St.rdC kFd H 4 rfl) (St.rdC kFd H 6 rfl) (St.rdC kFd H 5 rfl) (St.rdC kFd H 7 rfl)) fun w1 H L => (WL.g (Met.no rfl rfl) (fun hg => Ev.not ((evG.un rfl).ev hg)) rfl (WL.v (Ev.or rfl rfl rfl) rfl (WL.v (Ev.move rfl) rfl (WL.g (Met.no rfl rfl) (fun hg => Ev.move rfl) rfl (WL.g (Met.no rfl rfl) (fun hg => Ev.fieldAddr fa34_2 rfl) rfl (WL.g (Met.no rfl rfl) (fun hg => Ev.load fl32 ((evG.un rfl).ev hg) (H.cell 3 rfl rfl)) rfl (WL.gcallS (vs := [_, _]) (Met.no rfl rfl) (fun hg => (evs_cons ((evG.un rfl).ev hg) (evs_cons ((evG.un rfl).ev hg) rfl))) cl13 rfl H (fun hg => by have q := ref07_Same A1 c1 a.x _ a.A a.c a.x _ hxk.okf.1 _ (St.rdC kFd H 2 rfl) (RX.st H); exact q) fun w1 H L => (WL.g (Met.no rfl rfl) (fun hg => Ev.not ((evG.un rfl).ev hg)) rfl (WL.v (Ev.or rfl rfl rfl) rfl (WL.nil ?_))))))))))))))))))))))))))
    refine WQ.tn (WC.cond rfl (fun h9 => ?_) (fun h9 => ?_))
    · exfalso
      obtain ⟨q1, q2, q3, q4, q5⟩ := o_eq' (congrArg Prod.snd (rq_alq hal seen a.now a.size a.m s a.x).1)
      rw [← q1, ← q2, ← q3, ← q4, ← q5] at h9
      simp at h9
    try simp only [bsimp] at h9
    refine WC.skip (WQ.blk (WQ.tn (WC.reg (WL.v (Ev.addN (b := 1) rfl rfl (by omega)) rfl (WL.v (Ev.move rfl) rfl (WL.nil ?_))))))
    have e2 := rq_alq hal seen a.now a.size a.m s a.x
    replace H := H.sub (σ' := chS ca da Aa pa (rqT seen a.now) (rq seen a.now a.size a.m xs s a.x).2.1 dr1 (rq seen a.now a.size a.m xs s a.x).1 ++ rS cr Al e1 Ab cb (rq seen a.now a.size a.m ys s a.x).2.1 dq1 (rqT seen a.now) (rq seen a.now a.size a.m ys s a.x).1) (List.Sublist.cons _ (List.Sublist.cons _ (List.Sublist.cons _ (List.Sublist.cons _ (List.Sublist.cons _ (List.Sublist.cons _ (List.Sublist.cons _ (List.Sublist.cons _ (List.Sublist.refl _)))))))))
    rw [← congrArg Prod.fst e2.1] at H
    exact WQ.again ((i + 1, rqT seen a.now, (rq seen a.now a.size a.m xs s a.x).2.1, dr1, dq1, (rq seen a.now a.size a.m xs s a.x).1, (rq seen a.now a.size a.m ys s a.x).1)) (⟨by omega, e2.2, rq_okx hxo _ _ _ _ _ _, rq_okx hyo _ _ _ _ _ _, by rw [rq_f]; exact hyf, H⟩) ⟨rfl, rfl, rfl, rfl, rfl, trivial⟩ (by first | omega | (dsimp only; omega))
  try simp only [bsimp] at h6
  refine WC.exit (WQ.tn_exit (WQ.loop_exit (WQ.blk_here rfl (WQ.tn (WC.seq (WC.reg (WL.v (Ev.assign rfl) rfl (WL.nil (WQ.tn (WC.ret (WQ.ret1 rfl rfl ?_)))))))))))
  exact ⟨rfl, H.done⟩
end Go.Proofs.Ytcmolgiccccnoaa
