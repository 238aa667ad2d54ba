/- The walks of functions: what each comes to. -/
import Derived.Test.YtcmolgiccccnoaaWx
import Derived.Test.YtcmolgiccccnoaaProg
set_option linter.unusedVariables false
set_option linter.unusedSimpArgs false
namespace Go.Proofs.Ytcmolgiccccnoaa
open Go.RowKit Go.BK
theorem cl10 : callB Try.prog 10 = true := by kernel_rfl
theorem fa34_0 : fldB Try.prog 34 0 0 = true := by kernel_rfl
theorem by29 : byOk Try.prog 29 64 := by unfold byOk; kernel_rfl
theorem fa34_1 : fldB Try.prog 34 1 1 = true := by kernel_rfl
theorem fa34_2 : fldB Try.prog 34 2 2 = true := by kernel_rfl
theorem fa34_3 : fldB Try.prog 34 3 3 = true := by kernel_rfl
theorem fa38_3 : fldB Try.prog 38 3 3 = true := by kernel_rfl
theorem fa38_2 : fldB Try.prog 38 2 2 = true := by kernel_rfl
theorem kind7 {fs : List Flt} (h : ∀ f ∈ fs, f.kind ≠ 7) {xs : List Fx} (hN : NewOk fs fs.length xs) : ∀ x ∈ xs, x.f.kind ≠ 7 := fun x hx => h _ (by
  have h1 := hN.1
  rw [List.take_length] at h1
  rw [← h1]; exact List.mem_map.2 ⟨x, hx, rfl⟩)
theorem oStop_some {r : List Fx × Int × Stp × List Fld} : oStop r = r.2.2.1.isSome := rfl
theorem o_eq {r r' : List Fx × Int × Stp × List Fld} (h : r.2.2 = r'.2.2) : oStop r = oStop r' ∧ oSt r = oSt r' ∧ oF r = oF r' ∧ oB r = oB r' ∧ oP r = oP r' := by
  unfold oStop oSt oF oB oP
  rw [h]; exact ⟨rfl, rfl, rfl, rfl, rfl⟩
theorem oP_none {r : List Fx × Int × Stp × List Fld} (h : oStop r = false) : oP r = r.2.2.2 := by
  unfold oStop at h; unfold oP
  cases hr : r.2.2.1 with
  | none => rfl
  | some t => rw [hr] at h; cases h
/-- Both halves, one behind the other. -/
theorem halves {ls ms : List Flt} {xa xb xc : List Fx} (ha : NewOk ls ls.length xa) (hb : NewOk ms ms.length xb) (hc : NewOk (ls ++ ms) (ls ++ ms).length xc) (h7 : ∀ f ∈ ls ++ ms, f.kind ≠ 7) (now size : Int) (m : Bs) (s : Int) (x : List Fld) :
    (oStop (runF now size m xa s x) = true → (runF now size m xc s x).2.2 = (runF now size m xa s x).2.2) ∧ (oStop (runF now size m xa s x) = false → (runF now size m xc s x).2.2 = (runF now size m xb s (oP (runF now size m xa s x))).2.2) := by
  have e1 := runF_alk now size m xc (xa ++ xb) s x (new_alk ha hb hc)
  have e2 := runF_app now size m xa xb s x
  have e3 := runF_dice now size m xa s x (kind7 (fun f hf => h7 f (by simp [hf])) ha)
  rw [e1, e2, e3]
  unfold oStop
  refine ⟨fun h => by rw [if_pos h], fun h => by rw [if_neg (by rw [h]; simp), oP_none h]⟩
theorem St.rowLen {w0 w : World} {S : Nat → Prop} {σ : Held} (H : St w0 S w σ) (i : Nat) {e sz n c : Nat} {A : Option Addr} {xs : List Value} (hσ : σ[i]? = some (.row e sz A n c xs)) : n ≤ maxLen := by
  obtain ⟨_, h | ⟨g, cap, cur, he, _, _, h1, h2, _⟩⟩ := (H.cont _ (List.mem_of_getElem? hσ)).1
  · rw [h.2]; exact Nat.zero_le _
  · exact Nat.le_trans h1 h2
theorem take_ne {fs : List Flt} {j : Nat} (h : j < fs.length) (h1 : ∀ f ∈ fs.take j, f.kind ≠ 7) (h2 : fs[j].kind ≠ 7) : ∀ f ∈ fs.take (j + 1), f.kind ≠ 7 := by
  rw [take_succ_get h]
  intro f hf
  rcases List.mem_append.1 hf with hf | hf
  · exact h1 f hf
  · obtain rfl := List.mem_singleton.1 hf; exact h2
set_option maxRecDepth 20000 in
set_option maxHeartbeats 4000000 in
theorem lw_First (Al : Option Addr) (e1 : Nat) (ls : List Flt) (Am : Option Addr) (e2 : Nat) (ms : List Flt) (now : Int) (hnow : I64 now) (m : Bs) (A : Option Addr) (c : Nat) (x : List Fld) (size : Int) (bk : Bool) (hll : Sml ls.length) (hlm : Sml ms.length) (hlc : Sml (ls ++ ms).length) (hsl : ∀ f ∈ ls, Sml f.name.length ∧ Sml f.value.length) (hsm : ∀ f ∈ ms, Sml f.name.length ∧ Sml f.value.length) (hx : OkfN (ls.length + ms.length) x) (w : World) (RL : Rd kFl (fun _ => True) w Al e1 ls) (RM : Rd kFl (fun _ => True) w Am e2 ms) (RX : Rd kFd (fun _ => True) w A c x) :
    Calls Try.prog 8 #[.slice Al ls.length e1, .slice Am ms.length e2, .agg #[.int .i64 now, str m, .slice A x.length c, .int .i64 size, .bool bk]] w fun e w' => e = .returned (.bool true) ∧ St w No w' [] := by
  have hll' := hll.le
  have hlm' := hlm.le
  have hlc9 := hlc.le
  have hlc' : ls.length + ms.length ≤ 1099511627776 := by have := hlc.le; rw [List.length_append] at this; exact this
  refine calls_of Try.func8 rfl Try.ntmps8 (by rfl) (K0 := [(0, _), (1, _), (2, _)]) ⟨rfl, rfl, rfl, trivial⟩ ?_
  have H := St.init w
  refine WC.seq (WC.reg (WL.box (t := 34) (cs := [_, _, _, _, _]) rfl rfl H rfl fun b1 w1 hb1 H L => (WL.v (Ev.assign rfl) rfl (WL.nil (WQ.tn (WC.seq (WC.seq (WC.reg (WL.callS (vs := []) rfl cl9 rfl H (lw_anchor _) fun w1 H L => (WL.v (Ev.not rfl) rfl (WL.nil (WQ.tn (WC.cond rfl (fun h0 => ?_) (fun h0 => ?_))))))))))))))
  · exact absurd h0 (by simp)
  try simp only [bsimp] at h0
  refine WC.skip (WQ.tn (WC.seq (WC.seq (WC.reg (WL.v (Ev.move rfl) rfl (WL.callS (vs := [_]) rfl cl10 rfl H (lw_right _ _ _ _ hll hsl _ (RL.st H)) fun w1 H L => (WL.v (Ev.not rfl) rfl (WL.v (Ev.move rfl) rfl (WL.g (Met.no rfl rfl) (fun hg => Ev.move rfl) rfl (WL.gcallS (vs := [_]) (Met.no rfl rfl) (fun hg => (evs_cons ((evG.un rfl).ev hg) rfl)) cl10 rfl H (fun hg => lw_right _ _ _ _ hlm hsm _ (RM.st H)) fun w1 H L => (WL.g (Met.no rfl rfl) (fun hg => Ev.not ((evG.un rfl).ev hg)) rfl (WL.v (Ev.or rfl rfl rfl) rfl (WL.v (Ev.move rfl) rfl (WL.g (Met.no rfl rfl) (fun hg => Ev.fieldAddr fa34_0 rfl) rfl (WL.g (Met.no rfl rfl) (fun hg => Ev.load fl3 ((evG.un rfl).ev hg) (H.cell 0 rfl rfl)) rfl (WL.g (Met.no rfl rfl) (fun hg => Ev.lss ((evG.un rfl).ev hg) rfl) rfl (WL.v (Ev.or rfl rfl rfl) rfl (WL.v (Ev.move rfl) rfl (WL.g (Met.no rfl rfl) (fun hg => Ev.fieldAddr fa34_0 rfl) rfl (WL.g (Met.no rfl rfl) (fun hg => Ev.load fl3 ((evG.un rfl).ev hg) (H.cell 0 rfl rfl)) rfl (WL.g (Met.no rfl rfl) (fun hg => Ev.gtr ((evG.un rfl).ev hg) rfl) rfl (WL.v (Ev.or rfl rfl rfl) rfl (WL.nil ?_)))))))))))))))))))))))
  refine WQ.tn (WC.cond rfl (fun h1 => ?_) (fun h1 => ?_))
  · try simp only [bsimp] at h1
    refine WC.seq (WC.reg (WL.v (Ev.assign rfl) rfl (WL.nil (WQ.tn (WC.ret (WQ.tn_ret (WQ.ret1 rfl rfl ?_)))))))
    exact ⟨rfl, H.done⟩
  simp only [bsimp] at h1
  obtain ⟨⟨⟨hr1, hr2⟩, hn1⟩, hn2⟩ := h1
  have hin : inS 0 now := ⟨by omega, by omega⟩
  have hokl : ∀ f ∈ ls, okFl f := fun f hf => okFl_right (List.all_eq_true.1 hr1 f hf) (hsl f hf).1 (hsl f hf).2
  have hokm : ∀ f ∈ ms, okFl f := fun f hf => okFl_right (List.all_eq_true.1 hr2 f hf) (hsm f hf).1 (hsm f hf).2
  have hokc : ∀ f ∈ ls ++ ms, okFl f := fun f hf => (List.mem_append.1 hf).elim (hokl f) (hokm f)
  refine WC.skip (WQ.tn (WC.seq (WC.seq (WC.reg (WL.buildSlice0 Try.underlying22 sz29 H rfl fun b2 w1 hb2 H L => (WL.v (Ev.move rfl) rfl (WL.appendRd (i := 0) (k := kFl) Try.underlying22 sz29 by29 z29 rfl rfl rfl (RL.st H) H rfl (by omega) (by omega) rfl fun A1 c1 w1 H L => ?_)))))))
  rw [Nat.zero_add, List.nil_append] at H
  rw [Nat.zero_add]
  refine WL.v (Ev.move rfl) rfl (WL.appendRd (i := 0) (k := kFl) Try.underlying22 sz29 by29 z29 rfl rfl rfl (RM.st H) H rfl (by omega) (by omega) rfl fun A1 c1 w1 H L => ?_)
  rw [← List.length_append, ← List.flatMap_append] at H
  rw [← List.length_append]
  refine WL.v (Ev.lensl Try.underlying22 rfl) rfl (WL.v (Ev.move rfl) rfl (WL.nil (WQ.tn (WC.block (WC.loop (γ := Nat) (fun j => [(0, .slice Al ls.length e1), (1, .slice Am ms.length e2), (5, .pointer (some ⟨b1, 0, none⟩)), (44, .slice A1 (ls ++ ms).length c1), (45, .int .i64 ((ls ++ ms).length : Nat)), (46, .int .i64 (j : Nat))]) (fun j w1 => j ≤ (ls ++ ms).length ∧ (∀ f ∈ (ls ++ ms).take j, f.kind ≠ 7) ∧ St w No w1 [.row 29 6 A1 (ls ++ ms).length c1 ((ls ++ ms).flatMap kFl.enc), .blk b1 [.int .i64 now, str m, .slice A x.length c, .int .i64 size, .bool bk] 34 (0, 0)]) (fun j => (ls ++ ms).length - j) 0 (⟨Nat.zero_le _, fun f hf => by simp at hf, H⟩) ⟨rfl, rfl, rfl, rfl, rfl, rfl, trivial⟩ ?_)))))
  rintro j w1 ⟨hj, hs7, H⟩
  refine WC.seq (WC.reg (WL.v (Ev.lssN rfl rfl) rfl (WL.nil (WQ.tn (WC.seq (WC.cond rfl (fun h3 => ?_) (fun h3 => ?_)))))))
  · simp only [bsimp] at h3
    obtain ⟨bq, oq, rfl, hG, hc⟩ := (St.rdC kFl H 0 rfl).at h3
    have hj1 := getx h3
    refine WC.skip (WQ.tn (WC.seq (WC.block (WC.seq (WC.reg (WL.v (Ev.idx Try.underlying22 sz29 rfl rfl (by omega)) rfl (WL.v (Ev.loadA (vs := [_, _, _, _, _, _]) ag29 sz29 rfl ((rdCells hc hj1 0 rfl))) rfl (WL.alloc z29 rfl H rfl fun b3 w1 hb3 H L => (WL.store (i := 0) (vs := [_, _, _, _, _, _]) rfl rfl rfl sz29 rfl H rfl rfl fun w1 H L => (WL.nil (WQ.tn (WC.seq (WC.reg (WL.v (Ev.fieldAddr fa29_0 rfl) rfl (WL.v (Ev.load fl3 rfl (H.cell 0 rfl rfl)) rfl (WL.v (Ev.eqi rfl rfl) rfl (WL.nil (WQ.tn (WC.cond rfl (fun h4 => ?_) (fun h4 => ?_))))))))))))))))))))
    · try simp only [bsimp] at h4
      refine WC.seq (WC.reg (WL.v (Ev.assign rfl) rfl (WL.nil (WQ.tn (WC.ret (WQ.blk_ret (WQ.tn_ret (WQ.loop_ret (WQ.blk_ret (WQ.tn_ret (WQ.ret1 rfl rfl ?_)))))))))))
      exact ⟨rfl, H.done⟩
    try simp only [bsimp] at h4
    refine WC.skip (WQ.blk (WQ.tn (WC.reg (WL.v (Ev.addN (b := 1) rfl rfl (by omega)) rfl (WL.v (Ev.move rfl) rfl (WL.nil ?_))))))
    exact WQ.again (j + 1) (⟨by omega, take_ne h3 hs7 (by omega), H.tail⟩) ⟨rfl, rfl, rfl, rfl, rfl, rfl, trivial⟩ (by first | omega | (dsimp only; omega))
  try simp only [bsimp] at h3
  refine WC.exit (WQ.tn_exit (WQ.loop_exit (WQ.blk_here rfl (WQ.tn (WC.seq ?_)))))
  obtain rfl : j = (ls ++ ms).length := by omega
  rw [List.take_length] at hs7
  replace H := H.tail
  refine WC.reg (WL.buildSlice0 Try.underlying22 sz29 H rfl fun b4 w1 hb4 H L => (WL.v (Ev.move rfl) rfl (WL.appendRd (i := 0) (k := kFl) Try.underlying22 sz29 by29 z29 rfl rfl rfl (RL.st H) H rfl (by omega) (by omega) rfl fun A1 c1 w1 H L => ?_)))
  rw [Nat.zero_add, List.nil_append] at H
  rw [Nat.zero_add]
  refine WL.call (vs := [_, _]) rfl cl11 rfl (fl_New _ _ (ls) _ hll hokl 3 _ (St.rdC kFl H 0 rfl)) ?_
  rintro _ w1 ⟨ca, da, Aa, pa, xa, rfl, hNa, H1⟩
  replace H := (H.tail.app H1).perm (σ' := .blk b1 [.int .i64 now, str m, .slice A x.length c, .int .i64 size, .bool bk] 34 (0, 0) :: chS ca da Aa pa 0 (w64 3) 0 xa) (by classical (rw [List.perm_iff_count]; intro q; simp only [List.count_append, List.count_cons, List.count_nil, chS, bks, List.flatMap_append, List.flatMap_cons]; omega))
  refine ⟨_, rfl, ?_⟩
  refine WL.buildSlice0 Try.underlying22 sz29 H rfl fun b5 w1 hb5 H L => (WL.v (Ev.move rfl) rfl (WL.appendRd (i := 0) (k := kFl) Try.underlying22 sz29 by29 z29 rfl rfl rfl (RM.st H) H rfl (by omega) (by omega) rfl fun A1 c1 w1 H L => ?_))
  rw [Nat.zero_add, List.nil_append] at H
  rw [Nat.zero_add]
  refine WL.call (vs := [_, _]) rfl cl11 rfl (fl_New _ _ (ms) _ hlm hokm 3 _ (St.rdC kFl H 0 rfl)) ?_
  rintro _ w1 ⟨cb, db, Ab, pb, xb, rfl, hNb, H1⟩
  replace H := (H.tail.app H1).perm (σ' := .blk b1 [.int .i64 now, str m, .slice A x.length c, .int .i64 size, .bool bk] 34 (0, 0) :: (chS ca da Aa pa 0 (w64 3) 0 xa ++ chS cb db Ab pb 0 (w64 3) 0 xb)) (by classical (rw [List.perm_iff_count]; intro q; simp only [List.count_append, List.count_cons, List.count_nil, chS, bks, List.flatMap_append, List.flatMap_cons]; omega))
  refine ⟨_, rfl, ?_⟩
  refine WL.v (Ev.assign rfl) rfl (WL.v (Ev.assign rfl) rfl (WL.nil (WQ.tn (WC.seq (WC.reg (WL.buildSlice0 Try.underlying22 sz29 H rfl fun b6 w1 hb6 H L => (WL.v (Ev.move rfl) rfl (WL.appendRd (i := 0) (k := kFl) Try.underlying22 sz29 by29 z29 rfl rfl rfl (RL.st H) H rfl (by omega) (by omega) rfl fun A1 c1 w1 H L => ?_))))))))
  rw [Nat.zero_add, List.nil_append] at H
  rw [Nat.zero_add]
  refine WL.v (Ev.move rfl) rfl (WL.appendRd (i := 0) (k := kFl) Try.underlying22 sz29 by29 z29 rfl rfl rfl (RM.st H) H rfl (by omega) (by omega) rfl fun A1 c1 w1 H L => ?_)
  rw [← List.length_append, ← List.flatMap_append] at H
  rw [← List.length_append]
  refine WL.call (vs := [_, _]) rfl cl11 rfl (fl_New _ _ (ls ++ ms) _ hlc hokc 3 _ (St.rdC kFl H 0 rfl)) ?_
  rintro _ w1 ⟨ck, dk, Ak, pk, xc, rfl, hNk, H1⟩
  replace H := (H.tail.app H1).perm (σ' := .blk b1 [.int .i64 now, str m, .slice A x.length c, .int .i64 size, .bool bk] 34 (0, 0) :: (chS ca da Aa pa 0 (w64 3) 0 xa ++ (chS cb db Ab pb 0 (w64 3) 0 xb ++ chS ck dk Ak pk 0 (w64 3) 0 xc))) (by classical (rw [List.perm_iff_count]; intro q; simp only [List.count_append, List.count_cons, List.count_nil, chS, bks, List.flatMap_append, List.flatMap_cons]; omega))
  refine ⟨_, rfl, ?_⟩
  refine WL.v (Ev.assign rfl) rfl (WL.nil (WQ.tn (WC.seq (WC.seq (WC.reg (WL.v (Ev.move rfl) rfl (WL.v (Ev.eqnil Try.underlying26 rfl rfl) rfl (WL.v (Ev.move rfl) rfl (WL.g (Met.no rfl rfl) (fun hg => Ev.move rfl) rfl (WL.g (Met.no rfl rfl) (fun hg => Ev.eqnil Try.underlying26 ((evG.un rfl).ev hg) rfl) rfl (WL.v (Ev.or rfl rfl rfl) rfl (WL.v (Ev.move rfl) rfl (WL.g (Met.no rfl rfl) (fun hg => Ev.move rfl) rfl (WL.g (Met.no rfl rfl) (fun hg => Ev.eqnil Try.underlying26 ((evG.un rfl).ev hg) rfl) rfl (WL.v (Ev.or rfl rfl rfl) rfl (WL.nil (WQ.tn (WC.cond rfl (fun h5 => ?_) (fun h5 => ?_)))))))))))))))))))
  · exact absurd h5 (by simp)
  try simp only [bsimp] at h5
  refine WC.skip (WQ.tn (WC.seq ?_))
  have HQ2 := H.perm (σ' := chS ca da Aa pa 0 (w64 3) 0 xa ++ (.blk b1 [.int .i64 now, str m, .slice A x.length c, .int .i64 size, .bool bk] 34 (0, 0) :: (chS cb db Ab pb 0 (w64 3) 0 xb ++ chS ck dk Ak pk 0 (w64 3) 0 xc))) (by classical (rw [List.perm_iff_count]; intro q; simp only [List.count_append, List.count_cons, List.count_nil, chS, bks, List.flatMap_append, List.flatMap_cons]; omega))
  have HQ := HQ2.sub (List.sublist_append_left _ _)
  refine WC.reg (WL.v (Ev.move rfl) rfl (WL.v (Ev.fieldAddr fa34_0 rfl) rfl (WL.v (Ev.load fl3 rfl (H.cell 0 rfl rfl)) rfl (WL.v (Ev.fieldAddr fa34_1 rfl) rfl (WL.v (Ev.load fl9 rfl (H.cell 0 rfl rfl)) rfl (WL.v (Ev.fieldAddr fa34_2 rfl) rfl (WL.v (Ev.load fl32 rfl (H.cell 0 rfl rfl)) rfl (WL.v (Ev.fieldAddr fa34_3 rfl) rfl (WL.v (Ev.load fl3 rfl (H.cell 0 rfl rfl)) rfl (WL.call (vs := [_, _, _, _, _]) rfl cl16 rfl (fl_Request ca da Aa pa 0 (w64 3) 0 xa (new_okx hNa hokl) (by rw [new_len hNa]; exact hll) now size hnow m A c (x) _ (by rw [new_len hNa]; exact ⟨hx.1.mono (by omega), hx.2⟩) _ (RX.lt.st H) (St.oldBk HQ2) HQ.local) ?_))))))))))
  rintro _ w1 hp
  obtain ⟨dra, Af, cf, Ap, cp, rfl, H1⟩ := hp.any hin
  replace H := (HQ2.frame H1).perm (σ' := .blk b1 [.int .i64 now, str m, .slice A x.length c, .int .i64 size, .bool bk] 34 (0, 0) :: rowF Af cf (oF (runF now size m xa (w64 3) x)) :: rowF Ap cp (oP (runF now size m xa (w64 3) x)) :: (chS ca da Aa pa now (runF now size m xa (w64 3) x).2.1 dra (runF now size m xa (w64 3) x).1 ++ (chS cb db Ab pb 0 (w64 3) 0 xb ++ chS ck dk Ak pk 0 (w64 3) 0 xc))) (by classical (rw [List.perm_iff_count]; intro q; simp only [List.count_append, List.count_cons, List.count_nil, chS, bks, List.flatMap_append, List.flatMap_cons]; omega))
  refine ⟨_, rfl, ?_⟩
  refine WL.v (Ev.move rfl) rfl (WL.v (Ev.extract rfl rfl) rfl (WL.v (Ev.extract rfl rfl) rfl (WL.alloc z38 rfl H rfl fun b7 w1 hb7 H L => (WL.store (i := 0) (vs := [_, _, _, _, _]) rfl rfl rfl sz38 rfl H rfl rfl fun w1 H L => (WL.v (Ev.assign rfl) rfl (WL.nil (WQ.tn (WC.seq ?_))))))))
  replace H : St w No _ (.blk b7 [.bool (oStop (runF now size m xa (w64 3) x)), .int .i64 (oSt (runF now size m xa (w64 3) x)), .slice Af (oF (runF now size m xa (w64 3) x)).length cf, str (oB (runF now size m xa (w64 3) x)), .slice Ap (oP (runF now size m xa (w64 3) x)).length cp] 38 (0, 0) :: .blk b1 [.int .i64 now, str m, .slice A x.length c, .int .i64 size, .bool bk] 34 (0, 0) :: rowF Af cf (oF (runF now size m xa (w64 3) x)) :: rowF Ap cp (oP (runF now size m xa (w64 3) x)) :: (chS ca da Aa pa now (runF now size m xa (w64 3) x).2.1 dra (runF now size m xa (w64 3) x).1 ++ (chS cb db Ab pb 0 (w64 3) 0 xb ++ chS ck dk Ak pk 0 (w64 3) 0 xc))) := H
  have HQ2 := H.perm (σ' := chS ck dk Ak pk 0 (w64 3) 0 xc ++ (.blk b7 [.bool (oStop (runF now size m xa (w64 3) x)), .int .i64 (oSt (runF now size m xa (w64 3) x)), .slice Af (oF (runF now size m xa (w64 3) x)).length cf, str (oB (runF now size m xa (w64 3) x)), .slice Ap (oP (runF now size m xa (w64 3) x)).length cp] 38 (0, 0) :: .blk b1 [.int .i64 now, str m, .slice A x.length c, .int .i64 size, .bool bk] 34 (0, 0) :: rowF Af cf (oF (runF now size m xa (w64 3) x)) :: rowF Ap cp (oP (runF now size m xa (w64 3) x)) :: (chS ca da Aa pa now (runF now size m xa (w64 3) x).2.1 dra (runF now size m xa (w64 3) x).1 ++ chS cb db Ab pb 0 (w64 3) 0 xb))) (by classical (rw [List.perm_iff_count]; intro q; simp only [List.count_append, List.count_cons, List.count_nil, chS, bks, List.flatMap_append, List.flatMap_cons]; omega))
  have HQ := HQ2.sub (List.sublist_append_left _ _)
  refine WC.reg (WL.v (Ev.move rfl) rfl (WL.v (Ev.fieldAddr fa34_0 rfl) rfl (WL.v (Ev.load fl3 rfl (H.cell 1 rfl rfl)) rfl (WL.v (Ev.fieldAddr fa34_1 rfl) rfl (WL.v (Ev.load fl9 rfl (H.cell 1 rfl rfl)) rfl (WL.v (Ev.fieldAddr fa34_2 rfl) rfl (WL.v (Ev.load fl32 rfl (H.cell 1 rfl rfl)) rfl (WL.v (Ev.fieldAddr fa34_3 rfl) rfl (WL.v (Ev.load fl3 rfl (H.cell 1 rfl rfl)) rfl (WL.call (vs := [_, _, _, _, _]) rfl cl16 rfl (fl_Request ck dk Ak pk 0 (w64 3) 0 xc (new_okx hNk hokc) (by rw [new_len hNk]; exact hlc) now size hnow m A c (x) _ (by rw [new_len hNk, List.length_append]; exact hx) _ (RX.lt.st H) (St.oldBk HQ2) HQ.local) ?_))))))))))
  rintro _ w1 hp
  obtain ⟨drc, Bf, ef, Bp, ep, rfl, H1⟩ := hp.any hin
  replace H := (HQ2.frame H1).perm (σ' := .blk b7 [.bool (oStop (runF now size m xa (w64 3) x)), .int .i64 (oSt (runF now size m xa (w64 3) x)), .slice Af (oF (runF now size m xa (w64 3) x)).length cf, str (oB (runF now size m xa (w64 3) x)), .slice Ap (oP (runF now size m xa (w64 3) x)).length cp] 38 (0, 0) :: .blk b1 [.int .i64 now, str m, .slice A x.length c, .int .i64 size, .bool bk] 34 (0, 0) :: rowF Af cf (oF (runF now size m xa (w64 3) x)) :: rowF Ap cp (oP (runF now size m xa (w64 3) x)) :: rowF Bf ef (oF (runF now size m xc (w64 3) x)) :: rowF Bp ep (oP (runF now size m xc (w64 3) x)) :: (chS ca da Aa pa now (runF now size m xa (w64 3) x).2.1 dra (runF now size m xa (w64 3) x).1 ++ (chS cb db Ab pb 0 (w64 3) 0 xb ++ chS ck dk Ak pk now (runF now size m xc (w64 3) x).2.1 drc (runF now size m xc (w64 3) x).1))) (by classical (rw [List.perm_iff_count]; intro q; simp only [List.count_append, List.count_cons, List.count_nil, chS, bks, List.flatMap_append, List.flatMap_cons]; omega))
  refine ⟨_, rfl, ?_⟩
  refine WL.v (Ev.move rfl) rfl (WL.v (Ev.extract rfl rfl) rfl (WL.v (Ev.extract rfl rfl) rfl (WL.alloc z38 rfl H rfl fun b8 w1 hb8 H L => (WL.store (i := 0) (vs := [_, _, _, _, _]) rfl rfl rfl sz38 rfl H rfl rfl fun w1 H L => (WL.v (Ev.assign rfl) rfl (WL.nil (WQ.tn (WC.seq (WC.seq (WC.reg (WL.v (Ev.move rfl) rfl (WL.v (Ev.nei rfl rfl) rfl (WL.v (Ev.move rfl) rfl (WL.g (Met.no rfl rfl) (fun hg => Ev.move rfl) rfl (WL.g (Met.no rfl rfl) (fun hg => Ev.nei ((evG.un rfl).ev hg) rfl) rfl (WL.v (Ev.or rfl rfl rfl) rfl (WL.nil (WQ.tn (WC.cond rfl (fun h6 => ?_) (fun h6 => ?_))))))))))))))))))))
  · exact absurd h6 (by simp)
  try simp only [bsimp] at h6
  refine WC.skip (WQ.tn (WC.cut (γ := Option Addr × Nat × Option Addr × Nat × Option Addr × Nat × Option Addr × Nat) (fun ⟨Af, cf, Ap, cp, Bf, ef, Bp, ep⟩ => [(12, .pointer (some ⟨b7, 0, none⟩)), (14, .pointer (some ⟨b8, 0, none⟩))]) (fun ⟨Af, cf, Ap, cp, Bf, ef, Bp, ep⟩ w1 => St w No w1 [.blk b8 [.bool (oStop (runF now size m xc (w64 3) x)), .int .i64 (oSt (runF now size m xc (w64 3) x)), .slice Bf (oF (runF now size m xc (w64 3) x)).length ef, str (oB (runF now size m xc (w64 3) x)), .slice Bp (oP (runF now size m xc (w64 3) x)).length ep] 38 (0, 0), .blk b7 [.bool (oStop (runF now size m xc (w64 3) x)), .int .i64 (oSt (runF now size m xc (w64 3) x)), .slice Af (oF (runF now size m xc (w64 3) x)).length cf, str (oB (runF now size m xc (w64 3) x)), .slice Ap (oP (runF now size m xc (w64 3) x)).length cp] 38 (0, 0), .blk b1 [.int .i64 now, str m, .slice A x.length c, .int .i64 size, .bool bk] 34 (0, 0), rowF Af cf (oF (runF now size m xc (w64 3) x)), rowF Ap cp (oP (runF now size m xc (w64 3) x)), rowF Bf ef (oF (runF now size m xc (w64 3) x)), rowF Bp ep (oP (runF now size m xc (w64 3) x))]) ?_ ?_))
  · refine WC.seq (WC.reg (WL.v (Ev.fieldAddr fa38_0 rfl) rfl (WL.v (Ev.load fl4 rfl (H.cell 1 rfl rfl)) rfl (WL.v (Ev.not rfl) rfl (WL.nil (WQ.tn (WC.cond rfl (fun h7 => ?_) (fun h7 => ?_))))))))
    · have hst : oStop (runF now size m xa (w64 3) x) = false := by simpa using h7
      refine WC.seq ?_
      replace H : St w No _ (.blk b8 [.bool (oStop (runF now size m xc (w64 3) x)), .int .i64 (oSt (runF now size m xc (w64 3) x)), .slice Bf (oF (runF now size m xc (w64 3) x)).length ef, str (oB (runF now size m xc (w64 3) x)), .slice Bp (oP (runF now size m xc (w64 3) x)).length ep] 38 (0, 0) :: .blk b7 [.bool (oStop (runF now size m xa (w64 3) x)), .int .i64 (oSt (runF now size m xa (w64 3) x)), .slice Af (oF (runF now size m xa (w64 3) x)).length cf, str (oB (runF now size m xa (w64 3) x)), .slice Ap (oP (runF now size m xa (w64 3) x)).length cp] 38 (0, 0) :: .blk b1 [.int .i64 now, str m, .slice A x.length c, .int .i64 size, .bool bk] 34 (0, 0) :: rowF Af cf (oF (runF now size m xa (w64 3) x)) :: rowF Ap cp (oP (runF now size m xa (w64 3) x)) :: rowF Bf ef (oF (runF now size m xc (w64 3) x)) :: rowF Bp ep (oP (runF now size m xc (w64 3) x)) :: (chS ca da Aa pa now (runF now size m xa (w64 3) x).2.1 dra (runF now size m xa (w64 3) x).1 ++ (chS cb db Ab pb 0 (w64 3) 0 xb ++ chS ck dk Ak pk now (runF now size m xc (w64 3) x).2.1 drc (runF now size m xc (w64 3) x).1))) := H
      have HQ2 := H.perm (σ' := chS cb db Ab pb 0 (w64 3) 0 xb ++ (.blk b8 [.bool (oStop (runF now size m xc (w64 3) x)), .int .i64 (oSt (runF now size m xc (w64 3) x)), .slice Bf (oF (runF now size m xc (w64 3) x)).length ef, str (oB (runF now size m xc (w64 3) x)), .slice Bp (oP (runF now size m xc (w64 3) x)).length ep] 38 (0, 0) :: .blk b7 [.bool (oStop (runF now size m xa (w64 3) x)), .int .i64 (oSt (runF now size m xa (w64 3) x)), .slice Af (oF (runF now size m xa (w64 3) x)).length cf, str (oB (runF now size m xa (w64 3) x)), .slice Ap (oP (runF now size m xa (w64 3) x)).length cp] 38 (0, 0) :: .blk b1 [.int .i64 now, str m, .slice A x.length c, .int .i64 size, .bool bk] 34 (0, 0) :: rowF Af cf (oF (runF now size m xa (w64 3) x)) :: rowF Ap cp (oP (runF now size m xa (w64 3) x)) :: rowF Bf ef (oF (runF now size m xc (w64 3) x)) :: rowF Bp ep (oP (runF now size m xc (w64 3) x)) :: (chS ca da Aa pa now (runF now size m xa (w64 3) x).2.1 dra (runF now size m xa (w64 3) x).1 ++ chS ck dk Ak pk now (runF now size m xc (w64 3) x).2.1 drc (runF now size m xc (w64 3) x).1))) (by classical (rw [List.perm_iff_count]; intro q; simp only [List.count_append, List.count_cons, List.count_nil, chS, bks, List.flatMap_append, List.flatMap_cons]; omega))
      have HQ := HQ2.sub (List.sublist_append_left _ _)
      have hxb : OkfN ms.length (oP (runF now size m xa (w64 3) x)) := by
        rw [oP_none hst]
        exact runF_okn now size m ms.length xa _ _ (new_okx hNa hokl) (by rw [new_len hNa]; exact hx)
      refine WC.reg (WL.v (Ev.move rfl) rfl (WL.v (Ev.fieldAddr fa34_0 rfl) rfl (WL.v (Ev.load fl3 rfl (H.cell 2 rfl rfl)) rfl (WL.v (Ev.fieldAddr fa34_1 rfl) rfl (WL.v (Ev.load fl9 rfl (H.cell 2 rfl rfl)) rfl (WL.v (Ev.fieldAddr fa38_4 rfl) rfl (WL.v (Ev.load fl32 rfl (H.cell 1 rfl rfl)) rfl (WL.v (Ev.fieldAddr fa34_3 rfl) rfl (WL.v (Ev.load fl3 rfl (H.cell 2 rfl rfl)) rfl (WL.call (vs := [_, _, _, _, _]) rfl cl16 rfl (fl_Request cb db Ab pb 0 (w64 3) 0 xb (new_okx hNb hokm) (by rw [new_len hNb]; exact hlm) now size hnow m Ap cp (oP (runF now size m xa (w64 3) x)) _ (by rw [new_len hNb]; exact hxb) _ (St.rdC kFd H 4 rfl) (St.rowBk HQ2 (List.mem_cons_of_mem _ (List.mem_cons_of_mem _ (List.mem_cons_of_mem _ (List.mem_cons_of_mem _ (List.mem_cons_self ..)))))) HQ.local) ?_))))))))))
      rintro _ w1 hp
      obtain ⟨drb, Cf, gf, Cp, gp, rfl, H1⟩ := hp.any hin
      replace H := (HQ2.frame H1).perm (σ' := .blk b8 [.bool (oStop (runF now size m xc (w64 3) x)), .int .i64 (oSt (runF now size m xc (w64 3) x)), .slice Bf (oF (runF now size m xc (w64 3) x)).length ef, str (oB (runF now size m xc (w64 3) x)), .slice Bp (oP (runF now size m xc (w64 3) x)).length ep] 38 (0, 0) :: .blk b7 [.bool (oStop (runF now size m xa (w64 3) x)), .int .i64 (oSt (runF now size m xa (w64 3) x)), .slice Af (oF (runF now size m xa (w64 3) x)).length cf, str (oB (runF now size m xa (w64 3) x)), .slice Ap (oP (runF now size m xa (w64 3) x)).length cp] 38 (0, 0) :: .blk b1 [.int .i64 now, str m, .slice A x.length c, .int .i64 size, .bool bk] 34 (0, 0) :: rowF Cf gf (oF (runF now size m xb (w64 3) (oP (runF now size m xa (w64 3) x)))) :: rowF Cp gp (oP (runF now size m xb (w64 3) (oP (runF now size m xa (w64 3) x)))) :: rowF Bf ef (oF (runF now size m xc (w64 3) x)) :: rowF Bp ep (oP (runF now size m xc (w64 3) x)) :: (rowF Af cf (oF (runF now size m xa (w64 3) x)) :: rowF Ap cp (oP (runF now size m xa (w64 3) x)) :: (chS ca da Aa pa now (runF now size m xa (w64 3) x).2.1 dra (runF now size m xa (w64 3) x).1 ++ (chS cb db Ab pb now (runF now size m xb (w64 3) (oP (runF now size m xa (w64 3) x))).2.1 drb (runF now size m xb (w64 3) (oP (runF now size m xa (w64 3) x))).1 ++ chS ck dk Ak pk now (runF now size m xc (w64 3) x).2.1 drc (runF now size m xc (w64 3) x).1)))) (by classical (rw [List.perm_iff_count]; intro q; simp only [List.count_append, List.count_cons, List.count_nil, chS, bks, List.flatMap_append, List.flatMap_cons]; omega))
      refine ⟨_, rfl, ?_⟩
      refine WL.v (Ev.move rfl) rfl (WL.v (Ev.extract rfl rfl) rfl (WL.v (Ev.extract rfl rfl) rfl (WL.store (i := 1) (vs := [_, _, _, _, _]) rfl rfl rfl sz38 rfl H rfl rfl fun w1 H L => (WL.v (Ev.assign rfl) rfl (WL.nil (WQ.tn (WC.seq (WC.reg (WL.v (Ev.move rfl) rfl (WL.v (Ev.nei rfl rfl) rfl (WL.nil (WQ.tn (WC.cond rfl (fun h8 => ?_) (fun h8 => ?_))))))))))))))
      · exact absurd h8 (by simp)
      try simp only [bsimp] at h8
      refine WC.skip ?_
      obtain ⟨q1, q2, q3, q4, q5⟩ := o_eq ((halves hNa hNb hNk hs7 now size m (w64 3) x).2 hst)
      replace H := H.sub (σ' := [.blk b8 [.bool (oStop (runF now size m xc (w64 3) x)), .int .i64 (oSt (runF now size m xc (w64 3) x)), .slice Bf (oF (runF now size m xc (w64 3) x)).length ef, str (oB (runF now size m xc (w64 3) x)), .slice Bp (oP (runF now size m xc (w64 3) x)).length ep] 38 (0, 0), .blk b7 [.bool (oStop (runF now size m xb (w64 3) (oP (runF now size m xa (w64 3) x)))), .int .i64 (oSt (runF now size m xb (w64 3) (oP (runF now size m xa (w64 3) x)))), .slice Cf (oF (runF now size m xb (w64 3) (oP (runF now size m xa (w64 3) x)))).length gf, str (oB (runF now size m xb (w64 3) (oP (runF now size m xa (w64 3) x)))), .slice Cp (oP (runF now size m xb (w64 3) (oP (runF now size m xa (w64 3) x)))).length gp] 38 (0, 0), .blk b1 [.int .i64 now, str m, .slice A x.length c, .int .i64 size, .bool bk] 34 (0, 0), rowF Cf gf (oF (runF now size m xb (w64 3) (oP (runF now size m xa (w64 3) x)))), rowF Cp gp (oP (runF now size m xb (w64 3) (oP (runF now size m xa (w64 3) x)))), rowF Bf ef (oF (runF now size m xc (w64 3) x)), rowF Bp ep (oP (runF now size m xc (w64 3) x))]) (List.Sublist.cons_cons _ (List.Sublist.cons_cons _ (List.Sublist.cons_cons _ (List.Sublist.cons_cons _ (List.Sublist.cons_cons _ (List.Sublist.cons_cons _ (List.Sublist.cons_cons _ (List.nil_sublist _))))))))
      rw [← q1, ← q2, ← q3, ← q4, ← q5] at H
      exact WQ.meet ((Cf, gf, Cp, gp, Bf, ef, Bp, ep)) (H) ⟨rfl, rfl, trivial⟩
    have hst : oStop (runF now size m xa (w64 3) x) = true := by simpa using h7
    refine WC.skip ?_
    obtain ⟨q1, q2, q3, q4, q5⟩ := o_eq ((halves hNa hNb hNk hs7 now size m (w64 3) x).1 hst)
    replace H := H.sub (σ' := [.blk b8 [.bool (oStop (runF now size m xc (w64 3) x)), .int .i64 (oSt (runF now size m xc (w64 3) x)), .slice Bf (oF (runF now size m xc (w64 3) x)).length ef, str (oB (runF now size m xc (w64 3) x)), .slice Bp (oP (runF now size m xc (w64 3) x)).length ep] 38 (0, 0), .blk b7 [.bool (oStop (runF now size m xa (w64 3) x)), .int .i64 (oSt (runF now size m xa (w64 3) x)), .slice Af (oF (runF now size m xa (w64 3) x)).length cf, str (oB (runF now size m xa (w64 3) x)), .slice Ap (oP (runF now size m xa (w64 3) x)).length cp] 38 (0, 0), .blk b1 [.int .i64 now, str m, .slice A x.length c, .int .i64 size, .bool bk] 34 (0, 0), rowF Af cf (oF (runF now size m xa (w64 3) x)), rowF Ap cp (oP (runF now size m xa (w64 3) x)), rowF Bf ef (oF (runF now size m xc (w64 3) x)), rowF Bp ep (oP (runF now size m xc (w64 3) x))]) (List.Sublist.cons_cons _ (List.Sublist.cons_cons _ (List.Sublist.cons_cons _ (List.Sublist.cons_cons _ (List.Sublist.cons_cons _ (List.Sublist.cons_cons _ (List.Sublist.cons_cons _ (List.nil_sublist _))))))))
    rw [← q1, ← q2, ← q3, ← q4, ← q5] at H
    exact WQ.meet ((Af, cf, Ap, cp, Bf, ef, Bp, ep)) (H) ⟨rfl, rfl, trivial⟩
  · rintro ⟨Af, cf, Ap, cp, Bf, ef, Bp, ep⟩ w1 H
    refine WC.seq (WC.seq (WC.reg (WL.v (Ev.fieldAddr fa38_0 rfl) rfl (WL.v (Ev.load fl4 rfl (H.cell 1 rfl rfl)) rfl (WL.v (Ev.fieldAddr fa38_0 rfl) rfl (WL.v (Ev.load fl4 rfl (H.cell 0 rfl rfl)) rfl (WL.v (Ev.neb Try.underlying4 rfl rfl) rfl (WL.v (Ev.move rfl) rfl (WL.g (Met.no rfl rfl) (fun hg => Ev.fieldAddr fa38_1 rfl) rfl (WL.g (Met.no rfl rfl) (fun hg => Ev.load fl3 ((evG.un rfl).ev hg) (H.cell 1 rfl rfl)) rfl (WL.g (Met.no rfl rfl) (fun hg => Ev.fieldAddr fa38_1 rfl) rfl (WL.g (Met.no rfl rfl) (fun hg => Ev.load fl3 ((evG.un rfl).ev hg) (H.cell 0 rfl rfl)) rfl (WL.g (Met.no rfl rfl) (fun hg => Ev.nei ((evG.un rfl).ev hg) ((evG.un rfl).ev hg)) rfl (WL.v (Ev.or rfl rfl rfl) rfl (WL.v (Ev.move rfl) rfl (WL.g (Met.no rfl rfl) (fun hg => Ev.fieldAddr fa38_3 rfl) rfl (WL.g (Met.no rfl rfl) (fun hg => Ev.load fl9 ((evG.un rfl).ev hg) (H.cell 1 rfl rfl)) rfl (WL.g (Met.no rfl rfl) (fun hg => Ev.fieldAddr fa38_3 rfl) rfl (WL.g (Met.no rfl rfl) (fun hg => Ev.load fl9 ((evG.un rfl).ev hg) (H.cell 0 rfl rfl)) rfl (WL.g (Met.no rfl rfl) (fun hg => Ev.nes ((evG.un rfl).ev hg) ((evG.un rfl).ev hg)) rfl (WL.v (Ev.or rfl rfl rfl) rfl (WL.v (Ev.move rfl) rfl (WL.g (Met.no rfl rfl) (fun hg => Ev.fieldAddr fa38_2 rfl) rfl (WL.g (Met.no rfl rfl) (fun hg => Ev.load fl32 ((evG.un rfl).ev hg) (H.cell 1 rfl rfl)) rfl (WL.g (Met.no rfl rfl) (fun hg => Ev.lensl Try.underlying32 ((evG.un rfl).ev hg)) rfl (WL.g (Met.no rfl rfl) (fun hg => Ev.fieldAddr fa38_2 rfl) rfl (WL.g (Met.no rfl rfl) (fun hg => Ev.load fl32 ((evG.un rfl).ev hg) (H.cell 0 rfl rfl)) rfl (WL.g (Met.no rfl rfl) (fun hg => Ev.lensl Try.underlying32 ((evG.un rfl).ev hg)) rfl (WL.g (Met.no rfl rfl) (fun hg => Ev.neN ((evG.un rfl).ev hg) ((evG.un rfl).ev hg)) rfl (WL.v (Ev.or rfl rfl rfl) rfl (WL.v (Ev.move rfl) rfl (WL.g (Met.no rfl rfl) (fun hg => Ev.fieldAddr fa38_4 rfl) rfl (WL.g (Met.no rfl rfl) (fun hg => Ev.load fl32 ((evG.un rfl).ev hg) (H.cell 1 rfl rfl)) rfl (WL.g (Met.no rfl rfl) (fun hg => Ev.lensl Try.underlying32 ((evG.un rfl).ev hg)) rfl (WL.g (Met.no rfl rfl) (fun hg => Ev.fieldAddr fa38_4 rfl) rfl (WL.g (Met.no rfl rfl) (fun hg => Ev.load fl32 ((evG.un rfl).ev hg) (H.cell 0 rfl rfl)) rfl (WL.g (Met.no rfl rfl) (fun hg => Ev.lensl Try.underlying32 ((evG.un rfl).ev hg)) rfl (WL.g (Met.no rfl rfl) (fun hg => Ev.neN ((evG.un rfl).ev hg) ((evG.un rfl).ev hg)) rfl (WL.v (Ev.or rfl rfl rfl) rfl (WL.nil ?_))))))))))))))))))))))))))))))))))))))))
    refine WQ.tn (WC.cond rfl (fun h9 => ?_) (fun h9 => ?_))
    · exact absurd h9 (by simp)
    try simp only [bsimp] at h9
    refine WC.skip (WQ.tn (WC.seq (WC.seq (WC.reg (WL.v (Ev.fieldAddr fa38_2 rfl) rfl (WL.v (Ev.load fl32 rfl (H.cell 1 rfl rfl)) rfl (WL.v (Ev.lensl Try.underlying32 rfl) rfl (WL.v (Ev.move rfl) rfl (WL.nil (WQ.tn (WC.block (WC.loop (γ := Nat) (fun j => [(12, .pointer (some ⟨b7, 0, none⟩)), (14, .pointer (some ⟨b8, 0, none⟩)), (166, .slice Af (oF (runF now size m xc (w64 3) x)).length cf), (167, .int .i64 ((oF (runF now size m xc (w64 3) x)).length : Nat)), (168, .int .i64 (j : Nat))]) (fun j w1 => j ≤ (oF (runF now size m xc (w64 3) x)).length ∧ St w No w1 [.blk b8 [.bool (oStop (runF now size m xc (w64 3) x)), .int .i64 (oSt (runF now size m xc (w64 3) x)), .slice Bf (oF (runF now size m xc (w64 3) x)).length ef, str (oB (runF now size m xc (w64 3) x)), .slice Bp (oP (runF now size m xc (w64 3) x)).length ep] 38 (0, 0), .blk b7 [.bool (oStop (runF now size m xc (w64 3) x)), .int .i64 (oSt (runF now size m xc (w64 3) x)), .slice Af (oF (runF now size m xc (w64 3) x)).length cf, str (oB (runF now size m xc (w64 3) x)), .slice Ap (oP (runF now size m xc (w64 3) x)).length cp] 38 (0, 0), .blk b1 [.int .i64 now, str m, .slice A x.length c, .int .i64 size, .bool bk] 34 (0, 0), rowF Af cf (oF (runF now size m xc (w64 3) x)), rowF Ap cp (oP (runF now size m xc (w64 3) x)), rowF Bf ef (oF (runF now size m xc (w64 3) x)), rowF Bp ep (oP (runF now size m xc (w64 3) x))]) (fun j => (oF (runF now size m xc (w64 3) x)).length - j) 0 (⟨Nat.zero_le _, H⟩) ⟨rfl, rfl, rfl, rfl, rfl, trivial⟩ ?_))))))))))))
    rintro j w1 ⟨hj, H⟩
    refine WC.seq (WC.reg (WL.v (Ev.lssN rfl rfl) rfl (WL.nil (WQ.tn (WC.seq (WC.cond rfl (fun h11 => ?_) (fun h11 => ?_)))))))
    · have hml := St.rowLen H 3 rfl
      simp only [maxLen] at hml
      simp only [bsimp] at h11
      obtain ⟨bq, oq, rfl, _, hc⟩ := (St.rdC kFd H 3 rfl).at h11
      have hj1 := getx h11
      refine WC.skip (WQ.tn (WC.seq (WC.block (WC.seq (WC.reg (WL.v (Ev.move rfl) rfl (WL.v (Ev.idx Try.underlying32 sz54 rfl rfl (by omega)) rfl (WL.v (Ev.loadA (vs := [_, _]) ag54 sz54 rfl ((rdCells hc hj1 0 rfl))) rfl (WL.alloc z54 rfl H rfl fun b9 w1 hb9 H L => (WL.v (Ev.assign rfl) rfl (WL.store (i := 0) (vs := [_, _]) rfl rfl rfl sz54 rfl H rfl rfl fun w1 H L => (WL.nil (WQ.tn (WC.seq (WC.drawT mixed (No) 7 [(false, 0), (false, 1), (false, 2), (false, 3), (false, 4), (false, 5), (false, 6)] (by kernel_rfl) ?_)))))))))))))))
      intro w1 L
      replace H := H.ext L
      obtain ⟨bg, og, rfl, _, hcB⟩ := (St.rdC kFd H 6 rfl).at h11
      refine WX.v rfl (fun w2 hC => Ev.loadA (vs := [_, _]) ag54 sz54 rfl (Gr.cells hC (fun h => h) (H.cells 0 rfl rfl))) rfl (WX.v rfl (fun w2 hC => Ev.fieldAddr fa38_2 rfl) rfl (WX.v rfl (fun w2 hC => Ev.load fl32 rfl (Gr.cell hC (fun h => h) (H.cell 1 rfl rfl))) rfl (WX.v rfl (fun w2 hC => Ev.move rfl) rfl (WX.v rfl (fun w2 hC => Ev.idx Try.underlying32 sz54 rfl rfl (by omega)) rfl (WX.v rfl (fun w2 hC => Ev.loadA (vs := [_, _]) ag54 sz54 rfl (Gr.cells hC (fun h => h) ((rdCells hcB hj1 0 rfl)))) rfl (WX.v rfl (fun w2 hC => Ev.neA (us := [_, _]) (vs := [_, _]) cmp54 rfl rfl (.str (.str .nil))) rfl (WX.nil ?_)))))))
      refine WQ.tn (WC.cond rfl (fun h12 => ?_) (fun h12 => ?_))
      · exact absurd h12 (by simp)
      try simp only [bsimp] at h12
      refine WC.skip (WQ.blk (WQ.tn (WC.reg (WL.v (Ev.addN (b := 1) rfl rfl (by omega)) rfl (WL.v (Ev.move rfl) rfl (WL.nil ?_))))))
      exact WQ.again (j + 1) (⟨by omega, H.tail⟩) ⟨rfl, rfl, rfl, rfl, rfl, trivial⟩ (by first | omega | (dsimp only; omega))
    try simp only [bsimp] at h11
    refine WC.exit (WQ.tn_exit (WQ.loop_exit (WQ.blk_here rfl (WQ.tn (WC.seq (WC.seq (WC.reg (WL.v (Ev.fieldAddr fa38_4 rfl) rfl (WL.v (Ev.load fl32 rfl (H.cell 1 rfl rfl)) rfl (WL.v (Ev.lensl Try.underlying32 rfl) rfl (WL.v (Ev.move rfl) rfl (WL.nil (WQ.tn (WC.block (WC.loop (γ := Nat) (fun j => [(12, .pointer (some ⟨b7, 0, none⟩)), (14, .pointer (some ⟨b8, 0, none⟩)), (182, .slice Ap (oP (runF now size m xc (w64 3) x)).length cp), (183, .int .i64 ((oP (runF now size m xc (w64 3) x)).length : Nat)), (184, .int .i64 (j : Nat))]) (fun j w1 => j ≤ (oP (runF now size m xc (w64 3) x)).length ∧ St w No w1 [.blk b8 [.bool (oStop (runF now size m xc (w64 3) x)), .int .i64 (oSt (runF now size m xc (w64 3) x)), .slice Bf (oF (runF now size m xc (w64 3) x)).length ef, str (oB (runF now size m xc (w64 3) x)), .slice Bp (oP (runF now size m xc (w64 3) x)).length ep] 38 (0, 0), .blk b7 [.bool (oStop (runF now size m xc (w64 3) x)), .int .i64 (oSt (runF now size m xc (w64 3) x)), .slice Af (oF (runF now size m xc (w64 3) x)).length cf, str (oB (runF now size m xc (w64 3) x)), .slice Ap (oP (runF now size m xc (w64 3) x)).length cp] 38 (0, 0), .blk b1 [.int .i64 now, str m, .slice A x.length c, .int .i64 size, .bool bk] 34 (0, 0), rowF Af cf (oF (runF now size m xc (w64 3) x)), rowF Ap cp (oP (runF now size m xc (w64 3) x)), rowF Bf ef (oF (runF now size m xc (w64 3) x)), rowF Bp ep (oP (runF now size m xc (w64 3) x))]) (fun j => (oP (runF now size m xc (w64 3) x)).length - j) 0 (⟨Nat.zero_le _, H⟩) ⟨rfl, rfl, rfl, rfl, rfl, trivial⟩ ?_)))))))))))))))
    rintro j w1 ⟨hj, H⟩
    refine WC.seq (WC.reg (WL.v (Ev.lssN rfl rfl) rfl (WL.nil (WQ.tn (WC.seq (WC.cond rfl (fun h14 => ?_) (fun h14 => ?_)))))))
    · have hml := St.rowLen H 4 rfl
      simp only [maxLen] at hml
      simp only [bsimp] at h14
      obtain ⟨bq, oq, rfl, _, hc⟩ := (St.rdC kFd H 4 rfl).at h14
      have hj1 := getx h14
      refine WC.skip (WQ.tn (WC.seq (WC.block (WC.seq (WC.reg (WL.v (Ev.move rfl) rfl (WL.v (Ev.idx Try.underlying32 sz54 rfl rfl (by omega)) rfl (WL.v (Ev.loadA (vs := [_, _]) ag54 sz54 rfl ((rdCells hc hj1 0 rfl))) rfl (WL.alloc z54 rfl H rfl fun b10 w1 hb10 H L => (WL.v (Ev.assign rfl) rfl (WL.store (i := 0) (vs := [_, _]) rfl rfl rfl sz54 rfl H rfl rfl fun w1 H L => (WL.nil (WQ.tn (WC.seq (WC.drawT mixed (No) 7 [(false, 0), (false, 1), (false, 2), (false, 3), (false, 4), (false, 5), (false, 6)] (by kernel_rfl) ?_)))))))))))))))
      intro w1 L
      replace H := H.ext L
      obtain ⟨bg, og, rfl, _, hcB⟩ := (St.rdC kFd H 7 rfl).at h14
      refine WX.v rfl (fun w2 hC => Ev.loadA (vs := [_, _]) ag54 sz54 rfl (Gr.cells hC (fun h => h) (H.cells 0 rfl rfl))) rfl (WX.v rfl (fun w2 hC => Ev.fieldAddr fa38_4 rfl) rfl (WX.v rfl (fun w2 hC => Ev.load fl32 rfl (Gr.cell hC (fun h => h) (H.cell 1 rfl rfl))) rfl (WX.v rfl (fun w2 hC => Ev.move rfl) rfl (WX.v rfl (fun w2 hC => Ev.idx Try.underlying32 sz54 rfl rfl (by omega)) rfl (WX.v rfl (fun w2 hC => Ev.loadA (vs := [_, _]) ag54 sz54 rfl (Gr.cells hC (fun h => h) ((rdCells hcB hj1 0 rfl)))) rfl (WX.v rfl (fun w2 hC => Ev.neA (us := [_, _]) (vs := [_, _]) cmp54 rfl rfl (.str (.str .nil))) rfl (WX.nil ?_)))))))
      refine WQ.tn (WC.cond rfl (fun h15 => ?_) (fun h15 => ?_))
      · exact absurd h15 (by simp)
      try simp only [bsimp] at h15
      refine WC.skip (WQ.blk (WQ.tn (WC.reg (WL.v (Ev.addN (b := 1) rfl rfl (by omega)) rfl (WL.v (Ev.move rfl) rfl (WL.nil ?_))))))
      exact WQ.again (j + 1) (⟨by omega, H.tail⟩) ⟨rfl, rfl, rfl, rfl, rfl, trivial⟩ (by first | omega | (dsimp only; omega))
    try simp only [bsimp] at h14
    refine WC.exit (WQ.tn_exit (WQ.loop_exit (WQ.blk_here rfl (WQ.tn (WC.seq (WC.reg (WL.v (Ev.assign rfl) rfl (WL.nil (WQ.tn (WC.ret (WQ.ret1 rfl rfl ?_)))))))))))
    exact ⟨rfl, H.done⟩
end Go.Proofs.Ytcmolgiccccnoaa
