/- The walks of functions: what each comes to. -/
import Derived.Test.YtcmolgiccccnoaaWp
import Derived.Test.YtcmolgiccccnoaaTree
import Derived.Test.YtcmolgiccccnoaaProg
set_option linter.unusedVariables false
set_option linter.unusedSimpArgs false
namespace Go.Proofs.Ytcmolgiccccnoaa
open Go.RowKit Go.BK
theorem cl19 : callB Try.prog 19 = true := by kernel_rfl
theorem o_shape (r : List Fx × Int × Stp × List Fld) : (oStop r = true → oP r = []) ∧ (oStop r = false → oSt r = 0 ∧ oB r = [] ∧ oF r = []) := by
  unfold oStop oP oSt oB oF
  cases r.2.2.1 <;> simp
theorem stop_oSt {r : List Fx × Int × Stp × List Fld} (h : oStop r = true) : ∃ t, r.2.2.1 = some t ∧ oSt r = t.1 := by
  unfold oStop at h
  unfold oSt
  cases hr : r.2.2.1 with
  | none => rw [hr] at h; cases h
  | some t => exact ⟨t, rfl, rfl⟩
theorem oP_none' {r : List Fx × Int × Stp × List Fld} (h : oStop r = false) : oP r = r.2.2.2 ∧ r.2.2.1 = none := by
  unfold oStop at h
  unfold oP
  cases hr : r.2.2.1 with
  | none => exact ⟨rfl, rfl⟩
  | some t => rw [hr] at h; cases h
theorem guard_at {ls : List Flt} {xs : List Fx} (hN : NewOk ls ls.length xs) {now size : Int} {m : Bs} {s : Int} {l : List Fld} (h : oStop (runF now size m xs s l) = false) {j : Nat} (hj : j < ls.length) :
    ¬ (ls[j].kind = 6 ∧ ls[j].n < size) ∧ ¬ (ls[j].kind = 7 ∧ ls[j].n = 100) ∧ ((ls[j].kind = 2 ∨ ls[j].kind = 4) → (ls.drop (j + 1)).any (fun f => decide (f.kind = 1)) = false → (getF (oP (runF now size m xs s l)) ls[j].name).2 = 0) := by
  obtain ⟨e1, e2⟩ := oP_none' h
  have hm := hN.1
  rw [List.take_length] at hm
  have hl := new_len hN
  have hjx : xs[j]? = some (xs[j]'(by omega)) := List.getElem?_eq_getElem _
  have hf : (xs[j]'(by omega)).f = ls[j] := by
    have h1 : (xs.map (·.f))[j]? = ls[j]? := by rw [hm]
    rw [List.getElem?_map, hjx, List.getElem?_eq_getElem hj] at h1
    simpa using h1
  have hg := run_guard now size m xs s l e2 j _ hjx
  rw [hf] at hg
  refine ⟨hg.1, hg.2.1, fun hk ha => ?_⟩
  rw [e1]
  refine hg.2.2 hk fun y hy h1 => ?_
  have : y.f ∈ ls.drop (j + 1) := by
    rw [← hm, ← List.map_drop]
    exact List.mem_map.2 ⟨y, hy, rfl⟩
  have := List.any_eq_false.1 ha _ this
  simp [h1] at this
theorem any_take_succ {xs : List Flt} {q : Nat} (h : q < xs.length) : (xs.take (q + 1)).any (fun f => decide (f.kind = 1)) = ((xs.take q).any (fun f => decide (f.kind = 1)) || decide (xs[q].kind = 1)) := by
  rw [take_succ_get h, List.any_append]; simp
theorem rightF_new {ls : List Flt} {xs : List Fx} (hN : NewOk ls ls.length xs) (h : ls.all rightF = true) : ∀ x ∈ xs, rightF x.f = true := fun x hx => by
  have hm := hN.1
  rw [List.take_length] at hm
  exact List.all_eq_true.1 h _ (by rw [← hm]; exact List.mem_map.2 ⟨x, hx, rfl⟩)
set_option maxRecDepth 20000 in
set_option maxHeartbeats 4000000 in
theorem lw_Guards (Al : Option Addr) (e1 : Nat) (ls : List Flt) (seed : Int) (now : Int) (hnow : I64 now) (m : Bs) (A : Option Addr) (c : Nat) (x : List Fld) (size : Int) (bk : Bool) (hll : Sml ls.length) (hsl : ∀ f ∈ ls, Sml f.name.length ∧ Sml f.value.length) (hx : OkfN ls.length x) (w : World) (RL : Rd kFl (fun _ => True) w Al e1 ls) (RX : Rd kFd (fun _ => True) w A c x) :
    Calls Try.prog 4 #[.slice Al ls.length e1, .int .i64 seed, .agg #[.int .i64 now, str m, .slice A x.length c, .int .i64 size, .bool bk]] w fun e w' => e = .returned (.bool true) ∧ St w No w' [] := by
  have hll' := hll.le
  have hxl := hx.okf.len
  refine calls_of Try.func4 rfl Try.ntmps4 (by rfl) (K0 := [(0, _), (1, _), (2, _)]) ⟨rfl, rfl, rfl, trivial⟩ ?_
  have H := St.init w
  refine WC.seq (WC.reg (WL.box (t := 34) (cs := [_, _, _, _, _]) rfl rfl H rfl fun b1 w1 hb1 H L => (WL.v (Ev.assign rfl) rfl (WL.nil (WQ.tn (WC.seq (WC.seq (WC.reg (WL.callS (vs := []) rfl cl9 rfl H (lw_anchor _) fun w1 H L => (WL.v (Ev.not rfl) rfl (WL.nil (WQ.tn (WC.cond rfl (fun h0 => ?_) (fun h0 => ?_))))))))))))))
  · exact absurd h0 (by simp)
  try simp only [bsimp] at h0
  refine WC.skip (WQ.tn (WC.seq (WC.seq (WC.reg (WL.v (Ev.move rfl) rfl (WL.callS (vs := [_]) rfl cl10 rfl H (lw_right _ _ _ _ hll hsl _ (RL.st H)) fun w1 H L => (WL.v (Ev.not rfl) rfl (WL.v (Ev.move rfl) rfl (WL.g (Met.no rfl rfl) (fun hg => Ev.fieldAddr fa34_0 rfl) rfl (WL.g (Met.no rfl rfl) (fun hg => Ev.load fl3 ((evG.un rfl).ev hg) (H.cell 0 rfl rfl)) rfl (WL.g (Met.no rfl rfl) (fun hg => Ev.lss ((evG.un rfl).ev hg) rfl) rfl (WL.v (Ev.or rfl rfl rfl) rfl (WL.v (Ev.move rfl) rfl (WL.g (Met.no rfl rfl) (fun hg => Ev.fieldAddr fa34_0 rfl) rfl (WL.g (Met.no rfl rfl) (fun hg => Ev.load fl3 ((evG.un rfl).ev hg) (H.cell 0 rfl rfl)) rfl (WL.g (Met.no rfl rfl) (fun hg => Ev.gtr ((evG.un rfl).ev hg) rfl) rfl (WL.v (Ev.or rfl rfl rfl) rfl (WL.nil ?_))))))))))))))))))
  refine WQ.tn (WC.cond rfl (fun h1 => ?_) (fun h1 => ?_))
  · try simp only [bsimp] at h1
    refine WC.seq (WC.reg (WL.v (Ev.assign rfl) rfl (WL.nil (WQ.tn (WC.ret (WQ.tn_ret (WQ.ret1 rfl rfl ?_)))))))
    exact ⟨rfl, H.done⟩
  simp only [bsimp] at h1
  obtain ⟨⟨hr1, hn1⟩, hn2⟩ := h1
  have hin : inS 0 now := ⟨by omega, by omega⟩
  have hokl : ∀ f ∈ ls, okFl f := fun f hf => okFl_right (List.all_eq_true.1 hr1 f hf) (hsl f hf).1 (hsl f hf).2
  refine WC.skip (WQ.tn (WC.seq (WC.reg (WL.buildSlice0 Try.underlying22 sz29 H rfl fun b2 w1 hb2 H L => (WL.v (Ev.move rfl) rfl (WL.appendRd (i := 0) (k := kFl) Try.underlying22 sz29 by29 z29 rfl rfl rfl (RL.st H) H rfl (by omega) (by omega) rfl fun A1 c1 w1 H L => ?_))))))
  rw [Nat.zero_add, List.nil_append] at H
  rw [Nat.zero_add]
  refine WL.v (Ev.move rfl) rfl (WL.call (vs := [_, _]) rfl cl11 rfl (fl_New _ _ ls _ hll hokl seed _ (St.rdC kFl H 0 rfl)) ?_)
  rintro _ w1 ⟨ca, da, Aa, pa, xa, rfl, hN, H1⟩
  replace H := (H.tail.app H1).perm (σ' := .blk b1 [.int .i64 now, str m, .slice A x.length c, .int .i64 size, .bool bk] 34 (0, 0) :: chS ca da Aa pa 0 (w64 seed) 0 xa) (by classical (rw [List.perm_iff_count]; intro q; simp only [List.count_append, List.count_cons, List.count_nil, chS, bks, List.flatMap_append, List.flatMap_cons]; omega))
  refine ⟨_, rfl, ?_⟩
  refine WL.v (Ev.assign rfl) rfl (WL.nil (WQ.tn (WC.seq (WC.seq (WC.reg (WL.v (Ev.move rfl) rfl (WL.v (Ev.eqnil Try.underlying26 rfl rfl) rfl (WL.nil (WQ.tn (WC.cond rfl (fun h2 => ?_) (fun h2 => ?_)))))))))))
  · exact absurd h2 (by simp)
  try simp only [bsimp] at h2
  refine WC.skip (WQ.tn (WC.cut (γ := Nat × Option Addr × Nat × Option Addr × Nat) (fun ⟨b4, Af, cf, Ap, cp⟩ => [(0, .slice Al ls.length e1), (5, .pointer (some ⟨b1, 0, none⟩)), (8, .pointer (some ⟨b4, 0, none⟩)), (9, .int .i64 0)]) (fun ⟨b4, Af, cf, Ap, cp⟩ w1 => St w No w1 [.blk b4 [.bool (oStop (runF now size m xa (w64 seed) x)), .int .i64 (oSt (runF now size m xa (w64 seed) x)), .slice Af (oF (runF now size m xa (w64 seed) x)).length cf, str (oB (runF now size m xa (w64 seed) x)), .slice Ap (oP (runF now size m xa (w64 seed) x)).length cp] 38 (0, 0), .blk b1 [.int .i64 now, str m, .slice A x.length c, .int .i64 size, .bool bk] 34 (0, 0), rowF Af cf (oF (runF now size m xa (w64 seed) x)), rowF Ap cp (oP (runF now size m xa (w64 seed) x))]) ?_ ?_))
  · refine WC.drawTree mixed ((Bk (chS ca da Aa pa 0 (w64 seed) 0 xa))) 18 (.sil 0 (.sil 1 (.sil 2 (.sil 3 (.sil 4 (.sil 6 (.sil 7 (.sil 9 (.sil 10 (.two 5 (.two 8 (.two 11 (.lin [(false, 12), (false, 13), (false, 14), (true, 15), (true, 16), (false, 17)]) 15 (.lin [(true, 11), (false, 12), (false, 13), (false, 14), (true, 16), (false, 17)])) 15 (.lin [(true, 8), (true, 11), (false, 12), (false, 13), (false, 14), (true, 16), (false, 17)])) 15 (.lin [(true, 5), (true, 8), (true, 11), (false, 12), (false, 13), (false, 14), (true, 16), (false, 17)]))))))))))) (by kernel_rfl) ?_
    intro w1 L
    replace H := H.ext L
    have hnb := St.notBk H
    have hK := Gr.refl ((Bk (chS ca da Aa pa 0 (w64 seed) 0 xa))) w1
    have HD := H
    refine WT.v rfl (fun w2 hC => Ev.move rfl) rfl (WT.v rfl (fun w2 hC => Ev.fieldAddr fa34_0 rfl) rfl (WT.v rfl (fun w2 hC => Ev.load fl3 rfl (Gr.cell hC hnb (HD.cell 0 rfl rfl))) rfl (WT.v rfl (fun w2 hC => Ev.fieldAddr fa34_1 rfl) rfl (WT.v rfl (fun w2 hC => Ev.load fl9 rfl (Gr.cell hC hnb (HD.cell 0 rfl rfl))) rfl (WT.v rfl (fun w2 hC => Ev.fieldAddr fa34_2 rfl) rfl (WT.v rfl (fun w2 hC => Ev.load fl32 rfl (Gr.cell hC hnb (HD.cell 0 rfl rfl))) rfl (WT.v rfl (fun w2 hC => Ev.fieldAddr fa34_3 rfl) rfl (WT.v rfl (fun w2 hC => Ev.load fl3 rfl (Gr.cell hC hnb (HD.cell 0 rfl rfl))) rfl ?_))))))))
    refine WT.two rfl rfl rfl rfl ?_ ?_
    · refine WL.buildSlice0 Try.underlying32 sz54 H rfl fun b3 w1 hb3 H L => ?_
      have hsz3 := hK.size
      replace hK := hK.ext L
      refine WL.nil (WQ.backT hK (WT.two rfl rfl rfl rfl ?_ ?_))
      · refine WL.appendRd (i := 0) (k := kFd) Try.underlying32 sz54 by54 z54 rfl rfl rfl (RX.st H) H rfl (by omega) (by omega) rfl fun A1 c1 w1 H L => ?_
        rw [Nat.zero_add, List.nil_append] at H
        rw [Nat.zero_add]
        replace hK := hK.trans' L (fun i hi hb => absurd (show i = b3 by simpa [Chunk.blocks] using hb) (by omega))
        refine WL.nil (WQ.backT hK (WT.two rfl rfl rfl rfl ?_ ?_))
        · replace H : St w No _ (.row 54 2 A1 x.length c1 (x.flatMap kFd.enc) :: .blk b1 [.int .i64 now, str m, .slice A x.length c, .int .i64 size, .bool bk] 34 (0, 0) :: chS ca da Aa pa 0 (w64 seed) 0 xa) := H
          have HQ2 := H.perm (σ' := chS ca da Aa pa 0 (w64 seed) 0 xa ++ (.row 54 2 A1 x.length c1 (x.flatMap kFd.enc) :: [.blk b1 [.int .i64 now, str m, .slice A x.length c, .int .i64 size, .bool bk] 34 (0, 0)])) (by classical (rw [List.perm_iff_count]; intro q; simp only [List.count_append, List.count_cons, List.count_nil, chS, bks, List.flatMap_append, List.flatMap_cons]; omega))
          have HQ := HQ2.sub (List.sublist_append_left _ _)
          refine WL.call (vs := [_, _, _, _, _]) rfl cl16 rfl (fl_Request ca da Aa pa 0 (w64 seed) 0 xa (new_okx hN hokl) (by rw [new_len hN]; exact hll) now size hnow m A1 c1 x _ (by rw [new_len hN]; exact hx) _ (St.rdC kFd H 0 rfl) (St.rowBk HQ2 (List.mem_cons_self ..)) HQ.local) ?_
          rintro _ w1 hp
          obtain ⟨dra, Af, cf, Ap, cp, rfl, H1⟩ := hp.any hin
          have LX := H1.gr
          replace H := (HQ2.frame H1).perm (σ' := .blk b1 [.int .i64 now, str m, .slice A x.length c, .int .i64 size, .bool bk] 34 (0, 0) :: rowF Af cf (oF (runF now size m xa (w64 seed) x)) :: rowF Ap cp (oP (runF now size m xa (w64 seed) x)) :: (.row 54 2 A1 x.length c1 (x.flatMap kFd.enc) :: chS ca da Aa pa now (runF now size m xa (w64 seed) x).2.1 dra (runF now size m xa (w64 seed) x).1)) (by classical (rw [List.perm_iff_count]; intro q; simp only [List.count_append, List.count_cons, List.count_nil, chS, bks, List.flatMap_append, List.flatMap_cons]; omega))
          refine ⟨_, rfl, ?_⟩
          replace hK := hK.trans LX
          have hsz4 := hK.size
          refine WL.nil (WQ.backT hK (WT.lin (WX.v rfl (fun w2 hC => Ev.move rfl) rfl (WX.v rfl (fun w2 hC => Ev.extract rfl rfl) rfl (WX.v rfl (fun w2 hC => Ev.extract rfl rfl) rfl (WX.loud rfl rfl (WL.alloc z38 rfl H rfl fun b4 w1 hb4 H L => ?_)))))))
          have hsz5 := hK.size
          replace hK := hK.ext L
          refine WL.nil (WQ.back (fun _ => hK) (WX.loud rfl rfl (WL.store (i := 0) (vs := [_, _, _, _, _]) rfl rfl rfl sz38 rfl H rfl rfl fun w1 H L => ?_)))
          replace hK := hK.trans' L (fun i hi hb => absurd hb (by omega))
          refine WL.nil (WQ.back (fun _ => hK) (WX.v rfl (fun w2 hC => Ev.assign rfl) rfl (WX.nil ?_)))
          replace H : St w No _ (.blk b4 [.bool (oStop (runF now size m xa (w64 seed) x)), .int .i64 (oSt (runF now size m xa (w64 seed) x)), .slice Af (oF (runF now size m xa (w64 seed) x)).length cf, str (oB (runF now size m xa (w64 seed) x)), .slice Ap (oP (runF now size m xa (w64 seed) x)).length cp] 38 (0, 0) :: .blk b1 [.int .i64 now, str m, .slice A x.length c, .int .i64 size, .bool bk] 34 (0, 0) :: rowF Af cf (oF (runF now size m xa (w64 seed) x)) :: rowF Ap cp (oP (runF now size m xa (w64 seed) x)) :: (.row 54 2 A1 x.length c1 (x.flatMap kFd.enc) :: chS ca da Aa pa now (runF now size m xa (w64 seed) x).2.1 dra (runF now size m xa (w64 seed) x).1)) := H
          replace H := H.sub (σ' := [.blk b4 [.bool (oStop (runF now size m xa (w64 seed) x)), .int .i64 (oSt (runF now size m xa (w64 seed) x)), .slice Af (oF (runF now size m xa (w64 seed) x)).length cf, str (oB (runF now size m xa (w64 seed) x)), .slice Ap (oP (runF now size m xa (w64 seed) x)).length cp] 38 (0, 0), .blk b1 [.int .i64 now, str m, .slice A x.length c, .int .i64 size, .bool bk] 34 (0, 0), rowF Af cf (oF (runF now size m xa (w64 seed) x)), rowF Ap cp (oP (runF now size m xa (w64 seed) x))]) (List.Sublist.cons_cons _ (List.Sublist.cons_cons _ (List.Sublist.cons_cons _ (List.Sublist.cons_cons _ (List.nil_sublist _)))))
          exact WQ.meet ((b4, Af, cf, Ap, cp)) (H) ⟨rfl, rfl, rfl, rfl, trivial⟩
        refine WL.alloc z38 rfl H rfl fun b4 w1 hb4 H L => ?_
        have hsz5 := hK.size
        replace hK := hK.ext L
        refine WL.nil (WQ.backT hK (WT.lin (WX.loud rfl rfl ?_)))
        replace H : St w No _ (.blk b4 [.bool false, .int .i64 0, .slice none 0 0, str [], .slice none 0 0] 38 (0, 0) :: .row 54 2 A1 x.length c1 (x.flatMap kFd.enc) :: .blk b1 [.int .i64 now, str m, .slice A x.length c, .int .i64 size, .bool bk] 34 (0, 0) :: chS ca da Aa pa 0 (w64 seed) 0 xa) := H
        have HQ2 := H.perm (σ' := chS ca da Aa pa 0 (w64 seed) 0 xa ++ (.row 54 2 A1 x.length c1 (x.flatMap kFd.enc) :: [.blk b4 [.bool false, .int .i64 0, .slice none 0 0, str [], .slice none 0 0] 38 (0, 0), .blk b1 [.int .i64 now, str m, .slice A x.length c, .int .i64 size, .bool bk] 34 (0, 0)])) (by classical (rw [List.perm_iff_count]; intro q; simp only [List.count_append, List.count_cons, List.count_nil, chS, bks, List.flatMap_append, List.flatMap_cons]; omega))
        have HQ := HQ2.sub (List.sublist_append_left _ _)
        refine WL.call (vs := [_, _, _, _, _]) rfl cl16 rfl (fl_Request ca da Aa pa 0 (w64 seed) 0 xa (new_okx hN hokl) (by rw [new_len hN]; exact hll) now size hnow m A1 c1 x _ (by rw [new_len hN]; exact hx) _ (St.rdC kFd H 1 rfl) (St.rowBk HQ2 (List.mem_cons_self ..)) HQ.local) ?_
        rintro _ w1 hp
        obtain ⟨dra, Af, cf, Ap, cp, rfl, H1⟩ := hp.any hin
        have LX := H1.gr
        replace H := (HQ2.frame H1).perm (σ' := .blk b4 [.bool false, .int .i64 0, .slice none 0 0, str [], .slice none 0 0] 38 (0, 0) :: .blk b1 [.int .i64 now, str m, .slice A x.length c, .int .i64 size, .bool bk] 34 (0, 0) :: rowF Af cf (oF (runF now size m xa (w64 seed) x)) :: rowF Ap cp (oP (runF now size m xa (w64 seed) x)) :: (.row 54 2 A1 x.length c1 (x.flatMap kFd.enc) :: chS ca da Aa pa now (runF now size m xa (w64 seed) x).2.1 dra (runF now size m xa (w64 seed) x).1)) (by classical (rw [List.perm_iff_count]; intro q; simp only [List.count_append, List.count_cons, List.count_nil, chS, bks, List.flatMap_append, List.flatMap_cons]; omega))
        refine ⟨_, rfl, ?_⟩
        replace hK := hK.trans LX
        have hsz4 := hK.size
        refine WL.nil (WQ.back (fun _ => hK) (WX.v rfl (fun w2 hC => Ev.move rfl) rfl (WX.v rfl (fun w2 hC => Ev.extract rfl rfl) rfl (WX.v rfl (fun w2 hC => Ev.extract rfl rfl) rfl (WX.loud rfl rfl (WL.store (i := 0) (vs := [_, _, _, _, _]) rfl rfl rfl sz38 rfl H rfl rfl fun w1 H L => ?_))))))
        replace hK := hK.trans' L (fun i hi hb => absurd hb (by omega))
        refine WL.nil (WQ.back (fun _ => hK) (WX.v rfl (fun w2 hC => Ev.assign rfl) rfl (WX.nil ?_)))
        replace H : St w No _ (.blk b4 [.bool (oStop (runF now size m xa (w64 seed) x)), .int .i64 (oSt (runF now size m xa (w64 seed) x)), .slice Af (oF (runF now size m xa (w64 seed) x)).length cf, str (oB (runF now size m xa (w64 seed) x)), .slice Ap (oP (runF now size m xa (w64 seed) x)).length cp] 38 (0, 0) :: .blk b1 [.int .i64 now, str m, .slice A x.length c, .int .i64 size, .bool bk] 34 (0, 0) :: rowF Af cf (oF (runF now size m xa (w64 seed) x)) :: rowF Ap cp (oP (runF now size m xa (w64 seed) x)) :: (.row 54 2 A1 x.length c1 (x.flatMap kFd.enc) :: chS ca da Aa pa now (runF now size m xa (w64 seed) x).2.1 dra (runF now size m xa (w64 seed) x).1)) := H
        replace H := H.sub (σ' := [.blk b4 [.bool (oStop (runF now size m xa (w64 seed) x)), .int .i64 (oSt (runF now size m xa (w64 seed) x)), .slice Af (oF (runF now size m xa (w64 seed) x)).length cf, str (oB (runF now size m xa (w64 seed) x)), .slice Ap (oP (runF now size m xa (w64 seed) x)).length cp] 38 (0, 0), .blk b1 [.int .i64 now, str m, .slice A x.length c, .int .i64 size, .bool bk] 34 (0, 0), rowF Af cf (oF (runF now size m xa (w64 seed) x)), rowF Ap cp (oP (runF now size m xa (w64 seed) x))]) (List.Sublist.cons_cons _ (List.Sublist.cons_cons _ (List.Sublist.cons_cons _ (List.Sublist.cons_cons _ (List.nil_sublist _)))))
        exact WQ.meet ((b4, Af, cf, Ap, cp)) (H) ⟨rfl, rfl, rfl, rfl, trivial⟩
      refine WL.alloc z38 rfl H rfl fun b4 w1 hb4 H L => ?_
      have hsz5 := hK.size
      replace hK := hK.ext L
      refine WL.nil (WQ.backT hK (WT.lin (WX.loud rfl rfl (WL.appendRd (i := 1) (k := kFd) Try.underlying32 sz54 by54 z54 rfl rfl rfl (RX.st H) H rfl (by omega) (by omega) rfl fun A1 c1 w1 H L => ?_))))
      rw [Nat.zero_add, List.nil_append] at H
      rw [Nat.zero_add]
      replace hK := hK.trans' L (fun i hi hb => absurd (show i = b3 by simpa [Chunk.blocks] using hb) (by omega))
      refine WL.nil (WQ.back (fun _ => hK) (WX.loud rfl rfl ?_))
      replace H : St w No _ (.blk b4 [.bool false, .int .i64 0, .slice none 0 0, str [], .slice none 0 0] 38 (0, 0) :: .row 54 2 A1 x.length c1 (x.flatMap kFd.enc) :: .blk b1 [.int .i64 now, str m, .slice A x.length c, .int .i64 size, .bool bk] 34 (0, 0) :: chS ca da Aa pa 0 (w64 seed) 0 xa) := H
      have HQ2 := H.perm (σ' := chS ca da Aa pa 0 (w64 seed) 0 xa ++ (.row 54 2 A1 x.length c1 (x.flatMap kFd.enc) :: [.blk b4 [.bool false, .int .i64 0, .slice none 0 0, str [], .slice none 0 0] 38 (0, 0), .blk b1 [.int .i64 now, str m, .slice A x.length c, .int .i64 size, .bool bk] 34 (0, 0)])) (by classical (rw [List.perm_iff_count]; intro q; simp only [List.count_append, List.count_cons, List.count_nil, chS, bks, List.flatMap_append, List.flatMap_cons]; omega))
      have HQ := HQ2.sub (List.sublist_append_left _ _)
      refine WL.call (vs := [_, _, _, _, _]) rfl cl16 rfl (fl_Request ca da Aa pa 0 (w64 seed) 0 xa (new_okx hN hokl) (by rw [new_len hN]; exact hll) now size hnow m A1 c1 x _ (by rw [new_len hN]; exact hx) _ (St.rdC kFd H 1 rfl) (St.rowBk HQ2 (List.mem_cons_self ..)) HQ.local) ?_
      rintro _ w1 hp
      obtain ⟨dra, Af, cf, Ap, cp, rfl, H1⟩ := hp.any hin
      have LX := H1.gr
      replace H := (HQ2.frame H1).perm (σ' := .blk b4 [.bool false, .int .i64 0, .slice none 0 0, str [], .slice none 0 0] 38 (0, 0) :: .blk b1 [.int .i64 now, str m, .slice A x.length c, .int .i64 size, .bool bk] 34 (0, 0) :: rowF Af cf (oF (runF now size m xa (w64 seed) x)) :: rowF Ap cp (oP (runF now size m xa (w64 seed) x)) :: (.row 54 2 A1 x.length c1 (x.flatMap kFd.enc) :: chS ca da Aa pa now (runF now size m xa (w64 seed) x).2.1 dra (runF now size m xa (w64 seed) x).1)) (by classical (rw [List.perm_iff_count]; intro q; simp only [List.count_append, List.count_cons, List.count_nil, chS, bks, List.flatMap_append, List.flatMap_cons]; omega))
      refine ⟨_, rfl, ?_⟩
      replace hK := hK.trans LX
      have hsz4 := hK.size
      refine WL.nil (WQ.back (fun _ => hK) (WX.v rfl (fun w2 hC => Ev.move rfl) rfl (WX.v rfl (fun w2 hC => Ev.extract rfl rfl) rfl (WX.v rfl (fun w2 hC => Ev.extract rfl rfl) rfl (WX.loud rfl rfl (WL.store (i := 0) (vs := [_, _, _, _, _]) rfl rfl rfl sz38 rfl H rfl rfl fun w1 H L => ?_))))))
      replace hK := hK.trans' L (fun i hi hb => absurd hb (by omega))
      refine WL.nil (WQ.back (fun _ => hK) (WX.v rfl (fun w2 hC => Ev.assign rfl) rfl (WX.nil ?_)))
      replace H : St w No _ (.blk b4 [.bool (oStop (runF now size m xa (w64 seed) x)), .int .i64 (oSt (runF now size m xa (w64 seed) x)), .slice Af (oF (runF now size m xa (w64 seed) x)).length cf, str (oB (runF now size m xa (w64 seed) x)), .slice Ap (oP (runF now size m xa (w64 seed) x)).length cp] 38 (0, 0) :: .blk b1 [.int .i64 now, str m, .slice A x.length c, .int .i64 size, .bool bk] 34 (0, 0) :: rowF Af cf (oF (runF now size m xa (w64 seed) x)) :: rowF Ap cp (oP (runF now size m xa (w64 seed) x)) :: (.row 54 2 A1 x.length c1 (x.flatMap kFd.enc) :: chS ca da Aa pa now (runF now size m xa (w64 seed) x).2.1 dra (runF now size m xa (w64 seed) x).1)) := H
      replace H := H.sub (σ' := [.blk b4 [.bool (oStop (runF now size m xa (w64 seed) x)), .int .i64 (oSt (runF now size m xa (w64 seed) x)), .slice Af (oF (runF now size m xa (w64 seed) x)).length cf, str (oB (runF now size m xa (w64 seed) x)), .slice Ap (oP (runF now size m xa (w64 seed) x)).length cp] 38 (0, 0), .blk b1 [.int .i64 now, str m, .slice A x.length c, .int .i64 size, .bool bk] 34 (0, 0), rowF Af cf (oF (runF now size m xa (w64 seed) x)), rowF Ap cp (oP (runF now size m xa (w64 seed) x))]) (List.Sublist.cons_cons _ (List.Sublist.cons_cons _ (List.Sublist.cons_cons _ (List.Sublist.cons_cons _ (List.nil_sublist _)))))
      exact WQ.meet ((b4, Af, cf, Ap, cp)) (H) ⟨rfl, rfl, rfl, rfl, trivial⟩
    refine WL.alloc z38 rfl H rfl fun b4 w1 hb4 H L => ?_
    have hsz5 := hK.size
    replace hK := hK.ext L
    refine WL.nil (WQ.backT hK (WT.lin (WX.loud rfl rfl (WL.buildSlice0 Try.underlying32 sz54 H rfl fun b3 w1 hb3 H L => ?_))))
    have hsz3 := hK.size
    replace hK := hK.ext L
    refine WL.nil (WQ.back (fun _ => hK) (WX.loud rfl rfl (WL.appendRd (i := 0) (k := kFd) Try.underlying32 sz54 by54 z54 rfl rfl rfl (RX.st H) H rfl (by omega) (by omega) rfl fun A1 c1 w1 H L => ?_)))
    rw [Nat.zero_add, List.nil_append] at H
    rw [Nat.zero_add]
    replace hK := hK.trans' L (fun i hi hb => absurd (show i = b3 by simpa [Chunk.blocks] using hb) (by omega))
    refine WL.nil (WQ.back (fun _ => hK) (WX.loud rfl rfl ?_))
    replace H : St w No _ (.row 54 2 A1 x.length c1 (x.flatMap kFd.enc) :: .blk b4 [.bool false, .int .i64 0, .slice none 0 0, str [], .slice none 0 0] 38 (0, 0) :: .blk b1 [.int .i64 now, str m, .slice A x.length c, .int .i64 size, .bool bk] 34 (0, 0) :: chS ca da Aa pa 0 (w64 seed) 0 xa) := H
    have HQ2 := H.perm (σ' := chS ca da Aa pa 0 (w64 seed) 0 xa ++ (.row 54 2 A1 x.length c1 (x.flatMap kFd.enc) :: [.blk b4 [.bool false, .int .i64 0, .slice none 0 0, str [], .slice none 0 0] 38 (0, 0), .blk b1 [.int .i64 now, str m, .slice A x.length c, .int .i64 size, .bool bk] 34 (0, 0)])) (by classical (rw [List.perm_iff_count]; intro q; simp only [List.count_append, List.count_cons, List.count_nil, chS, bks, List.flatMap_append, List.flatMap_cons]; omega))
    have HQ := HQ2.sub (List.sublist_append_left _ _)
    refine WL.call (vs := [_, _, _, _, _]) rfl cl16 rfl (fl_Request ca da Aa pa 0 (w64 seed) 0 xa (new_okx hN hokl) (by rw [new_len hN]; exact hll) now size hnow m A1 c1 x _ (by rw [new_len hN]; exact hx) _ (St.rdC kFd H 0 rfl) (St.rowBk HQ2 (List.mem_cons_self ..)) HQ.local) ?_
    rintro _ w1 hp
    obtain ⟨dra, Af, cf, Ap, cp, rfl, H1⟩ := hp.any hin
    have LX := H1.gr
    replace H := (HQ2.frame H1).perm (σ' := .blk b4 [.bool false, .int .i64 0, .slice none 0 0, str [], .slice none 0 0] 38 (0, 0) :: .blk b1 [.int .i64 now, str m, .slice A x.length c, .int .i64 size, .bool bk] 34 (0, 0) :: rowF Af cf (oF (runF now size m xa (w64 seed) x)) :: rowF Ap cp (oP (runF now size m xa (w64 seed) x)) :: (.row 54 2 A1 x.length c1 (x.flatMap kFd.enc) :: chS ca da Aa pa now (runF now size m xa (w64 seed) x).2.1 dra (runF now size m xa (w64 seed) x).1)) (by classical (rw [List.perm_iff_count]; intro q; simp only [List.count_append, List.count_cons, List.count_nil, chS, bks, List.flatMap_append, List.flatMap_cons]; omega))
    refine ⟨_, rfl, ?_⟩
    replace hK := hK.trans LX
    have hsz4 := hK.size
    refine WL.nil (WQ.back (fun _ => hK) (WX.v rfl (fun w2 hC => Ev.move rfl) rfl (WX.v rfl (fun w2 hC => Ev.extract rfl rfl) rfl (WX.v rfl (fun w2 hC => Ev.extract rfl rfl) rfl (WX.loud rfl rfl (WL.store (i := 0) (vs := [_, _, _, _, _]) rfl rfl rfl sz38 rfl H rfl rfl fun w1 H L => ?_))))))
    replace hK := hK.trans' L (fun i hi hb => absurd hb (by omega))
    refine WL.nil (WQ.back (fun _ => hK) (WX.v rfl (fun w2 hC => Ev.assign rfl) rfl (WX.nil ?_)))
    replace H : St w No _ (.blk b4 [.bool (oStop (runF now size m xa (w64 seed) x)), .int .i64 (oSt (runF now size m xa (w64 seed) x)), .slice Af (oF (runF now size m xa (w64 seed) x)).length cf, str (oB (runF now size m xa (w64 seed) x)), .slice Ap (oP (runF now size m xa (w64 seed) x)).length cp] 38 (0, 0) :: .blk b1 [.int .i64 now, str m, .slice A x.length c, .int .i64 size, .bool bk] 34 (0, 0) :: rowF Af cf (oF (runF now size m xa (w64 seed) x)) :: rowF Ap cp (oP (runF now size m xa (w64 seed) x)) :: (.row 54 2 A1 x.length c1 (x.flatMap kFd.enc) :: chS ca da Aa pa now (runF now size m xa (w64 seed) x).2.1 dra (runF now size m xa (w64 seed) x).1)) := H
    replace H := H.sub (σ' := [.blk b4 [.bool (oStop (runF now size m xa (w64 seed) x)), .int .i64 (oSt (runF now size m xa (w64 seed) x)), .slice Af (oF (runF now size m xa (w64 seed) x)).length cf, str (oB (runF now size m xa (w64 seed) x)), .slice Ap (oP (runF now size m xa (w64 seed) x)).length cp] 38 (0, 0), .blk b1 [.int .i64 now, str m, .slice A x.length c, .int .i64 size, .bool bk] 34 (0, 0), rowF Af cf (oF (runF now size m xa (w64 seed) x)), rowF Ap cp (oP (runF now size m xa (w64 seed) x))]) (List.Sublist.cons_cons _ (List.Sublist.cons_cons _ (List.Sublist.cons_cons _ (List.Sublist.cons_cons _ (List.nil_sublist _)))))
    exact WQ.meet ((b4, Af, cf, Ap, cp)) (H) ⟨rfl, rfl, rfl, rfl, trivial⟩
  · rintro ⟨b4, Af, cf, Ap, cp⟩ w1 H
    refine WC.seq (WC.seq (WC.reg (WL.v (Ev.move rfl) rfl (WL.v (Ev.neN (b := 0) rfl rfl) rfl (WL.v (Ev.move rfl) rfl (WL.g (Met.no rfl rfl) (fun hg => Ev.fieldAddr fa38_0 rfl) rfl (WL.g (Met.no rfl rfl) (fun hg => Ev.load fl4 ((evG.un rfl).ev hg) (H.cell 0 rfl rfl)) rfl (WL.g (Met.no rfl rfl) (fun hg => Ev.move ((evG.un rfl).ev hg)) rfl (WL.g (Met.gyes rfl rfl) (fun hg => Ev.fieldAddr fa38_4 rfl) rfl (WL.g (Met.gyes rfl rfl) (fun hg => Ev.load fl32 ((evG.un rfl).ev hg) (H.cell 0 rfl rfl)) rfl (WL.g (Met.gyes rfl rfl) (fun hg => Ev.lensl Try.underlying32 ((evG.un rfl).ev hg)) rfl (WL.g (Met.gyes rfl rfl) (fun hg => Ev.neN (b := 0) ((evG.un rfl).ev hg) rfl) rfl (WL.g (Met.no rfl rfl) (fun hg => Ev.and ((evG.un rfl).ev hg) ((evG.nest rfl).ev hg) rfl) rfl (WL.v (Ev.or rfl rfl rfl) rfl (WL.v (Ev.move rfl) rfl (WL.g (Met.no rfl rfl) (fun hg => Ev.fieldAddr fa38_0 rfl) rfl (WL.g (Met.no rfl rfl) (fun hg => Ev.load fl4 ((evG.un rfl).ev hg) (H.cell 0 rfl rfl)) rfl (WL.g (Met.no rfl rfl) (fun hg => Ev.not ((evG.un rfl).ev hg)) rfl (WL.g (Met.no rfl rfl) (fun hg => Ev.move ((evG.un rfl).ev hg)) rfl (WL.g (Met.gyes rfl rfl) (fun hg => Ev.fieldAddr fa38_1 rfl) rfl (WL.g (Met.gyes rfl rfl) (fun hg => Ev.load fl3 ((evG.un rfl).ev hg) (H.cell 0 rfl rfl)) rfl (WL.g (Met.gyes rfl rfl) (fun hg => Ev.nei ((evG.un rfl).ev hg) rfl) rfl (WL.g (Met.gyes rfl rfl) (fun hg => Ev.move ((evG.un rfl).ev hg)) rfl (WL.g (Met.gno rfl rfl) (fun hg => Ev.fieldAddr fa38_3 rfl) rfl (WL.g (Met.gno rfl rfl) (fun hg => Ev.load fl9 ((evG.un rfl).ev hg) (H.cell 0 rfl rfl)) rfl (WL.g (Met.gno rfl rfl) (fun hg => Ev.nes ((evG.un rfl).ev hg) rfl) rfl (WL.g (Met.gyes rfl rfl) (fun hg => Ev.or ((evG.un rfl).ev hg) rfl ((evG.nest rfl).ev hg)) rfl (WL.g (Met.gyes rfl rfl) (fun hg => Ev.move ((evG.un rfl).ev hg)) rfl (WL.g (Met.gno rfl rfl) (fun hg => Ev.fieldAddr fa38_2 rfl) rfl (WL.g (Met.gno rfl rfl) (fun hg => Ev.load fl32 ((evG.un rfl).ev hg) (H.cell 0 rfl rfl)) rfl (WL.g (Met.gno rfl rfl) (fun hg => Ev.lensl Try.underlying32 ((evG.un rfl).ev hg)) rfl (WL.g (Met.gno rfl rfl) (fun hg => Ev.neN (b := 0) ((evG.un rfl).ev hg) rfl) rfl (WL.g (Met.gyes rfl rfl) (fun hg => Ev.or ((evG.un rfl).ev hg) rfl ((evG.nest rfl).ev hg)) rfl (WL.g (Met.no rfl rfl) (fun hg => Ev.and ((evG.un rfl).ev hg) ((evG.nest rfl).ev hg) rfl) rfl (WL.v (Ev.or rfl rfl rfl) rfl (WL.nil ?_))))))))))))))))))))))))))))))))))))
    refine WQ.tn (WC.cond rfl (fun h3 => ?_) (fun h3 => ?_))
    · exfalso
      have hv := o_shape (runF now size m xa (w64 seed) x)
      cases hq : oStop (runF now size m xa (w64 seed) x) with
      | true => have q1 := hv.1 hq; rw [hq, q1] at h3; simp at h3
      | false => obtain ⟨q1, q2, q3⟩ := hv.2 hq; rw [hq, q1, q2, q3] at h3; simp at h3
    skip
    refine WC.skip (WQ.tn (WC.seq (WC.seq (WC.reg (WL.v (Ev.fieldAddr fa38_0 rfl) rfl (WL.v (Ev.load fl4 rfl (H.cell 0 rfl rfl)) rfl (WL.nil (WQ.tn (WC.cond rfl (fun h4 => ?_) (fun h4 => ?_))))))))))
    · skip
      refine WC.seq (WC.reg (WL.v (Ev.fieldAddr fa38_1 rfl) rfl (WL.v (Ev.load fl3 rfl (H.cell 0 rfl rfl)) rfl (WL.v (Ev.eqi rfl rfl) rfl (WL.v (Ev.move rfl) rfl (WL.g (Met.yes rfl rfl) (fun hg => Ev.fieldAddr fa34_1 rfl) rfl (WL.g (Met.yes rfl rfl) (fun hg => Ev.load fl9 ((evG.un rfl).ev hg) (H.cell 1 rfl rfl)) rfl (WL.g (Met.yes rfl rfl) (fun hg => Ev.eqs ((evG.un rfl).ev hg) rfl) rfl (WL.v (Ev.and rfl rfl rfl) rfl (WL.v (Ev.move rfl) rfl (WL.g (Met.no rfl rfl) (fun hg => Ev.fieldAddr fa38_1 rfl) rfl (WL.g (Met.no rfl rfl) (fun hg => Ev.load fl3 ((evG.un rfl).ev hg) (H.cell 0 rfl rfl)) rfl (WL.g (Met.no rfl rfl) (fun hg => Ev.geq ((evG.un rfl).ev hg) rfl) rfl (WL.g (Met.no rfl rfl) (fun hg => Ev.move ((evG.un rfl).ev hg)) rfl (WL.g (Met.gyes rfl rfl) (fun hg => Ev.fieldAddr fa38_1 rfl) rfl (WL.g (Met.gyes rfl rfl) (fun hg => Ev.load fl3 ((evG.un rfl).ev hg) (H.cell 0 rfl rfl)) rfl (WL.g (Met.gyes rfl rfl) (fun hg => Ev.leq ((evG.un rfl).ev hg) rfl) rfl (WL.g (Met.no rfl rfl) (fun hg => Ev.and ((evG.un rfl).ev hg) ((evG.nest rfl).ev hg) rfl) rfl (WL.v (Ev.or rfl rfl rfl) rfl (WL.v (Ev.assign rfl) rfl (WL.nil ?_)))))))))))))))))))))
      refine WQ.tn (WC.ret (WQ.tn_ret (WQ.ret1 rfl rfl ?_)))
      obtain ⟨t, ht, hst⟩ := stop_oSt h4
      have hc := run_stop now size m xa _ _ (rightF_new hN hr1) ht
      rw [← hst] at hc
      refine ⟨congrArg (fun b => Ending.returned (.bool b)) ?_, H.done⟩
      rcases hc with ⟨q1, q2⟩ | ⟨q1, q2⟩
      · rw [q1]; unfold litOptions at q2; simp [q2]
      · simp [q1, q2]
    have hg := fun (j : Nat) (hj : j < ls.length) => guard_at hN h4 hj
    have hokp : Okf (oP (runF now size m xa (w64 seed) x)) := by
      rw [(oP_none' h4).1]
      exact (runF_okn now size m 0 xa _ _ (new_okx hN hokl) (by rw [new_len hN]; exact hx)).okf
    refine WC.skip (WQ.tn (WC.seq (WC.seq (WC.reg (WL.v (Ev.move rfl) rfl (WL.v (Ev.lensl Try.underlying22 rfl) rfl (WL.v (Ev.move rfl) rfl (WL.nil (WQ.tn (WC.block (WC.loop (γ := Nat) (fun j => [(0, .slice Al ls.length e1), (5, .pointer (some ⟨b1, 0, none⟩)), (8, .pointer (some ⟨b4, 0, none⟩)), (107, .slice Al ls.length e1), (108, .int .i64 (ls.length : Nat)), (109, .int .i64 (j : Nat))]) (fun j w1 => j ≤ ls.length ∧ St w No w1 [.blk b4 [.bool (oStop (runF now size m xa (w64 seed) x)), .int .i64 (oSt (runF now size m xa (w64 seed) x)), .slice Af (oF (runF now size m xa (w64 seed) x)).length cf, str (oB (runF now size m xa (w64 seed) x)), .slice Ap (oP (runF now size m xa (w64 seed) x)).length cp] 38 (0, 0), .blk b1 [.int .i64 now, str m, .slice A x.length c, .int .i64 size, .bool bk] 34 (0, 0), rowF Af cf (oF (runF now size m xa (w64 seed) x)), rowF Ap cp (oP (runF now size m xa (w64 seed) x))]) (fun j => ls.length - j) 0 (⟨Nat.zero_le _, H⟩) ⟨rfl, rfl, rfl, rfl, rfl, rfl, trivial⟩ ?_)))))))))))
    rintro j w1 ⟨hj, H⟩
    refine WC.seq (WC.reg (WL.v (Ev.lssN rfl rfl) rfl (WL.nil (WQ.tn (WC.seq (WC.cond rfl (fun h6 => ?_) (fun h6 => ?_)))))))
    · simp only [bsimp] at h6
      obtain ⟨bq, oq, rfl, _, hc⟩ := (RL.st H).at h6
      have hj1 := getx h6
      refine WC.skip (WQ.tn (WC.seq (WC.block (WC.seq (WC.reg (WL.v (Ev.move rfl) rfl (WL.v (Ev.idx Try.underlying22 sz29 rfl rfl (by omega)) rfl (WL.v (Ev.loadA (vs := [_, _, _, _, _, _]) ag29 sz29 rfl ((rdCells hc hj1 0 rfl))) rfl (WL.alloc z29 rfl H rfl fun b5 w1 hb5 H L => (WL.v (Ev.assign rfl) rfl (WL.store (i := 0) (vs := [_, _, _, _, _, _]) rfl rfl rfl sz29 rfl H rfl rfl fun w1 H L => (WL.nil (WQ.tn (WC.seq (WC.seq (WC.reg (WL.v (Ev.fieldAddr fa29_0 rfl) rfl (WL.v (Ev.load fl3 rfl (H.cell 0 rfl rfl)) rfl (WL.v (Ev.eqi rfl rfl) rfl (WL.v (Ev.move rfl) rfl (WL.g (Met.yes rfl rfl) (fun hg => Ev.fieldAddr fa34_3 rfl) rfl (WL.g (Met.yes rfl rfl) (fun hg => Ev.load fl3 ((evG.un rfl).ev hg) (H.cell 2 rfl rfl)) rfl (WL.g (Met.yes rfl rfl) (fun hg => Ev.fieldAddr fa29_3 rfl) rfl (WL.g (Met.yes rfl rfl) (fun hg => Ev.load fl3 ((evG.un rfl).ev hg) (H.cell 0 rfl rfl)) rfl (WL.g (Met.yes rfl rfl) (fun hg => Ev.gtr ((evG.un rfl).ev hg) ((evG.un rfl).ev hg)) rfl (WL.v (Ev.and rfl rfl rfl) rfl (WL.v (Ev.move rfl) rfl (WL.g (Met.no rfl rfl) (fun hg => Ev.fieldAddr fa29_0 rfl) rfl (WL.g (Met.no rfl rfl) (fun hg => Ev.load fl3 ((evG.un rfl).ev hg) (H.cell 0 rfl rfl)) rfl (WL.g (Met.no rfl rfl) (fun hg => Ev.eqi ((evG.un rfl).ev hg) rfl) rfl (WL.g (Met.no rfl rfl) (fun hg => Ev.move ((evG.un rfl).ev hg)) rfl (WL.g (Met.gyes rfl rfl) (fun hg => Ev.fieldAddr fa29_3 rfl) rfl (WL.g (Met.gyes rfl rfl) (fun hg => Ev.load fl3 ((evG.un rfl).ev hg) (H.cell 0 rfl rfl)) rfl (WL.g (Met.gyes rfl rfl) (fun hg => Ev.eqi ((evG.un rfl).ev hg) rfl) rfl (WL.g (Met.no rfl rfl) (fun hg => Ev.and ((evG.un rfl).ev hg) ((evG.nest rfl).ev hg) rfl) rfl (WL.v (Ev.or rfl rfl rfl) rfl (WL.nil ?_)))))))))))))))))))))))))))))))))))))
      refine WQ.tn (WC.cond rfl (fun h7 => ?_) (fun h7 => ?_))
      · exfalso
        simp only [bsimp] at h7
        rcases h7 with h7 | h7
        · exact (hg j h6).1 h7
        · exact (hg j h6).2.1 h7
      try simp only [bsimp] at h7
      refine WC.skip (WQ.tn (WC.seq (WC.reg (WL.v (Ev.assign rfl) rfl (WL.nil (WQ.tn (WC.seq (WC.seq (WC.reg (WL.v (Ev.move rfl) rfl (WL.v (Ev.move rfl) rfl (WL.v (Ev.addN (b := 1) rfl rfl (by omega)) rfl (WL.v (Ev.subSl Try.underlying22 sz29 rfl rfl (by omega)) rfl (WL.v (Ev.lensl Try.underlying22 rfl) rfl (WL.v (Ev.move rfl) rfl (WL.nil (WQ.tn (WC.block (WC.loop (γ := Nat) (fun q => [(0, .slice (some ⟨bq, oq, none⟩) ls.length e1), (5, .pointer (some ⟨b1, 0, none⟩)), (8, .pointer (some ⟨b4, 0, none⟩)), (10, .int .i64 (j : Nat)), (11, .pointer (some ⟨b5, 0, none⟩)), (12, .bool (((ls.drop (j + 1)).take q).any (fun f => decide (f.kind = 1)))), (107, .slice (some ⟨bq, oq, none⟩) ls.length e1), (108, .int .i64 (ls.length : Nat)), (109, .int .i64 (j : Nat)), (137, .slice (subA (some ⟨bq, oq, none⟩) e1 (j + 1) 6) (ls.length - (j + 1)) (e1 - (j + 1))), (138, .int .i64 ((ls.length - (j + 1) : Nat))), (139, .int .i64 (q : Nat))]) (fun q w1 => q ≤ ls.length - (j + 1) ∧ St w No w1 (.blk b5 (kFl.enc ls[j]) 29 (0, 0) :: [.blk b4 [.bool (oStop (runF now size m xa (w64 seed) x)), .int .i64 (oSt (runF now size m xa (w64 seed) x)), .slice Af (oF (runF now size m xa (w64 seed) x)).length cf, str (oB (runF now size m xa (w64 seed) x)), .slice Ap (oP (runF now size m xa (w64 seed) x)).length cp] 38 (0, 0), .blk b1 [.int .i64 now, str m, .slice A x.length c, .int .i64 size, .bool bk] 34 (0, 0), rowF Af cf (oF (runF now size m xa (w64 seed) x)), rowF Ap cp (oP (runF now size m xa (w64 seed) x))])) (fun q => ls.length - q) 0 (⟨Nat.zero_le _, H⟩) ⟨rfl, rfl, rfl, rfl, rfl, rfl, rfl, rfl, rfl, rfl, rfl, rfl, trivial⟩ ?_)))))))))))))))))))
      rintro q w1 ⟨hq, H⟩
      refine WC.seq (WC.reg (WL.v (Ev.lssN rfl rfl) rfl (WL.nil (WQ.tn (WC.seq (WC.cond rfl (fun h9 => ?_) (fun h9 => ?_)))))))
      · simp only [bsimp] at h9
        have hq9 : q < (ls.drop (j + 1)).length := by rw [List.length_drop]; exact h9
        obtain ⟨bz, oz, hz, _, hcz⟩ := ((RL.st H).drop (j + 1) (by omega)).at hq9
        have hz9 : subA (some ⟨bq, oq, none⟩) e1 (j + 1) 6 = some ⟨bz, oz, none⟩ := hz
        rw [hz9]
        have hj2 := getx hq9
        refine WC.skip (WQ.tn (WC.seq (WC.block (WC.seq (WC.reg (WL.v (Ev.idx Try.underlying22 sz29 rfl rfl (by omega)) rfl (WL.v (Ev.loadA (vs := [_, _, _, _, _, _]) ag29 sz29 rfl ((rdCells hcz hj2 0 rfl))) rfl (WL.alloc z29 rfl H rfl fun b6 w1 hb6 H L => (WL.store (i := 0) (vs := [_, _, _, _, _, _]) rfl rfl rfl sz29 rfl H rfl rfl fun w1 H L => (WL.nil (WQ.tn (WC.reg (WL.v (Ev.move rfl) rfl (WL.v (Ev.move rfl) rfl (WL.g (Met.no rfl rfl) (fun hg => Ev.fieldAddr fa29_0 rfl) rfl (WL.g (Met.no rfl rfl) (fun hg => Ev.load fl3 ((evG.un rfl).ev hg) (H.cell 0 rfl rfl)) rfl (WL.g (Met.no rfl rfl) (fun hg => Ev.eqi ((evG.un rfl).ev hg) rfl) rfl (WL.v (Ev.or rfl rfl rfl) rfl (WL.v (Ev.assign rfl) rfl (WL.nil ?_))))))))))))))))))))
        refine WQ.blk (WQ.tn (WC.reg (WL.v (Ev.addN (b := 1) rfl rfl (by omega)) rfl (WL.v (Ev.move rfl) rfl (WL.nil ?_)))))
        exact WQ.again (q + 1) (⟨by omega, H.tail⟩) ⟨rfl, rfl, rfl, rfl, rfl, (by rw [any_take_succ hq9]; rfl), rfl, rfl, rfl, rfl, rfl, rfl, trivial⟩ (by first | omega | (dsimp only; omega))
      try simp only [bsimp] at h9
      refine WC.exit (WQ.tn_exit (WQ.loop_exit (WQ.blk_here rfl (WQ.tn (WC.seq (WC.reg (WL.v (Ev.fieldAddr fa38_4 rfl) rfl (WL.v (Ev.load fl32 rfl (H.cell 1 rfl rfl)) rfl (WL.v (Ev.fieldAddr fa29_1 rfl) rfl (WL.v (Ev.load fl9 rfl (H.cell 0 rfl rfl)) rfl (WL.call (vs := [_, _]) rfl cl19 rfl (ref07_Get Ap cp (oP (runF now size m xa (w64 seed) x)) _ hokp ls[j].name (hsl _ (List.getElem_mem h6)).1 _ (St.rdC kFd H 4 rfl)) ?_)))))))))))
      rintro _ w1 ⟨rfl, H1⟩
      replace H := H.ext H1.gr
      refine ⟨_, rfl, ?_⟩
      refine WL.v (Ev.move rfl) rfl (WL.v (Ev.extract rfl rfl) rfl (WL.v (Ev.extract rfl rfl) rfl (WL.v (Ev.assign rfl) rfl (WL.v (Ev.assign rfl) rfl (WL.nil (WQ.tn (WC.seq (WC.reg (WL.v (Ev.move rfl) rfl (WL.v (Ev.gtrN (b := 0) rfl rfl) rfl (WL.v (Ev.move rfl) rfl (WL.g (Met.yes rfl rfl) (fun hg => Ev.move rfl) rfl (WL.g (Met.yes rfl rfl) (fun hg => Ev.not ((evG.un rfl).ev hg)) rfl (WL.v (Ev.and rfl rfl rfl) rfl (WL.v (Ev.move rfl) rfl (WL.g (Met.yes rfl rfl) (fun hg => Ev.fieldAddr fa29_0 rfl) rfl (WL.g (Met.yes rfl rfl) (fun hg => Ev.load fl3 ((evG.un rfl).ev hg) (H.cell 0 rfl rfl)) rfl (WL.g (Met.yes rfl rfl) (fun hg => Ev.eqi ((evG.un rfl).ev hg) rfl) rfl (WL.g (Met.yes rfl rfl) (fun hg => Ev.move ((evG.un rfl).ev hg)) rfl (WL.g (Met.gno rfl rfl) (fun hg => Ev.fieldAddr fa29_0 rfl) rfl (WL.g (Met.gno rfl rfl) (fun hg => Ev.load fl3 ((evG.un rfl).ev hg) (H.cell 0 rfl rfl)) rfl (WL.g (Met.gno rfl rfl) (fun hg => Ev.eqi ((evG.un rfl).ev hg) rfl) rfl (WL.g (Met.yes rfl rfl) (fun hg => Ev.or ((evG.un rfl).ev hg) rfl ((evG.nest rfl).ev hg)) rfl (WL.v (Ev.and rfl rfl rfl) rfl (WL.nil ?_)))))))))))))))))))))))))
      refine WQ.tn (WC.cond rfl (fun h10 => ?_) (fun h10 => ?_))
      · exfalso
        simp only [bsimp] at h10
        obtain ⟨⟨h11, h12⟩, h13⟩ := h10
        obtain rfl : q = ls.length - (j + 1) := by omega
        rw [List.take_of_length_le (by rw [List.length_drop]; exact Nat.le_refl _)] at h12
        have := (hg j h6).2.2 h13 h12
        omega
      try simp only [bsimp] at h10
      refine WC.skip (WQ.blk (WQ.tn (WC.reg (WL.v (Ev.addN (b := 1) rfl rfl (by omega)) rfl (WL.v (Ev.move rfl) rfl (WL.nil ?_))))))
      exact WQ.again (j + 1) (⟨by omega, H.tail⟩) ⟨rfl, rfl, rfl, rfl, rfl, rfl, trivial⟩ (by first | omega | (dsimp only; omega))
    try simp only [bsimp] at h6
    refine WC.exit (WQ.tn_exit (WQ.loop_exit (WQ.blk_here rfl (WQ.tn (WC.seq (WC.reg (WL.v (Ev.assign rfl) rfl (WL.nil (WQ.tn (WC.ret (WQ.ret1 rfl rfl ?_)))))))))))
    exact ⟨rfl, H.done⟩
end Go.Proofs.Ytcmolgiccccnoaa
