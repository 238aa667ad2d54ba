/- The walks of functions: what each comes to. -/
import Derived.Test.YtcmolgiccccnoaaWk
import Derived.Test.YtcmolgiccccnoaaGb
import Derived.Test.YtcmolgiccccnoaaProg
set_option linter.unusedVariables false
set_option linter.unusedSimpArgs false
namespace Go.Proofs.Ytcmolgiccccnoaa
open Go.RowKit Go.BK
theorem cl21 : callB Try.prog 21 = true := by kernel_rfl
theorem cl20 : callB Try.prog 20 = true := by kernel_rfl
theorem cl13 : callB Try.prog 13 = true := by kernel_rfl
theorem backL_ok : ∀ (xs : List Fx) (l : List Fld) (n : Nat), (∀ x ∈ xs, okFx x) → OkfN (xs.length + n) l → OkfN n (backL l xs.reverse)
  | [], l, n, _, h => by simpa [backL] using h
  | z :: xs, l, n, hx, h => by
    rw [backL_rev]
    exact backR_ok (hx z (by simp)) (backL_ok xs l (n + 1) (fun x hxx => hx x (by simp [hxx])) (by rw [show xs.length + (n + 1) = (z :: xs).length + n by simp; omega]; exact h))
theorem joinS_len {r : List Bs} (h : ∀ t ∈ r, t.length ≤ 32) : (joinS r).length ≤ 33 * r.length := by
  induction r with
  | nil => simp [joinS]
  | cons t r ih =>
    have h1 := h t (by simp)
    have h2 := ih (fun x hx => h x (by simp [hx]))
    have e : (joinS (t :: r)).length = 1 + t.length + (joinS r).length := by simp [joinS]; omega
    rw [e, List.length_cons]; omega
theorem set_name {f : Flt} (hr : rightF f = true) (h : isSet f = true) : token (setNm f) = true ∧ (setNm f).length ≤ 32 := by
  unfold isSet at h
  simp only [bsimp] at h
  unfold setNm
  rcases h with h | h
  · rw [if_pos h]; decide
  · rw [if_neg (by omega)]
    unfold rightF at hr
    rw [if_pos (.inr h)] at hr
    simp only [bsimp] at hr
    have h1 := hr.1.2
    unfold nameOk at h1
    simp only [bsimp] at h1
    exact ⟨h1.2.1, h1.2.2⟩
theorem oneHas {r : List Bs} (h : ∀ t ∈ r, token t = true ∧ t.length ≤ 32) (hr : r.length ≤ 1048576) (l : Bs) (hl : Sml l.length) : Okf [(l, joinS r)] ∧ Sml (elemsF [(l, joinS r)] l).length := by
  have hj := joinS_len (fun t ht => (h t ht).2)
  refine ⟨⟨by unfold Sml; simp, fun x hx => ?_⟩, ?_⟩
  · obtain rfl := List.mem_singleton.1 hx
    exact ⟨hl, by unfold Sml; simp only; omega⟩
  · have e : elemsF [(l, joinS r)] l = r := by
      unfold elemsF
      rw [List.filter_cons_of_pos (by exact alike_refl l), List.filter_nil, List.flatMap_cons, List.flatMap_nil, List.append_nil, elements_join (fun t ht => (h t ht).1)]
    rw [e]; unfold Sml; omega
theorem any_alike_no {r : List Bs} {nm : Bs} (h : r.any (fun x => alike x nm) = false) {t y : Bs} (ht : t ∈ r) (hy : alike t y = true) : alike y nm = false := by
  cases hq : alike y nm with
  | false => rfl
  | true =>
    have := List.any_eq_false.1 h t ht
    exact absurd (alike_trans hy hq) this
theorem rev_skip {f : Flt} {ss : List Bs} (htk : ∀ t ∈ ss, token t = true ∧ t.length ≤ 32) (h : (f.kind ≠ 5 ∧ f.kind ≠ 8) ∨ hasF [([108], joinS ss)] [108] (setNm f) = true) (hy : isSet f = true) : ∃ t ∈ ss, alike t (setNm f) = true := by
  rcases h with h | h
  · unfold isSet at hy
    simp only [bsimp] at hy
    omega
  · rw [has_join (fun t ht => (htk t ht).1)] at h
    obtain ⟨t, ht, ha⟩ := List.any_eq_true.1 h
    exact ⟨t, ht, ha⟩
theorem take_inv {fs : List Flt} {j : Nat} {p : Flt → Prop} (h : j < fs.length) (h1 : ∀ f ∈ fs.take j, p f) (h2 : p fs[j]) : ∀ f ∈ fs.take (j + 1), p f := by
  rw [take_succ_get h]
  intro f hf
  rcases List.mem_append.1 hf with hf | hf
  · exact h1 f hf
  · obtain rfl := List.mem_singleton.1 hf; exact h2
theorem rev_get {ls : List Flt} {xa : List Fx} (hN : NewOk ls ls.length xa) {ss : List Bs} (htk : ∀ t ∈ ss, token t = true ∧ t.length ≤ 32) {j : Nat} (hj : j < ls.length) (hcv : ∀ y ∈ ls.take j, isSet y = true → ∃ t ∈ ss, alike t (setNm y) = true) (hs : isSet ls[j] = true) (ha : hasF [([108], joinS ss)] [108] (setNm ls[j]) = false) (x : List Fld) :
    getF (backL x xa.reverse) (setNm ls[j]) = (ls[j].value, 1) := by
  rw [has_join (fun t ht => (htk t ht).1)] at ha
  have hm := hN.1
  rw [List.take_length] at hm
  have hl := new_len hN
  have hjx : xa[j]? = some (xa[j]'(by omega)) := List.getElem?_eq_getElem _
  have hf : (xa[j]'(by omega)).f = ls[j] := by
    have h1 : (xa.map (·.f))[j]? = ls[j]? := by rw [hm]
    rw [List.getElem?_map, hjx, List.getElem?_eq_getElem hj] at h1
    simpa using h1
  have := back_first (l := x) xa j _ hjx (by rw [hf]; exact hs) (fun y hy hys => by
    have hy2 : y.f ∈ ls.take j := by rw [← hm, ← List.map_take]; exact List.mem_map.2 ⟨y, hy, rfl⟩
    obtain ⟨t, ht, hta⟩ := hcv _ hy2 hys
    rw [hf]
    exact any_alike_no ha ht hta)
  rw [hf] at this
  exact this
set_option maxRecDepth 20000 in
set_option maxHeartbeats 400000 in
theorem lw_Reverse (Al : Option Addr) (e1 : Nat) (ls : List Flt) (A : Option Addr) (c : Nat) (x : List Fld) (hll : ls.length ≤ 1048576) (hsl : ∀ f ∈ ls, Sml f.name.length ∧ Sml f.value.length) (hx : OkfN ls.length x) (w : World) (RL : Rd kFl (fun _ => True) w Al e1 ls) (RX : Rd kFd (fun _ => True) w A c x) :
    Calls Try.prog 5 #[.slice Al ls.length e1, .slice A x.length c] w fun e w' => e = .returned (.bool true) ∧ St w No w' [] := by
  have hll' : Sml ls.length := Nat.le_trans hll (by decide)
  have hxl := hx.okf.len
  refine calls_of Try.func5 rfl Try.ntmps5 (by rfl) (K0 := [(0, _), (1, _)]) ⟨rfl, rfl, trivial⟩ ?_
  have H := St.init w
  refine WC.seq (WC.reg (WL.v (Ev.assign rfl) rfl (WL.nil (WQ.tn (WC.seq (WC.seq (WC.reg (WL.callS (vs := []) rfl cl9 rfl H (lw_anchor _) fun w1 H L => (WL.v (Ev.not rfl) rfl (WL.nil (WQ.tn (WC.cond rfl (fun h0 => ?_) (fun h0 => ?_)))))))))))))
  · exact absurd h0 (by simp)
  try simp only [bsimp] at h0
  refine WC.skip (WQ.tn (WC.seq (WC.seq (WC.reg (WL.v (Ev.move rfl) rfl (WL.callS (vs := [_]) rfl cl10 rfl H (lw_right _ _ _ _ hll' hsl _ (RL.st H)) fun w1 H L => (WL.v (Ev.not rfl) rfl (WL.nil (WQ.tn (WC.cond rfl (fun h1 => ?_) (fun h1 => ?_)))))))))))
  · try simp only [bsimp] at h1
    refine WC.seq (WC.reg (WL.v (Ev.assign rfl) rfl (WL.nil (WQ.tn (WC.ret (WQ.tn_ret (WQ.ret1 rfl rfl ?_)))))))
    exact ⟨rfl, H⟩
  simp only [bsimp] at h1
  have hokl : ∀ f ∈ ls, okFl f := fun f hf => okFl_right (List.all_eq_true.1 h1 f hf) (hsl f hf).1 (hsl f hf).2
  refine WC.skip (WQ.tn (WC.seq (WC.reg (WL.buildSlice0 Try.underlying22 sz29 H rfl fun b2 w1 hb2 H L => (WL.v (Ev.move rfl) rfl (WL.appendRd (i := 0) (k := kFl) Try.underlying22 sz29 by29 z29 rfl rfl rfl (RL.st H) H rfl (by omega) (by omega) rfl fun A1 c1 w1 H L => ?_))))))
  rw [Nat.zero_add, List.nil_append] at H
  rw [Nat.zero_add]
  refine WL.call (vs := [_, _]) rfl cl11 rfl (fl_New _ _ ls _ hll' hokl 0 _ (St.rdC kFl H 0 rfl)) ?_
  rintro _ w1 ⟨ca, da, Aa, pa, xa, rfl, hN, H1⟩
  replace H := H.tail.app H1
  replace H : St w No _ (chS ca da Aa pa 0 (w64 0) 0 xa ++ []) := H
  rw [List.append_nil] at H
  refine ⟨_, rfl, ?_⟩
  refine WL.v (Ev.assign rfl) rfl (WL.nil (WQ.tn (WC.seq (WC.seq (WC.reg (WL.v (Ev.move rfl) rfl (WL.v (Ev.eqnil Try.underlying26 rfl rfl) rfl (WL.nil (WQ.tn (WC.cond rfl (fun h2 => ?_) (fun h2 => ?_)))))))))))
  · exact absurd h2 (by simp)
  try simp only [bsimp] at h2
  refine WC.skip (WQ.tn (WC.seq (WC.reg (WL.v (Ev.move rfl) rfl (WL.buildSlice0 Try.underlying32 sz54 H rfl fun b4 w1 hb4 H L => (WL.v (Ev.move rfl) rfl (WL.appendRd (i := 0) (k := kFd) Try.underlying32 sz54 by54 z54 rfl rfl rfl (RX.st H) H rfl (by omega) (by omega) rfl fun A1 c1 w1 H L => ?_)))))))
  rw [Nat.zero_add, List.nil_append] at H
  rw [Nat.zero_add]
  obtain ⟨ys, hys⟩ := of_list (new_okx hN hokl)
  have hyl : ys.length = ls.length := by rw [← new_len hN, hys, List.length_map]
  have RXX := (H.rd (kFx da) 2 rfl).1
  rw [hys] at RXX
  have hresp := fl_Response ca da Aa pa ys _ (by rw [hyl]; exact hll') A1 c1 x _ (by rw [hyl]; exact hx) _ (by rw [hyl, ← new_len hN]; exact H.cell 1 rfl (o := 0) rfl) (Rd.of RXX) (St.rdC kFd H 0 rfl)
  rw [← hys] at hresp
  refine WL.call (vs := [_, _]) rfl cl14 rfl (hresp) ?_
  rintro _ w1 ⟨Ao, co, rfl, H1⟩
  replace H := (H.app H1).sub (σ' := [rowF Ao co (backL x xa.reverse)]) (List.Sublist.cons_cons _ (List.nil_sublist _))
  refine ⟨_, rfl, ?_⟩
  refine WL.v (Ev.assign rfl) rfl (WL.nil (WQ.tn (WC.seq ?_)))
  have hoko : Okf (backL x xa.reverse) := (backL_ok xa x 0 (new_okx hN hokl) (by rw [new_len hN]; exact hx)).okf
  refine WC.reg (WL.buildSlice0 Try.underlying50 sz9 H rfl fun b5 w1 hb5 H L => (WL.v (Ev.assign rfl) rfl (WL.nil (WQ.tn (WC.seq (WC.seq (WC.reg (WL.v (Ev.move rfl) rfl (WL.v (Ev.lensl Try.underlying22 rfl) rfl (WL.v (Ev.move rfl) rfl (WL.nil (WQ.tn (WC.block (WC.loop (γ := Nat × List Bs × Option Addr × Nat) (fun ⟨j, ss, As, cs⟩ => [(0, .slice Al ls.length e1), (1, .slice A x.length c), (6, .slice Ao (backL x xa.reverse).length co), (7, .slice As ss.length cs), (30, .slice Al ls.length e1), (31, .int .i64 (ls.length : Nat)), (32, .int .i64 (j : Nat))]) (fun ⟨j, ss, As, cs⟩ w1 => j ≤ ls.length ∧ ss.length ≤ j ∧ (∀ t ∈ ss, token t = true ∧ t.length ≤ 32) ∧ (∀ y ∈ ls.take j, isSet y = true → ∃ t ∈ ss, alike t (setNm y) = true) ∧ St w No w1 [.row 9 1 As ss.length cs (ss.flatMap kStr.enc), rowF Ao co (backL x xa.reverse)]) (fun ⟨j, ss, As, cs⟩ => ls.length - j) (0, [], some ⟨b5, 0, none⟩, 0) (⟨Nat.zero_le _, Nat.le_refl _, fun t ht => by simp at ht, fun y hy => by simp at hy, H⟩) ⟨rfl, rfl, rfl, rfl, rfl, rfl, rfl, trivial⟩ ?_))))))))))))))
  rintro ⟨j, ss, As, cs⟩ w1 ⟨hj, hsj, htk, hcv, H⟩
  refine WC.seq (WC.reg (WL.v (Ev.lssN rfl rfl) rfl (WL.nil (WQ.tn (WC.seq (WC.cond rfl (fun h4 => ?_) (fun h4 => ?_)))))))
  · simp only [bsimp] at h4
    obtain ⟨bq, oq, rfl, _, hc⟩ := (RL.st H).at h4
    have hj1 := getx h4
    refine WC.skip (WQ.tn (WC.seq (WC.block (WC.seq (WC.reg (WL.v (Ev.idx Try.underlying22 sz29 rfl rfl (by omega)) rfl (WL.v (Ev.loadA (vs := [_, _, _, _, _, _]) ag29 sz29 rfl ((rdCells hc hj1 0 rfl))) rfl (WL.alloc z29 rfl H rfl fun b6 w1 hb6 H L => (WL.store (i := 0) (vs := [_, _, _, _, _, _]) rfl rfl rfl sz29 rfl H rfl rfl fun w1 H L => (WL.nil (WQ.tn (WC.seq (WC.reg (WL.v (Ev.fieldAddr fa29_1 rfl) rfl (WL.v (Ev.load fl9 rfl (H.cell 0 rfl rfl)) rfl (WL.v (Ev.assign rfl) rfl (WL.nil (WQ.tn (WC.cut (γ := Unit) (fun _ => [(0, .slice (some ⟨bq, oq, none⟩) ls.length e1), (1, .slice A x.length c), (6, .slice Ao (backL x xa.reverse).length co), (7, .slice As ss.length cs), (9, .pointer (some ⟨b6, 0, none⟩)), (10, str (setNm ls[j])), (30, .slice (some ⟨bq, oq, none⟩) ls.length e1), (31, .int .i64 (ls.length : Nat)), (32, .int .i64 (j : Nat))]) (fun _ w1 => St w No w1 [.blk b6 (kFl.enc ls[j]) 29 (0, 0), .row 9 1 As ss.length cs (ss.flatMap kStr.enc), rowF Ao co (backL x xa.reverse)]) ?_ ?_)))))))))))))))))))
    · refine WC.seq (WC.reg (WL.v (Ev.fieldAddr fa29_0 rfl) rfl (WL.v (Ev.load fl3 rfl (H.cell 0 rfl rfl)) rfl (WL.v (Ev.eqi rfl rfl) rfl (WL.nil (WQ.tn (WC.cond rfl (fun h5 => ?_) (fun h5 => ?_))))))))
      · try simp only [bsimp] at h5
        refine WC.reg (WL.v (Ev.assign rfl) rfl (WL.nil ?_))
        exact WQ.meet (()) (H) ⟨rfl, rfl, rfl, rfl, rfl, (by unfold setNm; rw [if_pos h5]; rfl), rfl, rfl, rfl, trivial⟩
      try simp only [bsimp] at h5
      refine WC.skip ?_
      exact WQ.meet (()) (H) ⟨rfl, rfl, rfl, rfl, rfl, (by unfold setNm; rw [if_neg h5]; rfl), rfl, rfl, rfl, trivial⟩
    · rintro _ w1 H
      have hnl : Sml (setNm ls[j]).length := by unfold setNm; split; unfold Sml; decide; exact (hsl _ (List.getElem_mem h4)).1
      refine WC.seq (WC.seq (WC.reg (WL.v (Ev.fieldAddr fa29_0 rfl) rfl (WL.v (Ev.load fl3 rfl (H.cell 0 rfl rfl)) rfl (WL.v (Ev.nei rfl rfl) rfl (WL.v (Ev.move rfl) rfl (WL.g (Met.yes rfl rfl) (fun hg => Ev.fieldAddr fa29_0 rfl) rfl (WL.g (Met.yes rfl rfl) (fun hg => Ev.load fl3 ((evG.un rfl).ev hg) (H.cell 0 rfl rfl)) rfl (WL.g (Met.yes rfl rfl) (fun hg => Ev.nei ((evG.un rfl).ev hg) rfl) rfl (WL.v (Ev.and rfl rfl rfl) rfl (WL.v (Ev.move rfl) rfl (WL.g (Met.no rfl rfl) (fun hg => Ev.move rfl) rfl (WL.gcallS (vs := [_]) (Met.no rfl rfl) (fun hg => (evs_cons ((evG.un rfl).ev hg) rfl)) cl21 rfl H (fun hg => lw_joined As cs ss _ (by unfold Sml; omega) (by have := joinS_len (fun t ht => (htk t ht).2); unfold Sml; omega) _ (H.rd kStr 1 rfl).1) fun w1 H L => (WL.g (Met.no rfl rfl) (fun hg => Ev.build (vs := [_, _]) (ps := [(_, _), (_, _)]) pl54 z54 (evp_cons rfl (evp_cons ((evG.un rfl).ev hg) rfl)) rfl) rfl (WL.gbuildSlice (vs := [_, _]) (ps := [(_, _)]) (Met.no rfl rfl) Try.underlying32 sz54 z54 (fun hg => (evp_cons ((evG.un rfl).ev hg) rfl)) (by omega) (by omega) rfl (fun hg => rfl) H rfl fun b7 w1 H L hG => (WL.g (Met.no rfl rfl) (fun hg => Ev.move rfl) rfl (WL.gcallS (vs := [_, _, _]) (Met.no rfl rfl) (fun hg => (evs_cons ((evG.un rfl).ev hg) (evs_cons rfl (evs_cons ((evG.un rfl).ev hg) rfl)))) cl20 rfl H (fun hg => by have hR9 := Rd.ofCells (cs := [str [108], str (joinS ss)]) kFd (hG hg) [([108], joinS ss)] rfl (Nat.le_refl _); have q := ref07_Has (some ⟨b7, 0, none⟩) 1 [([108], joinS ss)] _ (oneHas htk (by omega) [108] (by unfold Sml; decide)).1 [108] (by unfold Sml; decide) (oneHas htk (by omega) [108] (by unfold Sml; decide)).2 (setNm ls[j]) hnl _ hR9; exact q) fun w1 H L => (WL.v (Ev.or rfl rfl rfl) rfl (WL.nil ?_)))))))))))))))))))
      refine WQ.tn (WC.cond rfl (fun h6 => ?_) (fun h6 => ?_))
      · simp only [bsimp] at h6
        have hy9 := rev_skip htk h6
        refine WC.exit (WQ.tn_exit (WQ.blk_here rfl (WQ.tn (WC.reg (WL.v (Ev.addN (b := 1) rfl rfl (by omega)) rfl (WL.v (Ev.move rfl) rfl (WL.nil ?_)))))))
        exact WQ.again ((j + 1, ss, As, cs)) (⟨by omega, by omega, htk, take_inv (p := fun y => isSet y = true → ∃ t ∈ ss, alike t (setNm y) = true) h4 hcv hy9, H.tail⟩) ⟨rfl, rfl, rfl, rfl, rfl, rfl, rfl, trivial⟩ (by first | omega | (dsimp only; omega))
      simp only [bsimp] at h6
      obtain ⟨h60, h61⟩ := h6
      have hs9 : isSet ls[j] = true := by unfold isSet; simp only [bsimp]; omega
      have hgf := rev_get hN htk h4 hcv hs9 h61 x
      have hnt := set_name (List.all_eq_true.1 h1 _ (List.getElem_mem h4)) hs9
      refine WC.skip (WQ.tn (WC.seq (WC.reg (WL.v (Ev.move rfl) rfl (WL.v (Ev.move rfl) rfl (WL.buildSlice (vs := [_]) (ps := [(_, _)]) Try.underlying50 sz9 z9 rfl (by omega) (by omega) rfl rfl H rfl fun b8 w1 hb8 H L => (WL.append (i := 2) (news := [_]) Try.underlying50 sz9 by9 z9 rfl (by omega) rfl rfl H rfl rfl (H.cells 0 rfl rfl) (by exact allOne_mem rfl) (by omega) (by omega) rfl fun A1 c1 w1 H L LA LB => ?_)))))))
      replace H := H.tail
      refine WL.v (Ev.assign rfl) rfl (WL.nil (WQ.tn (WC.seq (WC.reg (WL.v (Ev.move rfl) rfl (WL.v (Ev.move rfl) rfl (WL.call (vs := [_, _]) rfl cl19 rfl (ref07_Get Ao co (backL x xa.reverse) _ hoko (setNm ls[j]) hnl _ (St.rdC kFd H 2 rfl)) ?_)))))))
      rintro _ w1 ⟨rfl, H1⟩
      replace H := H.ext H1.gr
      refine ⟨_, rfl, ?_⟩
      refine WL.v (Ev.move rfl) rfl (WL.v (Ev.extract rfl rfl) rfl (WL.v (Ev.extract rfl rfl) rfl (WL.v (Ev.assign rfl) rfl (WL.v (Ev.assign rfl) rfl (WL.nil (WQ.tn (WC.seq (WC.reg (WL.v (Ev.move rfl) rfl (WL.v (Ev.neN (b := 1) rfl rfl) rfl (WL.v (Ev.move rfl) rfl (WL.g (Met.no rfl rfl) (fun hg => Ev.move rfl) rfl (WL.g (Met.no rfl rfl) (fun hg => Ev.fieldAddr fa29_2 rfl) rfl (WL.g (Met.no rfl rfl) (fun hg => Ev.load fl9 ((evG.un rfl).ev hg) (H.cell 0 rfl rfl)) rfl (WL.g (Met.no rfl rfl) (fun hg => Ev.nes ((evG.un rfl).ev hg) ((evG.un rfl).ev hg)) rfl (WL.v (Ev.or rfl rfl rfl) rfl (WL.nil ?_)))))))))))))))))
      refine WQ.tn (WC.cond rfl (fun h7 => ?_) (fun h7 => ?_))
      · exfalso
        rw [hgf] at h7
        simp at h7
      try simp only [bsimp] at h7
      refine WC.skip (WQ.blk (WQ.tn (WC.reg (WL.v (Ev.addN (b := 1) rfl rfl (by omega)) rfl (WL.v (Ev.move rfl) rfl (WL.nil ?_))))))
      exact WQ.again ((j + 1, ss ++ [setNm ls[j]], A1, c1)) (⟨by omega, by simp; omega, fun t ht => (List.mem_append.1 ht).elim (htk t) (fun h => by obtain rfl := List.mem_singleton.1 h; exact hnt), take_inv (p := fun y => isSet y = true → ∃ t ∈ ss ++ [setNm ls[j]], alike t (setNm y) = true) h4 (fun y hy hys => by obtain ⟨t, ht, hta⟩ := hcv y hy hys; exact ⟨t, by simp [ht], hta⟩) (fun _ => ⟨_, by simp, alike_refl _⟩), by rw [List.length_append, List.flatMap_append]; exact H.tail⟩) ⟨rfl, rfl, rfl, (by rw [List.length_append]; rfl), rfl, rfl, rfl, trivial⟩ (by first | omega | (dsimp only; omega))
  try simp only [bsimp] at h4
  refine WC.exit (WQ.tn_exit (WQ.loop_exit (WQ.blk_here rfl (WQ.tn (WC.seq (WC.reg (WL.v (Ev.move rfl) rfl (WL.v (Ev.lensl Try.underlying50 rfl) rfl (WL.v (Ev.gtrN (b := 0) rfl rfl) rfl (WL.v (Ev.move rfl) rfl (WL.g (Met.no rfl rfl) (fun hg => Ev.move rfl) rfl (WL.g (Met.no rfl rfl) (fun hg => Ev.move rfl) rfl (WL.gcallS (vs := [_, _]) (Met.no rfl rfl) (fun hg => (evs_cons ((evG.un rfl).ev hg) (evs_cons ((evG.un rfl).ev hg) rfl))) cl13 rfl H (fun hg => ref07_Same Ao co (backL x xa.reverse) _ A c x _ hoko.1 _ (St.rdC kFd H 1 rfl) (RX.st H)) fun w1 H L => (WL.v (Ev.or rfl rfl rfl) rfl (WL.v (Ev.assign rfl) rfl (WL.nil ?_))))))))))))))))
  refine WQ.tn (WC.ret (WQ.ret1 rfl rfl ?_))
  obtain rfl : j = ls.length := by omega
  rw [List.take_length] at hcv
  refine ⟨congrArg (fun b => Ending.returned (.bool b)) ?_, H.done⟩
  cases ss with
  | cons t r => simp
  | nil =>
    have hno : backL x xa.reverse = x := back_none xa (fun y hy => by
      cases hq : isSet y.f with
      | false => rfl
      | true =>
        have hm := hN.1
        rw [List.take_length] at hm
        obtain ⟨t, ht, _⟩ := hcv y.f (by rw [← hm]; exact List.mem_map.2 ⟨y, hy, rfl⟩) hq
        simp at ht)
    rw [hno]; simp
end Go.Proofs.Ytcmolgiccccnoaa
