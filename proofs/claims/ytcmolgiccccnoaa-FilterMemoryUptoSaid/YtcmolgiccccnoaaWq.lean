/- The walks of functions: what each comes to. -/
import Derived.Test.YtcmolgiccccnoaaWr
import Derived.Test.YtcmolgiccccnoaaProg
set_option linter.unusedVariables false
set_option linter.unusedSimpArgs false
namespace Go.Proofs.Ytcmolgiccccnoaa
open Go.RowKit Go.BK
theorem fa62_1 : fldB Try.prog 62 1 1 = true := by kernel_rfl
theorem sz38 : szOk Try.prog 38 5 := by unfold szOk; kernel_rfl
theorem ag38 : aggB Try.prog 38 = true := by kernel_rfl
theorem cl26 : callB Try.prog 26 = true := by kernel_rfl
theorem pl101 : plOf Try.prog 101 = some [(0, 1), (1, 1), (2, 1), (3, 1), (4, 1)] := by kernel_rfl
theorem z101 : zOk Try.prog 101 (.agg #[.int .i64 0, .int .i64 0, str [], .slice none 0 0, .pointer none]) := by unfold zOk; kernel_rfl
theorem fl96 : flatB Try.prog 96 = true := by kernel_rfl
theorem fl99 : flatB Try.prog 99 = true := by kernel_rfl
def OkfN (n : Nat) (l : List Fld) : Prop := Sml (l.length + n) ∧ ∀ x ∈ l, Sml x.1.length ∧ Sml x.2.length
theorem OkfN.okf {n : Nat} {l : List Fld} (h : OkfN n l) : Okf l := ⟨h.1.mono (by omega), h.2⟩
theorem OkfN.remove {n : Nat} {l : List Fld} (h : OkfN (n + 1) l) (nm : Bs) : OkfN n (removeF l nm) :=
  ⟨h.1.mono (by have := List.length_filter_le (fun f => !alike f.1 nm) l; unfold removeF; omega), fun y hy => h.2 y (List.mem_filter.1 hy).1⟩
theorem OkfN.set {n : Nat} {l : List Fld} (h : OkfN (n + 1) l) {nm v : Bs} (h1 : Sml nm.length) (h2 : Sml v.length) : OkfN n (setF l nm v) := by
  have hr := List.length_filter_le (fun f => !alike f.1 nm) l
  refine ⟨h.1.mono (by unfold setF removeF; rw [List.length_append]; simp only [List.length_cons, List.length_nil]; omega), fun y hy => ?_⟩
  rcases List.mem_append.1 hy with hy | hy
  · exact h.2 y (List.mem_filter.1 hy).1
  · obtain rfl := List.mem_singleton.1 hy
    exact ⟨h1, h2⟩
theorem OkfN.less {n : Nat} {l : List Fld} (h : OkfN (n + 1) l) : OkfN n l := ⟨h.1.mono (by omega), h.2⟩
theorem oneF_ok {x : Fx} (hx : okFx x) {n : Nat} {l : List Fld} (h : OkfN (n + 1) l) (s now size : Int) (m : Bs) : OkfN n (oneF x s now size m l).2.2.2 := by
  unfold oneF
  repeat' split
  all_goals first | exact h.set hx.fl.nm hx.fl.vl | exact h.remove _ | exact h.less
theorem oneF_f (x : Fx) (s now size : Int) (m : Bs) (l : List Fld) : (oneF x s now size m l).1.f = x.f ∧ (oneF x s now size m l).1.b = x.b := by
  unfold oneF
  repeat' split
  all_goals exact ⟨rfl, rfl⟩
theorem oneF_okx {x : Fx} (hx : okFx x) (s now size : Int) (m : Bs) (l : List Fld) : okFx (oneF x s now size m l).1 := by
  unfold oneF
  repeat' split
  all_goals first | exact hx | exact ⟨hx.fl, fun h => takeR_ok (hx.bk h) _ _⟩
theorem val_f {d : Nat} {x y : Fx} (h1 : x.f = y.f) (h2 : x.b = y.b) : val d x = val d y := by unfold val; rw [h1, h2]
theorem row_same {d : Nat} {A : Option Addr} {cap : Nat} {pre post : List Fx} {x y : Fx} (h1 : x.f = y.f) (h2 : x.b = y.b) : rowX d A cap (pre ++ x :: post) = rowX d A cap (pre ++ y :: post) := by
  have e : (kFx d).enc x = (kFx d).enc y := by show [_] = [_]; rw [val_f h1 h2]
  unfold rowX
  rw [List.flatMap_append, List.flatMap_append, List.flatMap_cons, List.flatMap_cons, e]
  simp
theorem runF_none {now size : Int} {m : Bs} {x : Fx} {r : List Fx} {s : Int} {l : List Fld} (h : (oneF x s now size m l).2.2.1 = none) :
    runF now size m (x :: r) s l = ((oneF x s now size m l).1 :: (runF now size m r (oneF x s now size m l).2.1 (oneF x s now size m l).2.2.2).1, (runF now size m r (oneF x s now size m l).2.1 (oneF x s now size m l).2.2.2).2) := by
  rw [runF, h]
theorem runF_some {now size : Int} {m : Bs} {x : Fx} {r : List Fx} {s : Int} {l : List Fld} {t : Int × List Fld × Bs} (h : (oneF x s now size m l).2.2.1 = some t) :
    runF now size m (x :: r) s l = ((oneF x s now size m l).1 :: r, (oneF x s now size m l).2.1, some t, l) := by
  rw [runF, h]
def inS (seen now : Int) : Prop := seen ≤ now ∧ now ≤ 1099511627776
instance (a b : Int) : Decidable (inS a b) := inferInstanceAs (Decidable (_ ∧ _))
@[reducible] def verZ (b : Nat) : Chunk := .blk b [.bool false, .int .i64 0, .slice none 0 0, str [], .slice none 0 0] 38 (0, 0)
/-- What Request comes to. -/
def ReqP (w w' : World) (base : Held) (c d : Nat) (A : Option Addr) (cap : Nat) (seen s dr now size : Int) (m : Bs) (xs : List Fx) (l : List Fld) (e : Ending) : Prop :=
  (inS seen now → ∃ dr', ((runF now size m xs s l).2.2.1 = none → ∃ A' c', e = .returned (.tuple #[.agg #[.bool false, .int .i64 0, .slice none 0 0, str [], .slice A' (runF now size m xs s l).2.2.2.length c'], .int .i64 0]) ∧ St w (Bk base) w' (rowF A' c' (runF now size m xs s l).2.2.2 :: chS c d A cap now (runF now size m xs s l).2.1 dr' (runF now size m xs s l).1)) ∧
    (∀ t, (runF now size m xs s l).2.2.1 = some t → ∃ Af cf, e = .returned (.tuple #[.agg #[.bool true, .int .i64 t.1, .slice Af t.2.1.length cf, str t.2.2, .slice none 0 0], .int .i64 0]) ∧ St w (Bk base) w' (rowF Af cf t.2.1 :: chS c d A cap now (runF now size m xs s l).2.1 dr' (runF now size m xs s l).1))) ∧
  (¬ inS seen now → e = .returned (.tuple #[.agg #[.bool false, .int .i64 0, .slice none 0 0, str [], .slice none 0 0], .int .i64 20]) ∧ St w (Bk base) w' (chS c d A cap seen s dr xs))
set_option maxRecDepth 20000 in
set_option maxHeartbeats 1000000 in
theorem fl_Request (c d : Nat) (A : Option Addr) (cap : Nat) (seen s dr : Int) (xs : List Fx) (hxs : ∀ x ∈ xs, okFx x) (hlen : Sml xs.length) (now size : Int) (hnow : I64 now) (m : Bs) (Al : Option Addr) (cl : Nat) (l : List Fld) (G : Nat → Prop) (hl : OkfN xs.length l) (w : World) (R : Rd kFd G w Al cl l) (hGd : ∀ b, G b → ¬ Bk (chS c d A cap seen s dr xs) b) (H : St w (Bk (chS c d A cap seen s dr xs)) w (chS c d A cap seen s dr xs)) :
    Calls Try.prog 16 #[.pointer (some ⟨c, 0, none⟩), .int .i64 now, str m, .slice Al l.length cl, .int .i64 size] w fun e w' => ReqP w w' (chS c d A cap seen s dr xs) c d A cap seen s dr now size m xs l e := by
  have hlen' := hlen.le
  refine calls_of Try.func16 rfl Try.ntmps16 (by rfl) (K0 := [(0, _), (1, _), (2, _), (3, _), (4, _)]) ⟨rfl, rfl, rfl, rfl, rfl, trivial⟩ (WC.seq (WC.reg (WL.alloc z38 rfl H rfl fun b1 w1 hb1 H L => (WL.v (Ev.assign rfl) rfl (WL.nil (WQ.tn (WC.seq (WC.seq (WC.reg (WL.v (Ev.move rfl) rfl (WL.v (Ev.move rfl) rfl (WL.v (Ev.nilCheck rfl) rfl (WL.v (Ev.fieldAddr fa62_1 rfl) rfl (WL.v (Ev.load fl3 rfl (H.cell 1 rfl rfl)) rfl (WL.v (Ev.lss rfl rfl) rfl (WL.v (Ev.move rfl) rfl (WL.g (Met.no rfl rfl) (fun hg => Ev.move rfl) rfl (WL.g (Met.no rfl rfl) (fun hg => Ev.gtr ((evG.un rfl).ev hg) rfl) rfl (WL.v (Ev.or rfl rfl rfl) rfl (WL.nil ?_))))))))))))))))))))
  refine WQ.tn (WC.cond rfl (fun h0 => ?_) (fun h0 => ?_))
  · try simp only [bsimp] at h0
    refine WC.seq (WC.reg (WL.v (Ev.build (vs := [_, _, _, _, _]) (ps := []) pl38 z38 rfl rfl) rfl (WL.store (i := 0) (vs := [_, _, _, _, _]) rfl rfl rfl sz38 rfl H rfl rfl fun w1 H L => (WL.v (Ev.assign rfl) rfl (WL.nil (WQ.tn (WC.ret (WQ.tn_ret (WQ.retC2 (vs := [_, _, _, _, _]) rfl rfl rfl ag38 sz38 (H.cells 0 rfl rfl) (⟨fun hh => absurd hh (fun hh => by unfold inS at hh; omega), fun _ => ⟨rfl, H.tail⟩⟩))))))))))
  simp only [bsimp] at h0
  have hin : inS seen now := h0
  refine WC.skip (WQ.tn (WC.seq (WC.reg (WL.v (Ev.move rfl) rfl (WL.v (Ev.move rfl) rfl (WL.v (Ev.nilCheck rfl) rfl (WL.v (Ev.fieldAddr fa62_1 rfl) rfl (WL.store (i := 1) (vs := [_]) rfl rfl rfl sz3 rfl H rfl rfl fun w1 H L => (WL.nil (WQ.tn (WC.seq (WC.reg (WL.v (Ev.move rfl) rfl (WL.v (Ev.move rfl) rfl (WL.v (Ev.move rfl) rfl (WL.v (Ev.move rfl) rfl (WL.call (vs := [_]) rfl cl26 rfl (fl_Clone Al cl l _ hl.okf _ (R.gr H.gr hGd)) ?_)))))))))))))))))
  rintro _ w1 ⟨A1, c1, rfl, H1⟩
  replace H := H.app H1
  refine ⟨_, rfl, ?_⟩
  refine WL.v (Ev.build (vs := [_, _, _, _, _]) (ps := [(_, _), (_, _), (_, _), (_, _)]) pl101 z101 rfl rfl) rfl (WL.box (t := 101) (cs := [_, _, _, _, _]) rfl rfl H rfl fun b2 w1 hb2 H L => (WL.v (Ev.assign rfl) rfl (WL.nil (WQ.tn (WC.seq (WC.seq (WC.reg (WL.v (Ev.move rfl) rfl (WL.v (Ev.nilCheck rfl) rfl (WL.v (Ev.fieldAddr fa62_0 rfl) rfl (WL.v (Ev.load fl60 rfl (H.cell 3 rfl rfl)) rfl (WL.v (Ev.lensl Try.underlying60 rfl) rfl (WL.v (Ev.move rfl) rfl (WL.nil (WQ.tn (WC.block (WC.loop (γ := Nat × List Fx × List Fx × Int × Int × List Fld × Option Addr × Nat) (fun ⟨j, pre, post, s1, dr1, l1, A1, c1⟩ => [(10, .pointer (some ⟨b1, 0, none⟩)), (12, .pointer (some ⟨b2, 0, none⟩)), (40, .slice A xs.length cap), (41, .int .i64 (xs.length : Nat)), (42, .int .i64 (j : Nat))]) (fun ⟨j, pre, post, s1, dr1, l1, A1, c1⟩ w1 => pre.length = j ∧ (pre ++ post).length = xs.length ∧ runF now size m xs s l = (pre ++ (runF now size m post s1 l1).1, (runF now size m post s1 l1).2) ∧ (∀ x ∈ post, okFx x) ∧ OkfN post.length l1 ∧ St w (Bk (chS c d A cap seen s dr xs)) w1 (visC b2 now size m A1 l1.length c1 none :: rowF A1 c1 l1 :: verZ b1 :: chS c d A cap now s1 dr1 (pre ++ post))) (fun ⟨j, pre, post, s1, dr1, l1, A1, c1⟩ => post.length) (0, [], xs, s, dr, l, A1, c1) (⟨rfl, rfl, rfl, hxs, hl, H⟩) ⟨rfl, rfl, rfl, rfl, rfl, trivial⟩ ?_)))))))))))))))))
  rintro ⟨j, pre, post, s1, dr1, l1, A1, c1⟩ w1 ⟨hj, hpl, hrun, hpo, hlo, H⟩
  refine WC.seq (WC.reg (WL.v (Ev.lssN rfl rfl) rfl (WL.nil (WQ.tn (WC.seq (WC.cond rfl (fun h2 => ?_) (fun h2 => ?_)))))))
  · simp only [bsimp] at h2
    obtain ⟨x, post, rfl⟩ : ∃ x r, post = x :: r := by
      cases post with
      | nil => simp at hpl; omega
      | cons x r => exact ⟨x, r, rfl⟩
    have RX := (H.rd (kFx d) 4 rfl).1
    obtain ⟨bk, off, rfl, hG9, hc⟩ := RX.at (j := j) (by omega)
    have hj1 : (pre ++ x :: post)[j]? = some x := by subst hj; simp
    refine WC.skip (WQ.tn (WC.seq (WC.block (WC.seq (WC.reg (WL.v (Ev.idx Try.underlying60 sz96 rfl rfl (by omega)) rfl (WL.v (Ev.load fl96 rfl (hc _ _ hj1 0 _ rfl)) rfl (WL.v (Ev.assign rfl) rfl (WL.nil (WQ.tn (WC.seq (WC.reg (WL.v (Ev.move rfl) rfl (WL.v (Ev.move rfl) rfl ?_))))))))))))))
    have HB := H.perm (σ' := (rowF A1 c1 l1 :: visC b2 now size m A1 l1.length c1 none :: diC d s1 dr1 :: bk1 x) ++ (verZ b1 :: chC c (some ⟨bk, off, none⟩) (pre ++ x :: post).length cap now :: rowX d (some ⟨bk, off, none⟩) cap (pre ++ x :: post) :: (bks pre ++ bks post))) (by classical (rw [List.perm_iff_count]; intro q; simp only [List.count_append, List.count_cons, List.count_nil, bks, List.flatMap_append, List.flatMap_cons, litSlow, litFault]; omega))
    obtain ⟨ty, u, fn, rv, hv, hmt, hcb, hC⟩ := fl_on x (hpo x (by simp)) b2 now size hnow m A1 c1 l1 hlo.okf d s1 dr1 _ (HB.sub (List.sublist_append_left _ _)).local
    refine WL.invoke (vs := [_]) (by rw [← hv]; rfl) rfl hmt hcb rfl hC ?_
    rintro _ w1 ⟨rfl, rp, A2, n2, c2, dr2, τ, H1, hgo, hstop⟩
    rw [row_same (d := d) (A := some ⟨bk, off, none⟩) (cap := cap) (pre := pre) (post := post) (oneF_f x s1 now size m l1).1.symm (oneF_f x s1 now size m l1).2.symm, show (pre ++ x :: post).length = (pre ++ (oneF x s1 now size m l1).1 :: post).length by simp] at HB
    replace H := (HB.frame H1).perm (σ' := visC b2 now size m A2 n2 c2 rp :: verZ b1 :: chC c (some ⟨bk, off, none⟩) (pre ++ (oneF x s1 now size m l1).1 :: post).length cap now :: rowX d (some ⟨bk, off, none⟩) cap (pre ++ (oneF x s1 now size m l1).1 :: post) :: diC d (oneF x s1 now size m l1).2.1 dr2 :: (bks (pre ++ (oneF x s1 now size m l1).1 :: post) ++ τ)) (by classical (rw [List.perm_iff_count]; intro q; simp only [List.count_append, List.count_cons, List.count_nil, bks, List.flatMap_append, List.flatMap_cons, litSlow, litFault]; omega))
    refine ⟨_, rfl, ?_⟩
    refine WL.nil (WQ.tn (WC.seq (WC.reg (WL.v (Ev.move rfl) rfl (WL.v (Ev.nilCheck rfl) rfl (WL.v (Ev.fieldAddr fa101_4 rfl) rfl (WL.v (Ev.load fl99 rfl (H.cell 0 rfl rfl)) rfl (WL.v (Ev.nenil Try.underlying99 rfl rfl) rfl (WL.nil (WQ.tn (WC.cond rfl (fun h3 => ?_) (fun h3 => ?_))))))))))))
    · obtain ⟨t, hst⟩ : ∃ t, (oneF x s1 now size m l1).2.2.1 = some t := by
        cases hh : (oneF x s1 now size m l1).2.2.1 with
        | none => have := (hgo hh).1; rw [this] at h3; cases h3
        | some t => exact ⟨t, rfl⟩
      obtain ⟨rb, Af, cf, rfl, rfl⟩ := hstop t hst
      replace H := H.perm (σ' := verC rb t.1 Af t.2.1.length cf t.2.2 :: rowF Af cf t.2.1 :: visC b2 now size m A2 n2 c2 (some ⟨rb, 0, none⟩) :: verZ b1 :: chC c (some ⟨bk, off, none⟩) (pre ++ (oneF x s1 now size m l1).1 :: post).length cap now :: rowX d (some ⟨bk, off, none⟩) cap (pre ++ (oneF x s1 now size m l1).1 :: post) :: diC d (oneF x s1 now size m l1).2.1 dr2 :: bks (pre ++ (oneF x s1 now size m l1).1 :: post)) (by classical (rw [List.perm_iff_count]; intro q; simp only [List.count_append, List.count_cons, List.count_nil, bks, List.flatMap_append, List.flatMap_cons, litSlow, litFault]; omega))
      refine WC.seq (WC.reg (WL.v (Ev.move rfl) rfl (WL.v (Ev.nilCheck rfl) rfl (WL.v (Ev.fieldAddr fa101_4 rfl) rfl (WL.v (Ev.load fl99 rfl (H.cell 2 rfl rfl)) rfl (WL.v (Ev.nilCheck rfl) rfl (WL.v (Ev.loadA (vs := [_, _, _, _, _]) ag38 sz38 rfl (H.cells 0 rfl rfl)) rfl (WL.store (i := 3) (vs := [_, _, _, _, _]) rfl rfl rfl sz38 rfl H rfl rfl fun w1 H L => (WL.v (Ev.assign rfl) rfl (WL.nil (WQ.tn (WC.ret (WQ.blk_ret (WQ.tn_ret (WQ.loop_ret (WQ.blk_ret (WQ.tn_ret (WQ.retC2 (vs := [_, _, _, _, _]) rfl rfl rfl ag38 sz38 (H.cells 3 rfl rfl) (⟨fun _ => ⟨dr2, fun hn => ?_, fun t' ht => ?_⟩, fun hh => absurd hin hh⟩)))))))))))))))))))
      · rw [hrun, runF_some hst] at hn; cases hn
      · rw [hrun, runF_some hst] at ht ⊢
        obtain rfl : t = t' := by simpa using ht
        exact ⟨Af, cf, rfl, H.sub (List.Sublist.cons _ (List.Sublist.cons_cons _ (List.Sublist.cons _ (List.Sublist.cons _ (List.Sublist.refl _)))))⟩
    have hst : (oneF x s1 now size m l1).2.2.1 = none := by
      cases hh : (oneF x s1 now size m l1).2.2.1 with
      | none => rfl
      | some t => obtain ⟨rb, Af, cf, hq, _⟩ := hstop t hh; rw [hq] at h3; cases h3
    obtain ⟨rfl, rfl, rfl⟩ := hgo hst
    have ep : pre ++ (oneF x s1 now size m l1).1 :: post = (pre ++ [(oneF x s1 now size m l1).1]) ++ post := by simp
    replace H := H.perm (σ' := visC b2 now size m A2 (oneF x s1 now size m l1).2.2.2.length c2 none :: rowF A2 c2 (oneF x s1 now size m l1).2.2.2 :: verZ b1 :: chS c d (some ⟨bk, off, none⟩) cap now (oneF x s1 now size m l1).2.1 dr2 (pre ++ (oneF x s1 now size m l1).1 :: post)) (by classical (rw [List.perm_iff_count]; intro q; simp only [List.count_append, List.count_cons, List.count_nil, bks, List.flatMap_append, List.flatMap_cons, litSlow, litFault]; omega))
    rw [ep] at H
    refine WC.skip (WQ.blk (WQ.tn (WC.reg (WL.v (Ev.addN (b := 1) rfl rfl (by omega)) rfl (WL.v (Ev.move rfl) rfl (WL.nil ?_))))))
    exact WQ.again ((j + 1, pre ++ [(oneF x s1 now size m l1).1], post, (oneF x s1 now size m l1).2.1, dr2, (oneF x s1 now size m l1).2.2.2, A2, c2)) (⟨by simp; omega, by simp at hpl ⊢; omega, by rw [hrun, runF_none hst]; simp, fun y hy => hpo y (by simp [hy]), oneF_ok (hpo x (by simp)) (by simpa using hlo) _ _ _ _, H⟩) ⟨rfl, rfl, rfl, rfl, rfl, trivial⟩ (by simp)
  try simp only [bsimp] at h2
  refine WC.exit (WQ.tn_exit (WQ.loop_exit (WQ.blk_here rfl (WQ.tn (WC.seq (WC.reg (WL.v (Ev.move rfl) rfl (WL.v (Ev.nilCheck rfl) rfl (WL.v (Ev.fieldAddr fa101_3 rfl) rfl (WL.v (Ev.load fl32 rfl (H.cell 0 rfl rfl)) rfl (WL.v (Ev.build (vs := [_, _, _, _, _]) (ps := [(_, _)]) pl38 z38 rfl rfl) rfl (WL.store (i := 2) (vs := [_, _, _, _, _]) rfl rfl rfl sz38 rfl H rfl rfl fun w1 H L => (WL.v (Ev.assign rfl) rfl (WL.nil (WQ.tn (WC.ret (WQ.retC2 (vs := [_, _, _, _, _]) rfl rfl rfl ag38 sz38 (H.cells 2 rfl rfl) ?_)))))))))))))))))
  obtain rfl : post = [] := by
    cases post with
    | nil => rfl
    | cons x r => simp at hpl; omega
  refine ⟨fun _ => ⟨dr1, fun hn => ?_, fun t' ht => ?_⟩, fun hh => absurd hin hh⟩
  · rw [hrun]; simp only [runF]
    exact ⟨A1, c1, rfl, H.sub (List.Sublist.cons _ (List.Sublist.cons_cons _ (List.Sublist.cons _ (List.Sublist.refl _))))⟩
  · rw [hrun] at ht; simp [runF] at ht
end Go.Proofs.Ytcmolgiccccnoaa
