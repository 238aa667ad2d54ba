/- The walks of functions: what each comes to. -/
import Derived.Test.YtcmolgiccccnoaaWy
import Derived.Test.YtcmolgiccccnoaaProg
set_option linter.unusedVariables false
set_option linter.unusedSimpArgs false
namespace Go.Proofs.Ytcmolgiccccnoaa
open Go.RowKit Go.BK
theorem pl86 : plOf Try.prog 86 = some [(0, 1), (1, 1), (2, 2), (4, 1)] := by kernel_rfl
theorem z86 : zOk Try.prog 86 (.agg #[.slice none 0 0, .slice none 0 0, .int .u64 0, .int .i64 0, .int .i64 0]) := by unfold zOk; kernel_rfl
theorem cl25 : callB Try.prog 25 = true := by kernel_rfl
theorem z87 : zOk Try.prog 87 (.pointer none) := by unfold zOk; kernel_rfl
theorem by87 : byOk Try.prog 87 8 := by unfold byOk; kernel_rfl
theorem sz81 : szOk Try.prog 81 1 := by unfold szOk; kernel_rfl
theorem back_drop {l : List Fld} {xs : List Fx} {q : Nat} (h : q < xs.length) : backL l (xs.drop q).reverse = backR (backL l (xs.drop (q + 1)).reverse) xs[q] := by
  rw [List.drop_eq_getElem_cons h, List.reverse_cons, backL_snoc]
theorem backR8 {l : List Fld} {x : Fx} (h : x.f.kind = 8) : backR l x = setF l x.f.name x.f.value := by unfold backR; rw [if_neg (by omega), if_pos h]
theorem backR5 {l : List Fld} {x : Fx} (h : x.f.kind = 5) : backR l x = setF l litAllowOrigin x.f.value := by unfold backR; rw [if_pos h]
theorem backR0 {l : List Fld} {x : Fx} (h : ¬ x.f.kind = 8) (h' : ¬ x.f.kind = 5) : backR l x = l := by unfold backR; rw [if_neg h', if_neg h]
set_option maxRecDepth 20000 in
theorem r6_Response (c0 : Nat) (Al : Option Addr) (cl : Nat) (xs : List Fx) (hxs : ∀ x ∈ xs, okFx x) (hlen : Sml xs.length) (GL : Nat → Prop) (A : Option Addr) (c1 : Nat) (l : List Fld) (G : Nat → Prop) (hl : OkfN xs.length l) (w : World) (hc : w.cell? ⟨c0, 0, none⟩ = some (.slice Al xs.length cl)) (RL : Rd kFl GL w Al cl (xs.map (·.f))) (R : Rd kFd G w A c1 l) :
    Calls Try.prog 15 #[.pointer (some ⟨c0, 0, none⟩), .slice A l.length c1] w fun e w' => ∃ A' c', e = .returned (.slice A' (backL l xs.reverse).length c') ∧ St w No w' [rowF A' c' (backL l xs.reverse)] := by
  have hlen' := hlen.le
  have hllen := hl.okf.len
  refine calls_of Try.func15 rfl Try.ntmps15 (by rfl) (K0 := [(0, _), (1, _)]) ⟨rfl, rfl, trivial⟩ ?_
  have H := St.init w
  refine WC.seq (WC.reg (WL.v (Ev.assign rfl) rfl (WL.nil (WQ.tn (WC.seq (WC.reg (WL.buildSlice0 Try.underlying32 sz54 H rfl fun b1 w1 hb1 H L => (WL.v (Ev.move rfl) rfl (WL.appendRd (i := 0) (k := kFd) Try.underlying32 sz54 by54 z54 rfl rfl rfl (R.st H) H rfl (by omega) (by omega) rfl fun A1 c1 w1 H L => ?_)))))))))
  rw [Nat.zero_add, List.nil_append] at H
  rw [Nat.zero_add]
  refine WL.v (Ev.assign rfl) rfl (WL.nil (WQ.tn (WC.seq (WC.seq (WC.reg (WL.v (Ev.move rfl) rfl (WL.v (Ev.nilCheck rfl) rfl (WL.v (Ev.fieldAddr fa86_0 rfl) rfl (WL.v (Ev.load fl22 rfl (H.old hc)) rfl (WL.v (Ev.lensl Try.underlying22 rfl) rfl (WL.v (Ev.sub rfl rfl (by unfold I64; omega)) rfl (WL.v (Ev.assign rfl) rfl (WL.nil (WQ.tn (WC.block (WC.loop (γ := Nat × List Fld × Option Addr × Nat) (fun ⟨m, l1, A1, c2⟩ => [(0, .pointer (some ⟨c0, 0, none⟩)), (1, .slice A1 l1.length c2), (5, .int .i64 ((m : Nat) - 1 : Int))]) (fun ⟨m, l1, A1, c2⟩ w1 => m ≤ xs.length ∧ backL l (xs.drop m).reverse = l1 ∧ OkfN m l1 ∧ St w No w1 [rowF A1 c2 l1]) (fun ⟨m, l1, A1, c2⟩ => m) (xs.length, l, A1, c1) (⟨Nat.le_refl _, by rw [List.drop_length]; rfl, hl, H⟩) ⟨rfl, rfl, rfl, trivial⟩ ?_))))))))))))))))
  rintro ⟨m, l1, A1, c2⟩ w1 ⟨hm, hl1, hlo, H⟩
  refine WC.seq (WC.seq (WC.reg (WL.v (Ev.move rfl) rfl (WL.v (Ev.geq rfl rfl) rfl (WL.nil (WQ.tn (WC.cond rfl (fun h1 => ?_) (fun h1 => ?_))))))))
  · simp only [bsimp] at h1
    obtain ⟨q, rfl⟩ : ∃ q, m = q + 1 := ⟨m - 1, by omega⟩
    dsimp only
    rw [show ((q + 1 : Nat) : Int) - 1 = (q : Int) by omega]
    have hq : q < xs.length := by omega
    obtain ⟨bl, ol, rfl, hGl, hcl⟩ := RL.at (j := q) (by simpa using hq)
    have hjl : (xs.map (·.f))[q]? = some xs[q].f := by simp [hq]
    have hnm := (hxs _ (List.getElem_mem hq)).fl.nm
    refine WC.skip (WQ.tn (WC.seq (WC.block (WC.seq (WC.reg (WL.v (Ev.move rfl) rfl (WL.v (Ev.nilCheck rfl) rfl (WL.v (Ev.fieldAddr fa86_0 rfl) rfl (WL.v (Ev.load fl22 rfl (H.old hc)) rfl (WL.v (Ev.move rfl) rfl (WL.v (Ev.idx Try.underlying22 sz29 rfl rfl (by omega)) rfl (WL.v (Ev.loadA (vs := [_, _, _, _, _, _]) ag29 sz29 rfl (H.olds (rdCells hcl hjl 0 rfl))) rfl (WL.alloc z29 rfl H rfl fun b2 w1 hb2 H L => (WL.store (i := 0) (vs := [_, _, _, _, _, _]) rfl rfl rfl sz29 rfl H rfl rfl fun w1 H L => (WL.nil (WQ.tn (WC.seq (WC.seq (WC.reg (WL.v (Ev.fieldAddr fa29_0 rfl) rfl (WL.v (Ev.load fl3 rfl (H.cell 0 rfl rfl)) rfl (WL.v (Ev.eqi rfl rfl) rfl (WL.nil ?_)))))))))))))))))))))))
    refine WQ.tn (WC.cond rfl (fun h2 => ?_) (fun h2 => ?_))
    · try simp only [bsimp] at h2
      refine WC.reg (WL.v (Ev.move rfl) rfl (WL.v (Ev.fieldAddr fa29_1 rfl) rfl (WL.v (Ev.load fl9 rfl (H.cell 0 rfl rfl)) rfl (WL.v (Ev.fieldAddr fa29_2 rfl) rfl (WL.v (Ev.load fl9 rfl (H.cell 0 rfl rfl)) rfl (WL.call (vs := [_, _, _]) rfl cl28 rfl (ref07_Set A1 c2 l1 _ hlo.okf xs[q].f.name xs[q].f.value hnm _ (H.rd kFd 1 rfl).1) ?_))))))
      rintro _ w1 ⟨A2, c3, rfl, H1⟩
      replace H := H.app H1
      refine ⟨_, rfl, ?_⟩
      refine WL.v (Ev.assign rfl) rfl (WL.nil (WQ.tn (WC.seq (WC.reg (WL.v (Ev.fieldAddr fa29_0 rfl) rfl (WL.v (Ev.load fl3 rfl (H.cell 1 rfl rfl)) rfl (WL.v (Ev.eqi rfl rfl) rfl (WL.nil (WQ.tn (WC.cond rfl (fun h3 => ?_) (fun h3 => ?_)))))))))))
      · simp only [bsimp] at h3
        exfalso; omega
      try simp only [bsimp] at h3
      refine WC.skip (WQ.blk (WQ.tn (WC.reg (WL.v (Ev.move rfl) rfl (WL.v (Ev.sub rfl rfl (by unfold I64; omega)) rfl (WL.v (Ev.assign rfl) rfl (WL.nil ?_)))))))
      exact WQ.again ((q, backR l1 xs[q], A2, c3)) (⟨by omega, by rw [back_drop hq, hl1], backR_ok (hxs _ (List.getElem_mem hq)) hlo, by rw [backR8 h2]; exact H.sub (List.Sublist.cons_cons _ (List.Sublist.cons _ (List.Sublist.cons _ (List.nil_sublist _))))⟩) ⟨rfl, (by rw [backR8 h2]; rfl), rfl, trivial⟩ (by first | omega | (dsimp only; omega))
    try simp only [bsimp] at h2
    refine WC.skip (WQ.tn (WC.seq (WC.reg (WL.v (Ev.fieldAddr fa29_0 rfl) rfl (WL.v (Ev.load fl3 rfl (H.cell 0 rfl rfl)) rfl (WL.v (Ev.eqi rfl rfl) rfl (WL.nil (WQ.tn (WC.cond rfl (fun h3 => ?_) (fun h3 => ?_))))))))))
    · try simp only [bsimp] at h3
      refine WC.reg (WL.v (Ev.move rfl) rfl (WL.v (Ev.fieldAddr fa29_2 rfl) rfl (WL.v (Ev.load fl9 rfl (H.cell 0 rfl rfl)) rfl (WL.call (vs := [_, _, _]) rfl cl28 rfl (ref07_Set A1 c2 l1 _ hlo.okf litAllowOrigin xs[q].f.value (by unfold Sml; decide) _ (H.rd kFd 1 rfl).1) ?_))))
      rintro _ w1 ⟨A2, c3, rfl, H1⟩
      replace H := H.app H1
      refine ⟨_, rfl, ?_⟩
      refine WL.v (Ev.assign rfl) rfl (WL.nil (WQ.blk (WQ.tn (WC.reg (WL.v (Ev.move rfl) rfl (WL.v (Ev.sub rfl rfl (by unfold I64; omega)) rfl (WL.v (Ev.assign rfl) rfl (WL.nil ?_))))))))
      exact WQ.again ((q, backR l1 xs[q], A2, c3)) (⟨by omega, by rw [back_drop hq, hl1], backR_ok (hxs _ (List.getElem_mem hq)) hlo, by rw [backR5 h3]; exact H.sub (List.Sublist.cons_cons _ (List.Sublist.cons _ (List.Sublist.cons _ (List.nil_sublist _))))⟩) ⟨rfl, (by rw [backR5 h3]; rfl), rfl, trivial⟩ (by first | omega | (dsimp only; omega))
    try simp only [bsimp] at h3
    refine WC.skip (WQ.blk (WQ.tn (WC.reg (WL.v (Ev.move rfl) rfl (WL.v (Ev.sub rfl rfl (by unfold I64; omega)) rfl (WL.v (Ev.assign rfl) rfl (WL.nil ?_)))))))
    exact WQ.again ((q, backR l1 xs[q], A1, c2)) (⟨by omega, by rw [back_drop hq, hl1], backR_ok (hxs _ (List.getElem_mem hq)) hlo, by rw [backR0 h2 h3]; exact H.tail⟩) ⟨rfl, (by rw [backR0 h2 h3]; rfl), rfl, trivial⟩ (by first | omega | (dsimp only; omega))
  try simp only [bsimp] at h1
  refine WC.exit (WQ.tn_exit (WQ.loop_exit (WQ.blk_here rfl (WQ.tn (WC.seq (WC.reg (WL.v (Ev.move rfl) rfl (WL.v (Ev.assign rfl) rfl (WL.nil (WQ.tn (WC.ret (WQ.ret1 rfl rfl ?_))))))))))))
  obtain rfl : m = 0 := by omega
  rw [List.drop_zero] at hl1
  subst hl1
  exact ⟨A1, c2, rfl, H⟩
def newR (f : Flt) (b : Nat) : Fx := ⟨f, b, if goodB f.n f.m f.k then newB f.n f.m f.k 0 else ⟨1, 1, 1, 0, 0, 0⟩⟩
def NewOkR (fs : List Flt) (j : Nat) (xs : List Fx) : Prop := xs.map (·.f) = fs.take j ∧ ∀ x ∈ xs, x = newR x.f x.b
theorem NewOkR.len {fs : List Flt} {j : Nat} {xs : List Fx} (h : NewOkR fs j xs) (hj : j ≤ fs.length) : xs.length = j := by
  have := congrArg List.length h.1
  rw [List.length_map, List.length_take] at this; omega
theorem NewOkR.snoc {fs : List Flt} {j : Nat} {xs : List Fx} (h : NewOkR fs j xs) (hj : j < fs.length) (b : Nat) : NewOkR fs (j + 1) (xs ++ [newR fs[j] b]) := by
  refine ⟨by rw [List.map_append, h.1, take_succ_get hj]; rfl, fun x hx => ?_⟩
  rcases List.mem_append.1 hx with hx | hx
  · exact h.2 x hx
  · obtain rfl := List.mem_singleton.1 hx
    rfl
theorem ref03_NewAny (m f e : Int) (w : World) : Calls Try.prog 25 #[.int .i64 m, .int .i64 f, .int .i64 e, .int .i64 0] w fun r w' => ∃ rp er, r = .returned (.tuple #[rp, .int .i64 er]) ∧ Ext w w' ∧ (goodB m f e → er = 0 ∧ ∃ B, rp = .pointer (some ⟨B, 0, none⟩) ∧ St w No w' [.blk B (encB (newB m f e 0)) 91 (0, 0)]) ∧ (¬ goodB m f e → er = 30 ∧ rp = .pointer none) := by
  by_cases hg : goodB m f e
  · refine (ref03_New m f e hg w).mono ?_
    rintro r w' ⟨B, rfl, H⟩
    exact ⟨_, _, rfl, H.gr, fun _ => ⟨rfl, B, rfl, H⟩, fun h => absurd hg h⟩
  · refine (ref03_NewBad m f e hg w).mono ?_
    rintro r w' ⟨rfl, H⟩
    exact ⟨_, _, rfl, H.gr, fun h => absurd h hg, fun _ => ⟨rfl, rfl⟩⟩
theorem rS_snoc {w0 w : World} {S : Nat → Prop} {c cl n cb : Nat} {Al Ab : Option Addr} {s dr seen : Int} {xs : List Fx} {f : Flt} {B : Nat} {st : Bst} (hs : (newR f B).s = st)
    (H : St w0 S w (rC c Al n cl Ab (xs.length + 1) cb s dr seen :: .row 87 1 Ab (xs.length + 1) cb (xs.flatMap kBp.enc ++ [.pointer (some ⟨B, 0, none⟩)]) :: .blk B (encB st) 91 (0, 0) :: bksR xs)) :
    St w0 S w (rC c Al n cl Ab (xs ++ [newR f B]).length cb s dr seen :: rowB Ab cb (xs ++ [newR f B]) :: bksR (xs ++ [newR f B])) := by
  have e1 : (xs ++ [newR f B]).length = xs.length + 1 := by simp
  have e2 : (xs ++ [newR f B]).flatMap kBp.enc = xs.flatMap kBp.enc ++ [.pointer (some ⟨B, 0, none⟩)] := by rw [flat_snoc]; rfl
  have e3 : bksR (xs ++ [newR f B]) = bksR xs ++ [.blk B (encB st) 91 (0, 0)] := by unfold bksR; rw [List.map_append, ← hs]; rfl
  unfold rowB
  rw [e1, e2, e3]
  exact H.perm (by rw [← List.cons_append, ← List.cons_append]; exact (List.perm_append_comm (l₁ := _ :: _ :: bksR xs) (l₂ := [_])).trans ((List.Perm.swap _ _ _).trans (List.Perm.cons _ (List.Perm.swap _ _ _))))
set_option maxRecDepth 20000 in
theorem r6_New (A0 : Option Addr) (c0 : Nat) (fs : List Flt) (G : Nat → Prop) (hl : Sml fs.length) (seed : Int) (w : World) (R : Rd kFl G w A0 c0 fs) :
    Calls Try.prog 12 #[.slice A0 fs.length c0, .int .i64 seed] w fun e w' => ∃ c Ab cb xs, e = .returned (.pointer (some ⟨c, 0, none⟩)) ∧ NewOkR fs fs.length xs ∧ St w No w' (rS c A0 c0 Ab cb (w64 seed) 0 0 xs) := by
  have hlen := hl.le
  refine calls_of Try.func12 rfl Try.ntmps12 (by rfl) (K0 := [(0, _), (1, _)]) ⟨rfl, rfl, trivial⟩ ?_
  have H := St.init w
  refine WC.seq (WC.reg (WL.v (Ev.assign rfl) rfl (WL.nil (WQ.tn (WC.seq (WC.reg (WL.v (Ev.move rfl) rfl (WL.v (Ev.build (vs := [_, _, _, _, _]) (ps := [(_, _)]) pl86 z86 rfl rfl) rfl (WL.box (t := 86) (cs := [_, _, _, _, _]) rfl rfl H rfl fun b1 w1 hb1 H L => (WL.v (Ev.assign rfl) rfl (WL.nil (WQ.tn (WC.seq (WC.reg (WL.v (Ev.move rfl) rfl (WL.v (Ev.move rfl) rfl (WL.v (Ev.conv Try.underlying3 Try.underlying82 rfl) rfl (WL.v (Ev.nilCheck rfl) rfl (WL.v (Ev.fieldAddr fa86_2 rfl) rfl (WL.v (Ev.fieldAddr fa84_0 rfl) rfl (WL.store (i := 0) (vs := [_]) rfl rfl rfl sz82 rfl H rfl rfl fun w1 H L => (WL.nil ?_))))))))))))))))))))))
  refine WQ.tn (WC.seq (WC.seq (WC.reg (WL.v (Ev.assign rfl) rfl (WL.nil (WQ.tn (WC.block (WC.loop (γ := Nat × List Fx × Option Addr × Nat) (fun ⟨j, xs, Ab, cb⟩ => [(0, .slice A0 fs.length c0), (5, .pointer (some ⟨b1, 0, none⟩)), (6, .int .i64 (j : Nat))]) (fun ⟨j, xs, Ab, cb⟩ w1 => j ≤ fs.length ∧ NewOkR fs j xs ∧ St w No w1 (rC b1 A0 fs.length c0 Ab xs.length cb (w64 seed) 0 0 :: rowB Ab cb xs :: bksR xs)) (fun ⟨j, xs, Ab, cb⟩ => fs.length - j) (0, [], none, 0) (⟨Nat.zero_le _, ⟨rfl, fun x hx => by simp at hx⟩, (H.nilrow 87 1).perm (List.Perm.swap _ _ _)⟩) ⟨rfl, rfl, rfl, trivial⟩ ?_))))))))
  rintro ⟨j, xs, Ab, cb⟩ w1 ⟨hj, hN, H⟩
  refine WC.seq (WC.seq (WC.reg (WL.v (Ev.move rfl) rfl (WL.v (Ev.move rfl) rfl (WL.v (Ev.lensl Try.underlying22 rfl) rfl (WL.v (Ev.lssN rfl rfl) rfl (WL.nil (WQ.tn (WC.cond rfl (fun h1 => ?_) (fun h1 => ?_))))))))))
  · simp only [bsimp] at h1
    obtain ⟨bk, off, rfl, hG, hc⟩ := R.at h1
    have hj1 := getx h1
    refine WC.skip (WQ.tn (WC.seq (WC.block (WC.seq (WC.drawT mixed (No) 21 [(false, 0), (false, 1), (false, 2), (false, 3), (false, 4), (false, 5), (false, 6), (false, 7), (false, 8), (false, 9), (false, 10), (false, 11), (false, 12), (false, 13), (false, 14), (true, 15), (false, 16), (false, 17), (false, 18), (false, 19), (false, 20)] (by kernel_rfl) ?_)))))
    intro w1 L
    replace H := H.ext L
    have hK := Gr.refl (No) w1
    have HD := H
    refine WX.v rfl (fun w2 hC => Ev.move rfl) rfl (WX.v rfl (fun w2 hC => Ev.move rfl) rfl (WX.v rfl (fun w2 hC => Ev.idx Try.underlying22 sz29 rfl rfl (by omega)) rfl (WX.v rfl (fun w2 hC => Ev.fieldAddr fa29_3 rfl) rfl (WX.v rfl (fun w2 hC => Ev.load fl3 rfl (Gr.cell hC (fun h => h) (HD.old (hc _ _ hj1 3 _ rfl)))) rfl (WX.v rfl (fun w2 hC => Ev.move rfl) rfl (WX.v rfl (fun w2 hC => Ev.move rfl) rfl (WX.v rfl (fun w2 hC => Ev.idx Try.underlying22 sz29 rfl rfl (by omega)) rfl (WX.v rfl (fun w2 hC => Ev.fieldAddr fa29_4 rfl) rfl (WX.v rfl (fun w2 hC => Ev.load fl3 rfl (Gr.cell hC (fun h => h) (HD.old (hc _ _ hj1 4 _ rfl)))) rfl (WX.v rfl (fun w2 hC => Ev.move rfl) rfl (WX.v rfl (fun w2 hC => Ev.move rfl) rfl (WX.v rfl (fun w2 hC => Ev.idx Try.underlying22 sz29 rfl rfl (by omega)) rfl (WX.v rfl (fun w2 hC => Ev.fieldAddr fa29_5 rfl) rfl (WX.v rfl (fun w2 hC => Ev.load fl3 rfl (Gr.cell hC (fun h => h) (HD.old (hc _ _ hj1 5 _ rfl)))) rfl (WX.loud rfl rfl (WL.call (vs := [_, _, _, _]) rfl cl25 rfl (ref03_NewAny _ _ _ _) ?_))))))))))))))))
    rintro _ w1 ⟨rp, er, rfl, hE, hgood, hbad⟩
    have HP := H
    replace H := H.ext hE
    have LX := hE
    refine ⟨_, rfl, ?_⟩
    replace hK := hK.ext LX
    refine WL.nil (WQ.back (fun _ => hK) (WX.v rfl (fun w2 hC => Ev.move rfl) rfl (WX.v rfl (fun w2 hC => Ev.extract rfl rfl) rfl (WX.v rfl (fun w2 hC => Ev.extract rfl rfl) rfl (WX.v rfl (fun w2 hC => Ev.assign rfl) rfl (WX.v rfl (fun w2 hC => Ev.assign rfl) rfl (WX.nil (WQ.tn (WC.seq (WC.seq (WC.reg (WL.v (Ev.move rfl) rfl (WL.v (Ev.nei rfl rfl) rfl (WL.nil (WQ.tn (WC.cond rfl (fun h2 => ?_) (fun h2 => ?_)))))))))))))))))
    · simp only [bsimp] at h2
      have hg : ¬ goodB fs[j].n fs[j].m fs[j].k := fun hh => by have := (hgood hh).1; omega
      refine WC.reg (WL.v (Ev.build (vs := [_, _, _, _, _, _]) (ps := [(_, _), (_, _), (_, _)]) pl91 z91 rfl rfl) rfl (WL.box (t := 91) (cs := [_, _, _, _, _, _]) rfl rfl H rfl fun B w1 hB H L => (WL.v (Ev.assign rfl) rfl (WL.nil (WQ.tn (WC.reg (WL.v (Ev.move rfl) rfl (WL.v (Ev.move rfl) rfl (WL.v (Ev.nilCheck rfl) rfl (WL.v (Ev.fieldAddr fa86_1 rfl) rfl (WL.v (Ev.load fl81 rfl (H.cell 1 rfl rfl)) rfl (WL.v (Ev.move rfl) rfl (WL.buildSlice (vs := [_]) (ps := [(_, _)]) Try.underlying81 sz87 z87 rfl (by omega) (by omega) rfl rfl H rfl fun b3 w1 hb3 H L => (WL.append (i := 3) (news := [_]) Try.underlying81 sz87 by87 z87 rfl (by omega) rfl rfl H rfl rfl (H.cells 0 rfl rfl) (by exact allOne_mem rfl) (by omega) (by have := hN.len hj; omega) rfl fun A1 c1 w1 H L LA LB => ?_))))))))))))))
      replace H := H.tail
      refine WL.v (Ev.nilCheck rfl) rfl (WL.v (Ev.fieldAddr fa86_1 rfl) rfl (WL.store (i := 1) (vs := [_]) rfl rfl rfl sz81 rfl H rfl rfl fun w1 H L => (WL.nil (WQ.blk (WQ.tn (WC.reg (WL.v (Ev.move rfl) rfl (WL.v (Ev.addN (b := 1) rfl rfl (by omega)) rfl (WL.v (Ev.assign rfl) rfl (WL.nil ?_))))))))))
      exact WQ.again ((j + 1, xs ++ [newR fs[j] B], A1, c1)) (⟨by omega, hN.snoc h1 _, rS_snoc (by unfold newR; rw [if_neg hg]) (H.perm ((List.Perm.cons _ (List.Perm.swap _ _ _)).trans (List.Perm.swap _ _ _)))⟩) ⟨rfl, rfl, rfl, trivial⟩ (by first | omega | (dsimp only; omega))
    simp only [bsimp] at h2
    have hg : goodB fs[j].n fs[j].m fs[j].k := by
      by_cases hh : goodB fs[j].n fs[j].m fs[j].k
      · exact hh
      · have := (hbad hh).1; omega
    obtain ⟨_, B, rfl, H1⟩ := hgood hg
    replace H := HP.app H1
    refine WC.skip (WQ.tn (WC.reg (WL.v (Ev.move rfl) rfl (WL.v (Ev.move rfl) rfl (WL.v (Ev.nilCheck rfl) rfl (WL.v (Ev.fieldAddr fa86_1 rfl) rfl (WL.v (Ev.load fl81 rfl (H.cell 1 rfl rfl)) rfl (WL.v (Ev.move rfl) rfl (WL.buildSlice (vs := [_]) (ps := [(_, _)]) Try.underlying81 sz87 z87 rfl (by omega) (by omega) rfl rfl H rfl fun b4 w1 hb4 H L => (WL.append (i := 3) (news := [_]) Try.underlying81 sz87 by87 z87 rfl (by omega) rfl rfl H rfl rfl (H.cells 0 rfl rfl) (by exact allOne_mem rfl) (by omega) (by have := hN.len hj; omega) rfl fun A1 c1 w1 H L LA LB => ?_))))))))))
    replace H := H.tail
    refine WL.v (Ev.nilCheck rfl) rfl (WL.v (Ev.fieldAddr fa86_1 rfl) rfl (WL.store (i := 1) (vs := [_]) rfl rfl rfl sz81 rfl H rfl rfl fun w1 H L => (WL.nil (WQ.blk (WQ.tn (WC.reg (WL.v (Ev.move rfl) rfl (WL.v (Ev.addN (b := 1) rfl rfl (by omega)) rfl (WL.v (Ev.assign rfl) rfl (WL.nil ?_))))))))))
    exact WQ.again ((j + 1, xs ++ [newR fs[j] B], A1, c1)) (⟨by omega, hN.snoc h1 _, rS_snoc (by unfold newR; rw [if_pos hg]) (H.perm ((List.Perm.cons _ (List.Perm.swap _ _ _)).trans (List.Perm.swap _ _ _)))⟩) ⟨rfl, rfl, rfl, trivial⟩ (by first | omega | (dsimp only; omega))
  try simp only [bsimp] at h1
  refine WC.exit (WQ.tn_exit (WQ.loop_exit (WQ.blk_here rfl (WQ.tn (WC.seq (WC.reg (WL.v (Ev.move rfl) rfl (WL.v (Ev.assign rfl) rfl (WL.nil (WQ.tn (WC.ret (WQ.ret1 rfl rfl ?_))))))))))))
  obtain rfl : j = fs.length := by omega
  exact ⟨_, Ab, cb, xs, rfl, hN, by unfold rS; rw [hN.len (Nat.le_refl _)] at H ⊢; exact H⟩
end Go.Proofs.Ytcmolgiccccnoaa
