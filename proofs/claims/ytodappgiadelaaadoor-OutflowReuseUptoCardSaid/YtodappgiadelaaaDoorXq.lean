/- The walks of functions: what each comes to. -/
import Derived.Test.YtodappgiadelaaaDoorXp
import Derived.Test.YtodappgiadelaaaDoorProg
set_option linter.unusedVariables false
set_option linter.unusedSimpArgs false
namespace Go.Proofs.YtodappgiadelaaaDoor
open Go.RowKit Go.BK
theorem fa71_7 : fldB Tryd.prog 71 7 7 = true := by kernel_rfl
theorem fl24 : flatB Tryd.prog 24 = true := by kernel_rfl
theorem z94 : zOk Tryd.prog 94 (.agg #[.pointer none, .slice none 0 0]) := by unfold zOk; kernel_rfl
theorem cl50 : callB Tryd.prog 50 = true := by kernel_rfl
theorem cl51 : callB Tryd.prog 51 = true := by kernel_rfl
theorem sz24 : szOk Tryd.prog 24 1 := by unfold szOk; kernel_rfl
theorem cl52 : callB Tryd.prog 52 = true := by kernel_rfl
@[reducible] def feedV (r : Bs × Nat × Bool × Int) : Value := .tuple #[str r.1, .int .i64 (r.2.1 : Nat), .bool r.2.2.1, .int .i64 r.2.2.2]
theorem feed_err {d d2 : Dec} {s : Bs} {e : Int} (h : feedP d s = (d2, ([], 0, false, e))) {A : Option Addr} {c D : Nat} {w w' : World} {S : Nat → Prop} (H : St w S w' (decS D d2 A c)) : ∃ A' c', Ending.returned (.tuple #[str [], .int .i64 0, .bool false, .int .i64 e]) = .returned (feedV (feedP d s).2) ∧ St w S w' (decS D (feedP d s).1 A' c') := by
  rw [h]
  exact ⟨A, c, rfl, H⟩
theorem min_pos {a b j : Nat} (h1 : 0 < a) (h2 : j < b) : 0 < min a (b - j) ∧ min a (b - j) ≤ a ∧ j + min a (b - j) ≤ b := by omega
set_option maxRecDepth 20000 in
set_option maxHeartbeats 2000000 in
theorem ck_Feed (d : Dec) (hd : d.err = 0 → OkD d) (s : Bs) (hs : Sml s.length) (D c : Nat) (A : Option Addr) (w : World) (H : St w (Bk (decS D d A c)) w (decS D d A c)) :
    Calls Tryd.prog 37 #[.pointer (some ⟨D, 0, none⟩), str s] w fun e w' => ∃ A' c', e = .returned (feedV (feedP d s).2) ∧ St w (Bk (decS D d A c)) w' (decS D (feedP d s).1 A' c') := by
  have hs9 := hs.le
  refine calls_of Tryd.func37 rfl Tryd.ntmps37 (by rfl) (K0 := [(0, _), (1, _)]) ⟨rfl, rfl, trivial⟩ (WC.seq (WC.reg (WL.v (Ev.assign rfl) rfl (WL.v (Ev.assign rfl) rfl (WL.v (Ev.assign rfl) rfl (WL.v (Ev.assign rfl) rfl (WL.nil (WQ.tn (WC.seq (WC.seq (WC.reg (WL.v (Ev.move rfl) rfl (WL.v (Ev.nilCheck rfl) rfl (WL.v (Ev.fieldAddr fa71_7 rfl) rfl (WL.v (Ev.load fl24 rfl (H.cell 0 rfl rfl)) rfl (WL.v (Ev.nei rfl rfl) rfl (WL.nil (WQ.tn (WC.cond rfl (fun h0 => ?_) (fun h0 => ?_))))))))))))))))))))
  · simp only [bsimp] at h0
    refine WC.seq (WC.drawT mixed (No) 8 [(false, 0), (false, 1), (false, 2), (false, 3), (false, 4), (false, 5), (false, 6), (false, 7)] (by kernel_rfl) ?_)
    intro w1 L
    replace H := H.ext L
    refine WX.v rfl (fun w2 hC => Ev.move rfl) rfl (WX.v rfl (fun w2 hC => Ev.nilCheck rfl) rfl (WX.v rfl (fun w2 hC => Ev.fieldAddr fa71_7 rfl) rfl (WX.v rfl (fun w2 hC => Ev.load fl24 rfl (Gr.cell hC (fun h => h) (H.cell 0 rfl rfl))) rfl (WX.v rfl (fun w2 hC => Ev.assign rfl) rfl (WX.v rfl (fun w2 hC => Ev.assign rfl) rfl (WX.v rfl (fun w2 hC => Ev.assign rfl) rfl (WX.v rfl (fun w2 hC => Ev.assign rfl) rfl (WX.nil (WQ.tn (WC.ret (WQ.tn_ret (WQ.ret4 rfl rfl rfl rfl rfl ?_))))))))))))
    have hq : feedP d s = (d, ([], 0, false, d.err)) := by unfold feedP; rw [if_neg h0]
    exact feed_err hq H
  have h0 : d.err = 0 := by simpa using h0
  have hd0 := hd h0
  refine WC.skip (WQ.tn (WC.seq (WC.reg (WL.alloc z94 rfl H rfl fun b1 w1 hb1 H L => (WL.nil (WQ.tn (WC.seq (WC.reg (WL.v (Ev.assign rfl) rfl (WL.nil (WQ.tn (WC.seq (WC.block (WC.loop (γ := Nat × Dec × Option Addr × Nat × Bs × Option Addr × Nat × Option Addr) (fun ⟨j, d9, A9, c9, out, A2, c2, p⟩ => [(0, .pointer (some ⟨D, 0, none⟩)), (1, str s), (8, .pointer (some ⟨b1, 0, none⟩)), (9, .int .i64 (j : Nat))]) (fun ⟨j, d9, A9, c9, out, A2, c2, p⟩ w1 => j ≤ s.length ∧ OkD d9 ∧ feedP d s = feedG d9 j out (s.drop j) ∧ out.length ≤ j ∧ (p = none ∨ p = atB b1) ∧ (out = [] → A2 = none) ∧ St w (Bk (decS D d A c)) w1 [bldC b1 p A2 out.length c2, chR A2 c2 out, decC D d9 A9 c9, chR A9 c9 d9.line]) (fun ⟨j, d9, A9, c9, out, A2, c2, p⟩ => s.length - j) (0, d, A, c, [], none, 0, none) (⟨Nat.zero_le _, hd0, by unfold feedP; rw [if_pos h0]; rfl, Nat.zero_le _, .inl rfl, fun _ => rfl, (H.nilrow 5 1).perm (List.Perm.swap _ _ _)⟩) ⟨rfl, rfl, rfl, rfl, trivial⟩ ?_))))))))))))))
  rintro ⟨j, d9, A9, c9, out, A2, c2, p⟩ w1 ⟨hj, hd9, hI, hol, hp, hz, H⟩
  refine WC.seq (WC.seq (WC.reg (WL.v (Ev.move rfl) rfl (WL.v (Ev.move rfl) rfl (WL.v (Ev.lens Tryd.underlying9 rfl) rfl (WL.v (Ev.lssN rfl rfl) rfl (WL.v (Ev.move rfl) rfl (WL.g (Met.yes rfl rfl) (fun hg => Ev.move rfl) rfl (WL.g (Met.yes rfl rfl) (fun hg => Ev.nilCheck ((evG.un rfl).ev hg)) rfl (WL.g (Met.yes rfl rfl) (fun hg => Ev.fieldAddr fa71_2 ((evG.un rfl).ev hg)) rfl (WL.g (Met.yes rfl rfl) (fun hg => Ev.load fl3 ((evG.un rfl).ev hg) (H.cell 2 rfl rfl)) rfl (WL.g (Met.yes rfl rfl) (fun hg => Ev.nei ((evG.un rfl).ev hg) rfl) rfl (WL.v (Ev.and rfl rfl rfl) rfl (WL.nil (WQ.tn ?_)))))))))))))))
  refine WC.cond rfl (fun h2 => ?_) (fun h2 => ?_)
  · simp only [bsimp] at h2
    obtain ⟨hjs, hst⟩ := h2
    refine WC.skip (WQ.tn (WC.block (WC.seq (WC.seq (WC.reg (WL.v (Ev.move rfl) rfl (WL.v (Ev.nilCheck rfl) rfl (WL.v (Ev.fieldAddr fa71_2 rfl) rfl (WL.v (Ev.load fl3 rfl (H.cell 2 rfl rfl)) rfl (WL.v (Ev.eqi rfl rfl) rfl (WL.nil (WQ.tn (WC.cond rfl (fun h3 => ?_) (fun h3 => ?_))))))))))))))
    · simp only [bsimp] at h3
      have hro := hd9.room.1 h3
      have hmo := hd9.most
      unfold I64 at hmo
      have hmp := min_pos hro.2 hjs
      have hcl : ((s.drop j).take (j + (min d9.left (s.length - j)) - j)).length = (min d9.left (s.length - j)) := by rw [List.length_take, List.length_drop]; omega
      refine WC.seq (WC.reg (WL.v (Ev.move rfl) rfl (WL.v (Ev.nilCheck rfl) rfl (WL.v (Ev.fieldAddr fa71_3 rfl) rfl (WL.v (Ev.load fl3 rfl (H.cell 2 rfl rfl)) rfl (WL.v (Ev.move rfl) rfl (WL.v (Ev.lens Tryd.underlying9 rfl) rfl (WL.v (Ev.move rfl) rfl (WL.v (Ev.subN rfl rfl (by omega) (by omega)) rfl (WL.v (Ev.minN rfl rfl) rfl (WL.v (Ev.assign rfl) rfl (WL.nil (WQ.tn (WC.seq (WC.reg (WL.v (Ev.move rfl) rfl (WL.v (Ev.move rfl) rfl (WL.v (Ev.move rfl) rfl (WL.v (Ev.move rfl) rfl (WL.v (Ev.addN rfl rfl (by omega)) rfl (WL.v (Ev.subN' Tryd.underlying9 rfl rfl rfl (by omega) (by omega)) rfl (WL.call (vs := [_, _]) rfl cl50 rfl (sb_WriteString b1 c2 p A2 hp out ((s.drop j).take (j + (min d9.left (s.length - j)) - j)) (by rw [hcl]; omega) _ (H.sub (List.Sublist.cons_cons _ (List.Sublist.cons_cons _ (List.Sublist.cons _ (List.Sublist.cons _ (List.nil_sublist _)))))).local) ?_))))))))))))))))))))))
      rintro _ w1 ⟨A3, c3, rfl, hz3, H1⟩
      replace H := St.frame (σ1 := [bldC b1 p A2 out.length c2, chR A2 c2 out]) H H1
      replace H : St w (Bk (decS D d A c)) _ [bldC b1 (atB b1) A3 (out ++ ((s.drop j).take (j + (min d9.left (s.length - j)) - j))).length c3, chR A3 c3 (out ++ ((s.drop j).take (j + (min d9.left (s.length - j)) - j))), decC D d9 A9 c9, chR A9 c9 d9.line] := H
      refine ⟨_, rfl, ?_⟩
      refine WL.nil (WQ.tn (WC.seq (WC.reg (WL.v (Ev.move rfl) rfl (WL.v (Ev.move rfl) rfl (WL.v (Ev.addN rfl rfl (by omega)) rfl (WL.v (Ev.assign rfl) rfl (WL.nil (WQ.tn (WC.seq (WC.reg (WL.v (Ev.move rfl) rfl (WL.v (Ev.nilCheck rfl) rfl (WL.v (Ev.fieldAddr fa71_1 rfl) rfl (WL.v (Ev.load fl3 rfl (H.cell 2 rfl rfl)) rfl (WL.v (Ev.move rfl) rfl (WL.v (Ev.addN rfl rfl (by omega)) rfl (WL.v (Ev.nilCheck rfl) rfl (WL.v (Ev.fieldAddr fa71_1 rfl) rfl (WL.store (i := 2) (vs := [_]) rfl rfl rfl sz3 rfl H rfl rfl fun w1 H L => (WL.nil (WQ.tn (WC.seq (WC.seq (WC.reg (WL.v (Ev.move rfl) rfl (WL.v (Ev.nilCheck rfl) rfl (WL.v (Ev.fieldAddr fa71_3 rfl) rfl (WL.v (Ev.load fl3 rfl (H.cell 2 rfl rfl)) rfl (WL.v (Ev.move rfl) rfl (WL.v (Ev.subN rfl rfl (by omega) (by omega)) rfl (WL.v (Ev.nilCheck rfl) rfl (WL.v (Ev.fieldAddr fa71_3 rfl) rfl (WL.store (i := 2) (vs := [_]) rfl rfl rfl sz3 rfl H rfl rfl fun w1 H L => (WL.nil ?_)))))))))))))))))))))))))))))))))))
      refine WQ.tn (WC.seq (WC.reg (WL.v (Ev.move rfl) rfl (WL.v (Ev.nilCheck rfl) rfl (WL.v (Ev.fieldAddr fa71_3 rfl) rfl (WL.v (Ev.load fl3 rfl (H.cell 2 rfl rfl)) rfl (WL.v (Ev.eqN (b := 0) rfl rfl) rfl (WL.nil (WQ.tn (WC.cond rfl (fun h4 => ?_) (fun h4 => ?_)))))))))))
      · simp only [bsimp] at h4
        refine WC.reg (WL.v (Ev.move rfl) rfl (WL.v (Ev.nilCheck rfl) rfl (WL.v (Ev.fieldAddr fa71_2 rfl) rfl (WL.store (i := 2) (vs := [_]) rfl rfl rfl sz3 rfl H rfl rfl fun w1 H L => (WL.nil (WQ.tn (WC.exit (WQ.tn_exit (WQ.blk_here rfl ?_)))))))))
        have hq : feedP d s = feedG (bulkD d9 (min d9.left (s.length - j))) (j + (min d9.left (s.length - j))) (out ++ ((s.drop j).take (j + (min d9.left (s.length - j)) - j))) (s.drop (j + (min d9.left (s.length - j)))) := by
          rw [hI, feedG_bulkD (k := (min d9.left (s.length - j))) hmp.1 h3 hmp.2.1 (by rw [List.length_drop]; omega), List.drop_drop, Nat.add_sub_cancel_left]
        have hb2 := bulkD_ok hd9 hmp.1 h3 hmp.2.1
        replace H : St w (Bk (decS D d A c)) w1 [bldC b1 (atB b1) A3 (out ++ ((s.drop j).take (j + (min d9.left (s.length - j)) - j))).length c3, chR A3 c3 (out ++ ((s.drop j).take (j + (min d9.left (s.length - j)) - j))), decC D (bulkD d9 (min d9.left (s.length - j))) A9 c9, chR A9 c9 d9.line] := by
          unfold bulkD
          rw [if_pos h4]
          exact H
        exact WQ.again ((j + (min d9.left (s.length - j)), (bulkD d9 (min d9.left (s.length - j))), A9, c9, out ++ ((s.drop j).take (j + (min d9.left (s.length - j)) - j)), A3, c3, atB b1)) (⟨hmp.2.2, hb2, hq, by rw [List.length_append, hcl]; omega, .inr rfl, fun h => absurd (congrArg List.length h) (by rw [List.length_append, hcl]; simp only [List.length_nil]; omega), H⟩) ⟨rfl, rfl, rfl, rfl, trivial⟩ (by first | omega | (dsimp only; omega))
      simp only [bsimp] at h4
      refine WC.skip (WQ.tn (WC.exit (WQ.tn_exit (WQ.blk_here rfl ?_))))
      have hq : feedP d s = feedG (bulkD d9 (min d9.left (s.length - j))) (j + (min d9.left (s.length - j))) (out ++ ((s.drop j).take (j + (min d9.left (s.length - j)) - j))) (s.drop (j + (min d9.left (s.length - j)))) := by
        rw [hI, feedG_bulkD (k := (min d9.left (s.length - j))) hmp.1 h3 hmp.2.1 (by rw [List.length_drop]; omega), List.drop_drop, Nat.add_sub_cancel_left]
      have hb2 := bulkD_ok hd9 hmp.1 h3 hmp.2.1
      replace H : St w (Bk (decS D d A c)) w1 [bldC b1 (atB b1) A3 (out ++ ((s.drop j).take (j + (min d9.left (s.length - j)) - j))).length c3, chR A3 c3 (out ++ ((s.drop j).take (j + (min d9.left (s.length - j)) - j))), decC D (bulkD d9 (min d9.left (s.length - j))) A9 c9, chR A9 c9 d9.line] := by
        unfold bulkD
        rw [if_neg h4, ← h3]
        exact H
      exact WQ.again ((j + (min d9.left (s.length - j)), (bulkD d9 (min d9.left (s.length - j))), A9, c9, out ++ ((s.drop j).take (j + (min d9.left (s.length - j)) - j)), A3, c3, atB b1)) (⟨hmp.2.2, hb2, hq, by rw [List.length_append, hcl]; omega, .inr rfl, fun h => absurd (congrArg List.length h) (by rw [List.length_append, hcl]; simp only [List.length_nil]; omega), H⟩) ⟨rfl, rfl, rfl, rfl, trivial⟩ (by first | omega | (dsimp only; omega))
    simp only [bsimp] at h3
    have hdb := decB_take h3 s[j]
    refine WC.skip (WQ.tn (WC.seq (WC.seq (WC.reg (WL.v (Ev.move rfl) rfl (WL.v (Ev.move rfl) rfl (WL.v (Ev.move rfl) rfl (WL.v (Ev.move rfl) rfl (WL.v (Ev.ch Tryd.underlying9 rfl rfl (by omega)) rfl ?_)))))))))
    rw [byteAt_get hjs]
    have HV := H.perm (σ' := [_, _, _, _]) (List.perm_append_comm (l₁ := [_, _]) (l₂ := [_, _]))
    refine WL.call (vs := [_, _]) rfl cl51 rfl (ck_take s[j] d9 hd9 D c9 A9 _ (HV.sub (List.Sublist.cons_cons _ (List.Sublist.cons_cons _ (List.Sublist.cons _ (List.Sublist.cons _ (List.nil_sublist _)))))).local) ?_
    rintro _ w1 ⟨A1, c1, rfl, H1⟩
    replace H := St.frame (σ1 := decS D d9 A9 c9) HV H1
    replace H : St w (Bk (decS D d A c)) _ [decC D (takeP d9 s[j]).1 A1 c1, chR A1 c1 (takeP d9 s[j]).1.line, bldC b1 p A2 out.length c2, chR A2 c2 out] := H
    refine ⟨_, rfl, ?_⟩
    refine WL.v (Ev.nilCheck rfl) rfl (WL.v (Ev.fieldAddr fa71_7 rfl) rfl (WL.store (i := 0) (vs := [_]) rfl rfl rfl sz24 rfl H rfl rfl fun w1 H L => (WL.nil (WQ.tn (WC.seq (WC.reg (WL.v (Ev.move rfl) rfl (WL.v (Ev.nilCheck rfl) rfl (WL.v (Ev.fieldAddr fa71_7 rfl) rfl (WL.v (Ev.load fl24 rfl (H.cell 0 rfl rfl)) rfl (WL.v (Ev.nei rfl rfl) rfl (WL.nil (WQ.tn (WC.cond rfl (fun h5 => ?_) (fun h5 => ?_)))))))))))))))
    · simp only [bsimp] at h5
      refine WC.seq (WC.drawT mixed (No) 8 [(false, 0), (false, 1), (false, 2), (false, 3), (false, 4), (false, 5), (false, 6), (false, 7)] (by kernel_rfl) ?_)
      intro w1 L
      replace H := H.ext L
      refine WX.v rfl (fun w2 hC => Ev.move rfl) rfl (WX.v rfl (fun w2 hC => Ev.nilCheck rfl) rfl (WX.v rfl (fun w2 hC => Ev.fieldAddr fa71_7 rfl) rfl (WX.v rfl (fun w2 hC => Ev.load fl24 rfl (Gr.cell hC (fun h => h) (H.cell 0 rfl rfl))) rfl (WX.v rfl (fun w2 hC => Ev.assign rfl) rfl (WX.v rfl (fun w2 hC => Ev.assign rfl) rfl (WX.v rfl (fun w2 hC => Ev.assign rfl) rfl (WX.v rfl (fun w2 hC => Ev.assign rfl) rfl (WX.nil (WQ.tn (WC.ret (WQ.tn_ret (WQ.blk_ret (WQ.loop_ret (WQ.blk_ret (WQ.tn_ret (WQ.ret4 rfl rfl rfl rfl rfl ?_))))))))))))))))
      have hq : feedP d s = ((decB d9 s[j]).1, ([], 0, false, (takeP d9 s[j]).2)) := by
        rw [hI, feedG_at hjs hst, hdb]
        dsimp only
        rw [if_neg h5]
      rw [hdb] at hq
      exact feed_err hq (H.sub (List.Sublist.cons_cons _ (List.Sublist.cons_cons _ (List.Sublist.cons _ (List.Sublist.cons _ (List.nil_sublist _))))))
    have h5 : (takeP d9 s[j]).2 = 0 := by simpa using h5
    refine WC.skip (WQ.tn (WC.reg (WL.v (Ev.move rfl) rfl (WL.v (Ev.addN (b := 1) rfl rfl (by omega)) rfl (WL.v (Ev.assign rfl) rfl (WL.nil (WQ.blk ?_)))))))
    have hs1 : OkD (decB d9 s[j]).1 := decB_ok hd9 _ (by rw [hdb]; exact h5)
    rw [hdb] at hs1
    have hq : feedP d s = feedG (decB d9 s[j]).1 (j + 1) (out ++ []) (s.drop (j + 1)) := by
      rw [hI, feedG_at hjs hst, hdb]
      dsimp only
      rw [if_pos h5]
    rw [hdb, List.append_nil] at hq
    replace H := H.perm (σ' := [_, _, _, _]) (List.perm_append_comm (l₁ := [_, _]) (l₂ := [_, _]))
    exact WQ.again ((j + 1, { (takeP d9 s[j]).1 with err := (takeP d9 s[j]).2 }, A1, c1, out, A2, c2, p)) (⟨by omega, hs1, hq, by omega, hp, hz, H⟩) ⟨rfl, rfl, rfl, rfl, trivial⟩ (by first | omega | (dsimp only; omega))
  have hend : feedG d9 j out (s.drop j) = (d9, (out, j, decide (d9.state = 4), 0)) := feedG_done (fun h9 => by
    have h8 := h2
    simp only [bsimp] at h8
    rcases h8 with h8 | h8
    · omega
    · exact h8)
  refine WC.exit (WQ.tn_exit (WQ.loop_exit (WQ.blk_here rfl (WQ.tn (WC.seq (WC.drawT mixed (Bk [bldC b1 p A2 out.length c2, chR A2 c2 out]) 11 [(false, 1), (false, 2), (false, 3), (false, 4), (false, 5), (false, 6), (true, 0), (false, 7), (false, 8), (false, 9), (false, 10)] (by kernel_rfl) ?_))))))
  intro w1 L
  replace H := H.ext L
  have hK := Gr.refl (Bk [bldC b1 p A2 out.length c2, chR A2 c2 out]) w1
  have HD := H
  refine WX.v rfl (fun w2 hC => Ev.move rfl) rfl (WX.v rfl (fun w2 hC => Ev.move rfl) rfl (WX.v rfl (fun w2 hC => Ev.nilCheck rfl) rfl (WX.v rfl (fun w2 hC => Ev.fieldAddr fa71_2 rfl) rfl (WX.v rfl (fun w2 hC => Ev.load fl3 rfl (Gr.cell hC (HD.bkNot (σ1 := [_, _]) (σ2 := [_, _]) (c := decC D d9 A9 c9) (by simp) (by simp [Chunk.blocks])) (HD.cell 2 rfl rfl))) rfl (WX.v rfl (fun w2 hC => Ev.eqi rfl rfl) rfl (WX.loud rfl rfl (WL.call (vs := [_]) rfl cl52 rfl (sb_String b1 c2 p A2 out hz _ (H.sub (List.Sublist.cons_cons _ (List.Sublist.cons_cons _ (List.Sublist.cons _ (List.Sublist.cons _ (List.nil_sublist _)))))).local) ?_)))))))
  rintro _ w1 ⟨rfl, H1⟩
  have LX := H1.gr
  replace H := St.frame (σ1 := [bldC b1 p A2 out.length c2, chR A2 c2 out]) H H1
  replace H : St w (Bk (decS D d A c)) _ [bldC b1 p A2 out.length c2, decC D d9 A9 c9, chR A9 c9 d9.line] := H
  refine ⟨_, rfl, ?_⟩
  replace hK := hK.trans LX
  refine WL.nil (WQ.back (fun _ => hK) (WX.v rfl (fun w2 hC => Ev.assign rfl) rfl (WX.v rfl (fun w2 hC => Ev.assign rfl) rfl (WX.v rfl (fun w2 hC => Ev.assign rfl) rfl (WX.v rfl (fun w2 hC => Ev.assign rfl) rfl (WX.nil (WQ.tn (WC.ret (WQ.ret4 rfl rfl rfl rfl rfl ?_)))))))))
  rw [hend] at hI
  rw [hI]
  exact ⟨A9, c9, rfl, H.tail⟩
end Go.Proofs.YtodappgiadelaaaDoor
