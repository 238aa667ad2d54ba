/- The walks of functions: what each comes to. -/
import Derived.Test.YtcmolgiccccnoaaWf
import Derived.Test.YtcmolgiccccnoaaProg
set_option linter.unusedVariables false
set_option linter.unusedSimpArgs false
namespace Go.Proofs.Ytcmolgiccccnoaa
open Go.RowKit Go.BK
theorem cl71 : callB Try.prog 71 = true := by kernel_rfl
theorem cl70 : callB Try.prog 70 = true := by kernel_rfl
theorem cl76 : callB Try.prog 76 = true := by kernel_rfl
theorem cl78 : callB Try.prog 78 = true := by kernel_rfl
theorem cl81 : callB Try.prog 81 = true := by kernel_rfl
theorem cl86 : callB Try.prog 86 = true := by kernel_rfl
theorem cl85 : callB Try.prog 85 = true := by kernel_rfl
theorem cl87 : callB Try.prog 87 = true := by kernel_rfl
theorem cl88 : callB Try.prog 88 = true := by kernel_rfl
theorem cl94 : callB Try.prog 94 = true := by kernel_rfl
theorem cl93 : callB Try.prog 93 = true := by kernel_rfl
theorem fa74_1 : fldB Try.prog 74 1 6 = true := by kernel_rfl
theorem fl70 : flatB Try.prog 70 = true := by kernel_rfl
theorem fa101_0 : fldB Try.prog 101 0 0 = true := by kernel_rfl
theorem cl79 : callB Try.prog 79 = true := by kernel_rfl
theorem fa101_2 : fldB Try.prog 101 2 2 = true := by kernel_rfl
theorem fa76_0 : fldB Try.prog 76 0 0 = true := by kernel_rfl
theorem fa80_0 : fldB Try.prog 80 0 0 = true := by kernel_rfl
theorem fl_limit (f : Flt) (v : Nat) (now size : Int) (m : Bs) (A : Option Addr) (c : Nat) (xs : List Fld) (hx : Okf xs) (hf : Sml f.name.length) (b : Bst) (hb : b.ok) (hnow : I64 now) (B : Nat) (w : World) (H : St w (Bk [rowF A c xs, visC v now size m A xs.length c none, .blk B (encB b) 112 (0, 0)]) w [rowF A c xs, visC v now size m A xs.length c none, .blk B (encB b) 112 (0, 0)]) :
    Calls Try.prog 78 #[.agg (encFl f ++ [Value.pointer (some ⟨B, 0, none⟩)]).toArray, .pointer (some ⟨v, 0, none⟩)] w fun e w' => e = .returned (.tuple #[]) ∧ if (takeR b now 1).1 = true then ∃ A' c', St w (Bk [rowF A c xs, visC v now size m A xs.length c none, .blk B (encB b) 112 (0, 0)]) w' [rowF A' c' (xs), visC v now size m A' (xs).length c' none, .blk B (encB (takeR b now 1).2.2) 112 (0, 0)] else ∃ r Af cf A' n' c', St w (Bk [rowF A c xs, visC v now size m A xs.length c none, .blk B (encB b) 112 (0, 0)]) w' [verC r (429) Af (([] : List Fld)).length cf (([115, 108, 111, 119, 32, 100, 111, 119, 110] : Bs)), rowF Af cf (([] : List Fld)), visC v now size m A' n' c' (some ⟨r, 0, none⟩), .blk B (encB (takeR b now 1).2.2) 112 (0, 0)] := by
  refine calls_of Try.func78 rfl Try.ntmps78 (by rfl) (K0 := [(0, _), (1, _)]) ⟨rfl, rfl, trivial⟩ (WC.seq (WC.reg (WL.box (t := 74) (cs := [_, _, _, _, _, _, _]) rfl rfl H rfl fun b1 w1 hb1 H L => (WL.nil (WQ.tn (WC.seq (WC.drawT mixed ((fun k => k = B)) 12 [(false, 0), (false, 1), (false, 2), (false, 3), (false, 4), (false, 5), (true, 6), (false, 7), (false, 8), (false, 9), (false, 10), (false, 11)] (by kernel_rfl) ?_)))))))
  intro w1 L
  replace H := H.ext L
  have hn1 := H.ne 0 3 rfl rfl rfl
  have hn2 := H.ne 2 3 rfl rfl rfl
  have HP := (H.perm (σ' := [_, _, _, _]) (List.perm_middle (l₁ := [_, _, _]) (l₂ := [])).symm)
  have hK := Gr.refl ((fun k => k = B)) w1
  have HD := H
  refine WX.v rfl (fun w2 hC => Ev.fieldAddr fa74_1 rfl) rfl (WX.v rfl (fun w2 hC => Ev.load fl70 rfl (Gr.cell hC hn1 (HD.cell 0 rfl rfl))) rfl (WX.v rfl (fun w2 hC => Ev.move rfl) rfl (WX.v rfl (fun w2 hC => Ev.nilCheck rfl) rfl (WX.v rfl (fun w2 hC => Ev.fieldAddr fa101_0 rfl) rfl (WX.v rfl (fun w2 hC => Ev.load fl3 rfl (Gr.cell hC hn2 (HD.cell 2 rfl rfl))) rfl (WX.loud rfl rfl (WL.call (vs := [_, _, _]) rfl cl79 rfl (bk_Take b hb now 1 hnow (by unfold I64; omega) B _ HP.local1) ?_)))))))
  rintro _ w1 ⟨rfl, H1⟩
  have LX : Gr (fun k => k = B) _ _ := H1.gr.mono (fun _ _ h => by simpa [Bk, Chunk.blocks] using h)
  replace H := HP.frame1 H1
  refine ⟨_, rfl, ?_⟩
  replace hK := hK.trans LX
  refine WL.nil (WQ.back (fun _ => hK) (WX.v rfl (fun w2 hC => Ev.move rfl) rfl (WX.v rfl (fun w2 hC => Ev.extract rfl rfl) rfl (WX.v rfl (fun w2 hC => Ev.extract rfl rfl) rfl (WX.v rfl (fun w2 hC => Ev.assign rfl) rfl (WX.v rfl (fun w2 hC => Ev.assign rfl) rfl (WX.nil (WQ.tn (WC.seq (WC.reg (WL.v (Ev.move rfl) rfl (WL.v (Ev.not rfl) rfl (WL.nil (WQ.tn (WC.cond rfl (fun h0 => ?_) (fun h0 => ?_))))))))))))))))
  · try simp only [bsimp] at h0
    have HV := (H.perm (σ' := [_, _, _, _]) (List.perm_middle (l₁ := [_, _, _]) (l₂ := [])).symm)
    refine WC.reg (WL.v (Ev.move rfl) rfl (WL.call (vs := [_, _, _, _]) rfl cl80 rfl (fl_say v now size m _ _ _ 429 _ none 0 0 _ HV.local1) ?_))
    rintro _ w1 ⟨rfl, r, H1⟩
    replace H := HV.frame1 H1
    refine ⟨_, rfl, ?_⟩
    refine WL.nil (WQ.end0 rfl ?_)
    rw [if_neg (by rw [h0]; decide)]
    exact ⟨rfl, r, none, 0, A, _, c, ((H.nilrow 54 2).perm (List.Perm.swap _ _ _)).sub (List.Sublist.cons_cons _ (List.Sublist.cons_cons _ (List.Sublist.cons_cons _ (List.Sublist.cons_cons _ (List.Sublist.cons _ (List.Sublist.cons _ (List.nil_sublist _)))))))⟩
  try simp only [bsimp] at h0
  refine WC.skip (WQ.end0 rfl ?_)
  rw [if_pos h0]
  exact ⟨rfl, A, c, (H.sub (List.Sublist.cons_cons _ (List.Sublist.cons _ (List.Sublist.cons_cons _ (List.Sublist.cons_cons _ (List.nil_sublist _)))))).perm (List.perm_append_comm (l₁ := [_, _]) (l₂ := [_]))⟩
def litOrigin : Bs := ([79, 114, 105, 103, 105, 110] : Bs)
def litReqMethod : Bs := ([65, 99, 99, 101, 115, 115, 45, 67, 111, 110, 116, 114, 111, 108, 45, 82, 101, 113, 117, 101, 115, 116, 45, 77, 101, 116, 104, 111, 100] : Bs)
def litAllowOrigin : Bs := ([65, 99, 99, 101, 115, 115, 45, 67, 111, 110, 116, 114, 111, 108, 45, 65, 108, 108, 111, 119, 45, 79, 114, 105, 103, 105, 110] : Bs)
def litAllowMethods : Bs := ([65, 99, 99, 101, 115, 115, 45, 67, 111, 110, 116, 114, 111, 108, 45, 65, 108, 108, 111, 119, 45, 77, 101, 116, 104, 111, 100, 115] : Bs)
def litOptions : Bs := ([79, 80, 84, 73, 79, 78, 83] : Bs)
theorem fl_cors (f : Flt) (v : Nat) (now size : Int) (m : Bs) (A : Option Addr) (c : Nat) (xs : List Fld) (hx : Okf xs) (hf : Sml f.name.length)  (w : World) (H : St w (Bk [rowF A c xs, visC v now size m A xs.length c none]) w [rowF A c xs, visC v now size m A xs.length c none]) :
    Calls Try.prog 86 #[.agg (encFl f).toArray, .pointer (some ⟨v, 0, none⟩)] w fun e w' => e = .returned (.tuple #[]) ∧ if m = litOptions ∧ 0 < (getF xs litOrigin).2 ∧ 0 < (getF xs litReqMethod).2 then ∃ r Af cf A' n' c', St w (Bk [rowF A c xs, visC v now size m A xs.length c none]) w' [verC r (200) Af ([(litAllowOrigin, f.value), (litAllowMethods, (getF xs litReqMethod).1)]).length cf (([] : Bs)), rowF Af cf ([(litAllowOrigin, f.value), (litAllowMethods, (getF xs litReqMethod).1)]), visC v now size m A' n' c' (some ⟨r, 0, none⟩)] else ∃ A' c', St w (Bk [rowF A c xs, visC v now size m A xs.length c none]) w' [rowF A' c' (xs), visC v now size m A' (xs).length c' none] := by
  refine calls_of Try.func86 rfl Try.ntmps86 (by rfl) (K0 := [(0, _), (1, _)]) ⟨rfl, rfl, trivial⟩ (WC.seq (WC.reg (WL.box (t := 76) (cs := [_, _, _, _, _, _]) rfl rfl H rfl fun b1 w1 hb1 H L => (WL.nil (WQ.tn (WC.seq (WC.reg (WL.v (Ev.move rfl) rfl (WL.v (Ev.nilCheck rfl) rfl (WL.v (Ev.fieldAddr fa101_3 rfl) rfl (WL.v (Ev.load fl32 rfl (H.cell 2 rfl rfl)) rfl (WL.call (vs := [_, _]) rfl cl82 rfl (fd_Get A c xs _ hx litOrigin (by unfold Sml; decide) _ (H.rd kFd 1 rfl).1) ?_))))))))))))
  rintro _ w1 ⟨rfl, H1⟩
  replace H := H.ext H1.gr
  refine ⟨_, rfl, ?_⟩
  refine WL.v (Ev.move rfl) rfl (WL.v (Ev.extract rfl rfl) rfl (WL.v (Ev.extract rfl rfl) rfl (WL.v (Ev.assign rfl) rfl (WL.v (Ev.assign rfl) rfl (WL.nil (WQ.tn (WC.seq (WC.reg (WL.v (Ev.move rfl) rfl (WL.v (Ev.nilCheck rfl) rfl (WL.v (Ev.fieldAddr fa101_3 rfl) rfl (WL.v (Ev.load fl32 rfl (H.cell 2 rfl rfl)) rfl (WL.call (vs := [_, _]) rfl cl82 rfl (fd_Get A c xs _ hx litReqMethod (by unfold Sml; decide) _ (H.rd kFd 1 rfl).1) ?_)))))))))))))
  rintro _ w1 ⟨rfl, H1⟩
  replace H := H.ext H1.gr
  refine ⟨_, rfl, ?_⟩
  refine WL.v (Ev.move rfl) rfl (WL.v (Ev.extract rfl rfl) rfl (WL.v (Ev.extract rfl rfl) rfl (WL.v (Ev.assign rfl) rfl (WL.v (Ev.assign rfl) rfl (WL.nil (WQ.tn (WC.seq (WC.reg (WL.v (Ev.move rfl) rfl (WL.v (Ev.nilCheck rfl) rfl (WL.v (Ev.fieldAddr fa101_2 rfl) rfl (WL.v (Ev.load fl9 rfl (H.cell 2 rfl rfl)) rfl (WL.v (Ev.eqs rfl rfl) rfl (WL.v (Ev.move rfl) rfl (WL.g (Met.yes rfl rfl) (fun hg => Ev.move rfl) rfl (WL.g (Met.yes rfl rfl) (fun hg => Ev.gtrN (b := 0) ((evG.un rfl).ev hg) rfl) rfl (WL.v (Ev.and rfl rfl rfl) rfl (WL.v (Ev.move rfl) rfl (WL.g (Met.yes rfl rfl) (fun hg => Ev.move rfl) rfl (WL.g (Met.yes rfl rfl) (fun hg => Ev.gtrN (b := 0) ((evG.un rfl).ev hg) rfl) rfl (WL.v (Ev.and rfl rfl rfl) rfl (WL.nil ?_))))))))))))))))))))))
  refine WQ.tn (WC.cond rfl (fun h0 => ?_) (fun h0 => ?_))
  · try simp only [bsimp] at h0
    refine WC.reg (WL.v (Ev.move rfl) rfl (WL.v (Ev.fieldAddr fa76_0 rfl) rfl (WL.v (Ev.fieldAddr fa66_0 rfl) rfl (WL.v (Ev.fieldAddr fa29_2 rfl) rfl (WL.v (Ev.load fl9 rfl (H.cell 0 rfl rfl)) rfl (WL.v (Ev.build (vs := [_, _]) (ps := [(_, _), (_, _)]) pl54 z54 rfl rfl) rfl (WL.v (Ev.move rfl) rfl (WL.v (Ev.build (vs := [_, _]) (ps := [(_, _), (_, _)]) pl54 z54 rfl rfl) rfl (WL.buildSlice (vs := [_, _, _, _]) (ps := [(_, _), (_, _)]) Try.underlying32 sz54 z54 rfl (by omega) (by omega) rfl rfl H rfl fun b2 w1 hb2 H L => ?_)))))))))
    have HV := (H.perm (σ' := [_, _, _, _]) (List.perm_middle (l₁ := [_, _, _]) (l₂ := [])).symm)
    refine WL.call (vs := [_, _, _, _]) rfl cl80 rfl (fl_say v now size m _ _ _ 200 _ (some ⟨b2, 0, none⟩) 2 2 _ HV.local1) ?_
    rintro _ w1 ⟨rfl, r, H1⟩
    replace H := HV.frame1 H1
    refine ⟨_, rfl, ?_⟩
    refine WL.nil (WQ.end0 rfl ?_)
    rw [if_pos (by obtain ⟨⟨h1, h2⟩, h3⟩ := h0; exact ⟨h1, h2, h3⟩)]
    have H := H.toRow 2 (m := 2) (k := 2) rfl rfl (by decide)
    exact ⟨rfl, r, some ⟨b2, 0, none⟩, 2, A, _, c, (H.perm (List.Perm.cons _ (List.Perm.swap _ _ _))).sub (List.Sublist.cons_cons _ (List.Sublist.cons_cons _ (List.Sublist.cons_cons _ (List.Sublist.cons _ (List.Sublist.cons _ (List.nil_sublist _))))))⟩
  try simp only [bsimp] at h0
  refine WC.skip (WQ.end0 rfl ?_)
  rw [if_neg (fun hh => by obtain ⟨h1, h2, h3⟩ := hh; rcases h0 with (h0 | h0) | h0; exact h0 h1; omega; omega)]
  exact ⟨rfl, A, c, H.tail⟩
theorem fl_back0 (f : Flt) (A : Option Addr) (c : Nat) (xs : List Fld) (hx : Okf xs) (hf : Sml f.name.length) (w : World) (H : St w (Bk [rowF A c xs]) w [rowF A c xs]) :
    Calls Try.prog 70 #[.agg (encFl f).toArray, .slice A xs.length c] w fun e w' => ∃ A' c', e = .returned (.slice A' (xs).length c') ∧ St w (Bk [rowF A c xs]) w' [rowF A' c' (xs)] := by
  refine calls_of Try.func70 rfl Try.ntmps70 (by rfl) (K0 := [(0, _), (1, _)]) ⟨rfl, rfl, trivial⟩ (WC.seq (WC.reg (WL.box (t := 66) (cs := [_, _, _, _, _, _]) rfl rfl H rfl fun b1 w1 hb1 H L => (WL.v (Ev.assign rfl) rfl (WL.nil (WQ.tn (WC.seq (WC.reg (WL.v (Ev.move rfl) rfl (WL.v (Ev.assign rfl) rfl (WL.nil (WQ.tn (WC.ret (WQ.ret1 rfl rfl ?_))))))))))))))
  exact ⟨A, c, rfl, H.tail⟩
theorem fl_back8 (f : Flt) (A : Option Addr) (c : Nat) (xs : List Fld) (hx : Okf xs) (hf : Sml f.name.length) (w : World) (H : St w (Bk [rowF A c xs]) w [rowF A c xs]) :
    Calls Try.prog 93 #[.agg (encFl f).toArray, .slice A xs.length c] w fun e w' => ∃ A' c', e = .returned (.slice A' (setF xs f.name f.value).length c') ∧ St w (Bk [rowF A c xs]) w' [rowF A' c' (setF xs f.name f.value)] := by
  refine calls_of Try.func93 rfl Try.ntmps93 (by rfl) (K0 := [(0, _), (1, _)]) ⟨rfl, rfl, trivial⟩ (WC.seq (WC.reg (WL.box (t := 80) (cs := [_, _, _, _, _, _]) rfl rfl H rfl fun b1 w1 hb1 H L => (WL.v (Ev.assign rfl) rfl (WL.nil (WQ.tn (WC.seq (WC.reg (WL.v (Ev.move rfl) rfl (WL.v (Ev.fieldAddr fa80_0 rfl) rfl (WL.v (Ev.fieldAddr fa66_0 rfl) rfl (WL.v (Ev.fieldAddr fa29_1 rfl) rfl (WL.v (Ev.load fl9 rfl (H.cell 0 rfl rfl)) rfl (WL.v (Ev.fieldAddr fa80_0 rfl) rfl (WL.v (Ev.fieldAddr fa66_0 rfl) rfl (WL.v (Ev.fieldAddr fa29_2 rfl) rfl (WL.v (Ev.load fl9 rfl (H.cell 0 rfl rfl)) rfl (WL.call (vs := [_, _, _]) rfl cl72 rfl (fd_Set A c xs _ hx f.name f.value hf _ (H.rd kFd 1 rfl).1) ?_))))))))))))))))))
  rintro _ w1 ⟨A2, c2, rfl, H1⟩
  replace H := H.app H1
  refine ⟨_, rfl, ?_⟩
  refine WL.v (Ev.assign rfl) rfl (WL.nil (WQ.tn (WC.ret (WQ.ret1 rfl rfl ?_))))
  exact ⟨A2, c2, rfl, H.sub (List.Sublist.cons_cons _ (List.Sublist.cons _ (List.Sublist.cons _ (List.nil_sublist _))))⟩
theorem fl_back5 (f : Flt) (A : Option Addr) (c : Nat) (xs : List Fld) (hx : Okf xs) (hf : Sml f.name.length) (w : World) (H : St w (Bk [rowF A c xs]) w [rowF A c xs]) :
    Calls Try.prog 85 #[.agg (encFl f).toArray, .slice A xs.length c] w fun e w' => ∃ A' c', e = .returned (.slice A' (setF xs litAllowOrigin f.value).length c') ∧ St w (Bk [rowF A c xs]) w' [rowF A' c' (setF xs litAllowOrigin f.value)] := by
  refine calls_of Try.func85 rfl Try.ntmps85 (by rfl) (K0 := [(0, _), (1, _)]) ⟨rfl, rfl, trivial⟩ (WC.seq (WC.reg (WL.box (t := 76) (cs := [_, _, _, _, _, _]) rfl rfl H rfl fun b1 w1 hb1 H L => (WL.v (Ev.assign rfl) rfl (WL.nil (WQ.tn (WC.seq (WC.reg (WL.v (Ev.move rfl) rfl (WL.v (Ev.fieldAddr fa76_0 rfl) rfl (WL.v (Ev.fieldAddr fa66_0 rfl) rfl (WL.v (Ev.fieldAddr fa29_2 rfl) rfl (WL.v (Ev.load fl9 rfl (H.cell 0 rfl rfl)) rfl (WL.call (vs := [_, _, _]) rfl cl72 rfl (fd_Set A c xs _ hx litAllowOrigin f.value (by unfold Sml; decide) _ (H.rd kFd 1 rfl).1) ?_))))))))))))))
  rintro _ w1 ⟨A2, c2, rfl, H1⟩
  replace H := H.app H1
  refine ⟨_, rfl, ?_⟩
  refine WL.v (Ev.assign rfl) rfl (WL.nil (WQ.tn (WC.ret (WQ.ret1 rfl rfl ?_))))
  exact ⟨A2, c2, rfl, H.sub (List.Sublist.cons_cons _ (List.Sublist.cons _ (List.Sublist.cons _ (List.nil_sublist _))))⟩
theorem mt1_on (u : Value) (w : World) : (method (Try.prog.types.size + Made.depth) 68 u "barbican/filter.on").run Try.prog w = .ok (71, u) w := by kernel_rfl
theorem mt1_back (a b c d e g : Value) (w : World) : (method (Try.prog.types.size + Made.depth) 68 (.agg #[a, b, c, d, e, g]) "barbican/filter.back").run Try.prog w = .ok (70, .agg #[a, b, c, d, e, g]) w := by kernel_rfl
theorem mt2_on (u : Value) (w : World) : (method (Try.prog.types.size + Made.depth) 69 u "barbican/filter.on").run Try.prog w = .ok (76, u) w := by kernel_rfl
theorem mt2_back (a b c d e g : Value) (w : World) : (method (Try.prog.types.size + Made.depth) 69 (.agg #[a, b, c, d, e, g]) "barbican/filter.back").run Try.prog w = .ok (70, .agg #[a, b, c, d, e, g]) w := by kernel_rfl
theorem mt3_on (u : Value) (w : World) : (method (Try.prog.types.size + Made.depth) 74 u "barbican/filter.on").run Try.prog w = .ok (78, u) w := by kernel_rfl
theorem mt3_back (a b c d e g p : Value) (w : World) : (method (Try.prog.types.size + Made.depth) 74 (.agg #[a, b, c, d, e, g, p]) "barbican/filter.back").run Try.prog w = .ok (70, .agg #[a, b, c, d, e, g]) w := by kernel_rfl
theorem mt4_on (u : Value) (w : World) : (method (Try.prog.types.size + Made.depth) 75 u "barbican/filter.on").run Try.prog w = .ok (81, u) w := by kernel_rfl
theorem mt4_back (a b c d e g : Value) (w : World) : (method (Try.prog.types.size + Made.depth) 75 (.agg #[a, b, c, d, e, g]) "barbican/filter.back").run Try.prog w = .ok (70, .agg #[a, b, c, d, e, g]) w := by kernel_rfl
theorem mt5_on (u : Value) (w : World) : (method (Try.prog.types.size + Made.depth) 76 u "barbican/filter.on").run Try.prog w = .ok (86, u) w := by kernel_rfl
theorem mt5_back (u : Value) (w : World) : (method (Try.prog.types.size + Made.depth) 76 u "barbican/filter.back").run Try.prog w = .ok (85, u) w := by kernel_rfl
theorem mt6_on (u : Value) (w : World) : (method (Try.prog.types.size + Made.depth) 77 u "barbican/filter.on").run Try.prog w = .ok (87, u) w := by kernel_rfl
theorem mt6_back (a b c d e g : Value) (w : World) : (method (Try.prog.types.size + Made.depth) 77 (.agg #[a, b, c, d, e, g]) "barbican/filter.back").run Try.prog w = .ok (70, .agg #[a, b, c, d, e, g]) w := by kernel_rfl
theorem mt7_on (u : Value) (w : World) : (method (Try.prog.types.size + Made.depth) 79 u "barbican/filter.on").run Try.prog w = .ok (88, u) w := by kernel_rfl
theorem mt7_back (a b c d e g p : Value) (w : World) : (method (Try.prog.types.size + Made.depth) 79 (.agg #[a, b, c, d, e, g, p]) "barbican/filter.back").run Try.prog w = .ok (70, .agg #[a, b, c, d, e, g]) w := by kernel_rfl
theorem mt8_on (u : Value) (w : World) : (method (Try.prog.types.size + Made.depth) 80 u "barbican/filter.on").run Try.prog w = .ok (94, u) w := by kernel_rfl
theorem mt8_back (u : Value) (w : World) : (method (Try.prog.types.size + Made.depth) 80 u "barbican/filter.back").run Try.prog w = .ok (93, u) w := by kernel_rfl
end Go.Proofs.Ytcmolgiccccnoaa
