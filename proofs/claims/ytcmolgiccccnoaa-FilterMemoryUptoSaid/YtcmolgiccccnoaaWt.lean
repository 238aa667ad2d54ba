/- The walks of functions: what each comes to. -/
import Derived.Test.YtcmolgiccccnoaaWa
import Derived.Test.YtcmolgiccccnoaaArr
import Derived.Test.YtcmolgiccccnoaaProg
set_option linter.unusedVariables false
set_option linter.unusedSimpArgs false
namespace Go.Proofs.Ytcmolgiccccnoaa
open Go.RowKit Go.BK
theorem cl9 : callB Try.prog 9 = true := by kernel_rfl
theorem cl45 : callB Try.prog 45 = true := by kernel_rfl
theorem cl50 : callB Try.prog 50 = true := by kernel_rfl
theorem z122 : zOk Try.prog 122 (.agg #[str [], str [], str [], str [], str [], str [], str [], str [], str [], str [], str [], str []]) := by unfold zOk; kernel_rfl
theorem sz122 : szOk Try.prog 122 12 := by unfold szOk; kernel_rfl
theorem cl44 : callB Try.prog 44 = true := by kernel_rfl
theorem cmp29 : cmpB Try.prog 29 [1, 0, 0, 1, 1, 1] = true := by kernel_rfl
theorem cl32 : callB Try.prog 32 = true := by kernel_rfl
theorem cl33 : callB Try.prog 33 = true := by kernel_rfl
theorem cl34 : callB Try.prog 34 = true := by kernel_rfl
theorem r14_in (n lo hi : Int) (w : World) :
    Calls Try.prog 34 #[.int .i64 n, .int .i64 lo, .int .i64 hi] w fun e w' => e = .returned (.bool (decide (lo ≤ n) && decide (n ≤ hi))) ∧ St w No w' [] := by
  refine calls_of Try.func34 rfl Try.ntmps34 (by rfl) (K0 := [(0, _), (1, _), (2, _)]) ⟨rfl, rfl, rfl, trivial⟩ ?_
  have H := St.init w
  refine WC.seq (WC.reg (WL.v (Ev.assign rfl) rfl (WL.nil (WQ.tn (WC.seq (WC.reg (WL.v (Ev.move rfl) rfl (WL.v (Ev.move rfl) rfl (WL.v (Ev.geq rfl rfl) rfl (WL.v (Ev.move rfl) rfl (WL.g (Met.yes rfl rfl) (fun hg => Ev.move rfl) rfl (WL.g (Met.yes rfl rfl) (fun hg => Ev.move rfl) rfl (WL.g (Met.yes rfl rfl) (fun hg => Ev.leq ((evG.un rfl).ev hg) ((evG.un rfl).ev hg)) rfl (WL.v (Ev.and rfl rfl rfl) rfl (WL.v (Ev.assign rfl) rfl (WL.nil (WQ.tn (WC.ret (WQ.ret1 rfl rfl ?_)))))))))))))))))))
  exact ⟨rfl, H⟩
def textOk (s : Bs) : Bool := value s && decide (s.length ≤ 256)
theorem r14_Text (s : Bs) (hs : Sml s.length) (w : World) :
    Calls Try.prog 33 #[str s] w fun e w' => e = .returned (.bool (textOk s)) ∧ St w No w' [] := by
  refine calls_of Try.func33 rfl Try.ntmps33 (by rfl) (K0 := [(0, _)]) ⟨rfl, trivial⟩ ?_
  have H := St.init w
  refine WC.seq (WC.reg (WL.v (Ev.assign rfl) rfl (WL.nil (WQ.tn (WC.seq (WC.reg (WL.v (Ev.move rfl) rfl (WL.callS (vs := [_]) rfl cl45 rfl H (ref04_Value _ hs _) fun w1 H L => (WL.v (Ev.move rfl) rfl (WL.g (Met.yes rfl rfl) (fun hg => Ev.move rfl) rfl (WL.g (Met.yes rfl rfl) (fun hg => Ev.lens Try.underlying9 ((evG.un rfl).ev hg)) rfl (WL.g (Met.yes rfl rfl) (fun hg => Ev.leqN (b := 256) ((evG.un rfl).ev hg) rfl) rfl (WL.v (Ev.and rfl rfl rfl) rfl (WL.v (Ev.assign rfl) rfl (WL.nil (WQ.tn (WC.ret (WQ.ret1 rfl rfl ?_))))))))))))))))))
  exact ⟨rfl, H⟩
theorem r14_Token (s : Bs) (hs : Sml s.length) (n : Nat) (w : World) :
    Calls Try.prog 44 #[str s, .int .i64 (n : Nat)] w fun e w' => e = .returned (.bool (token s && decide (s.length ≤ n))) ∧ St w No w' [] := by
  refine calls_of Try.func44 rfl Try.ntmps44 (by rfl) (K0 := [(0, _), (1, _)]) ⟨rfl, rfl, trivial⟩ ?_
  have H := St.init w
  refine WC.seq (WC.reg (WL.v (Ev.assign rfl) rfl (WL.nil (WQ.tn (WC.seq (WC.reg (WL.v (Ev.move rfl) rfl (WL.callS (vs := [_]) rfl cl50 rfl H (ref04_Token _ hs _) fun w1 H L => (WL.v (Ev.move rfl) rfl (WL.g (Met.yes rfl rfl) (fun hg => Ev.move rfl) rfl (WL.g (Met.yes rfl rfl) (fun hg => Ev.lens Try.underlying9 ((evG.un rfl).ev hg)) rfl (WL.g (Met.yes rfl rfl) (fun hg => Ev.move rfl) rfl (WL.g (Met.yes rfl rfl) (fun hg => Ev.leqN ((evG.un rfl).ev hg) ((evG.un rfl).ev hg)) rfl (WL.v (Ev.and rfl rfl rfl) rfl (WL.v (Ev.assign rfl) rfl (WL.nil (WQ.tn (WC.ret (WQ.ret1 rfl rfl ?_)))))))))))))))))))
  exact ⟨rfl, H⟩
def own14 : List Bs := [[104, 111, 115, 116], [99, 111, 110, 116, 101, 110, 116, 45, 108, 101, 110, 103, 116, 104], [101, 120, 112, 101, 99, 116], [120, 45, 102, 111, 114, 119, 97, 114, 100, 101, 100, 45, 102, 111, 114], [118, 105, 97], [99, 111, 110, 110, 101, 99, 116, 105, 111, 110], [107, 101, 101, 112, 45, 97, 108, 105, 118, 101], [112, 114, 111, 120, 121, 45, 99, 111, 110, 110, 101, 99, 116, 105, 111, 110], [116, 101], [116, 114, 97, 105, 108, 101, 114], [116, 114, 97, 110, 115, 102, 101, 114, 45, 101, 110, 99, 111, 100, 105, 110, 103], [117, 112, 103, 114, 97, 100, 101]]
def nameOk (s : Bs) : Bool := (own14.all fun o => !decide (low s = o)) && (token s && decide (s.length ≤ 32))
theorem own_get {i : Nat} (h : i < 12) : (own14.map str)[0 + i * 1]? = some (str (own14.getD i [])) := by
  have hl : i < own14.length := h
  rw [show 0 + i * 1 = i by omega, List.getElem?_map, List.getElem?_eq_getElem hl, List.getD_eq_getElem?_getD, List.getElem?_eq_getElem hl]
  rfl
theorem own_yes {s : Bs} {i : Nat} (h : i < 12) (hs : low s = own14.getD i []) : nameOk s = false := by
  have hl : i < own14.length := h
  rw [List.getD_eq_getElem?_getD, List.getElem?_eq_getElem hl] at hs
  have := all_no (p := fun o => !decide (low s = o)) hl (by simp [hs])
  unfold nameOk; rw [this]; rfl
theorem own_no {s : Bs} {i : Nat} (h : i < 12) (ha : (own14.take i).all (fun o => !decide (low s = o)) = true) (hs : ¬ low s = own14.getD i []) : (own14.take (i + 1)).all (fun o => !decide (low s = o)) = true := by
  have hl : i < own14.length := h
  rw [List.getD_eq_getElem?_getD, List.getElem?_eq_getElem hl] at hs
  exact all_take_succ hl ha (by simpa using hs)
theorem r14_Name (s : Bs) (hs : Sml s.length) (w : World) :
    Calls Try.prog 32 #[str s] w fun e w' => e = .returned (.bool (nameOk s)) ∧ St w No w' [] := by
  refine calls_of Try.func32 rfl Try.ntmps32 (by rfl) (K0 := [(0, _)]) ⟨rfl, trivial⟩ ?_
  have H := St.init w
  refine WC.seq (WC.reg (WL.v (Ev.assign rfl) rfl (WL.nil (WQ.tn (WC.seq (WC.reg (WL.v (Ev.buildA (vs := [_, _, _, _, _, _, _, _, _, _, _, _]) (ps := [(_, _), (_, _), (_, _), (_, _), (_, _), (_, _), (_, _), (_, _), (_, _), (_, _), (_, _), (_, _)]) Try.underlying122 sz9 z122 rfl rfl) rfl (WL.alloc z122 rfl H rfl fun b1 w1 hb1 H L => (WL.store (i := 0) (vs := [_, _, _, _, _, _, _, _, _, _, _, _]) rfl rfl rfl sz122 rfl H rfl rfl fun w1 H L => (WL.nil (WQ.tn (WC.seq (WC.seq (WC.reg (WL.v (Ev.assign rfl) rfl (WL.nil (WQ.tn (WC.block (WC.loop (γ := Nat) (fun i => [(0, str s), (3, .pointer (some ⟨b1, 0, none⟩)), (4, .int .i64 (i : Nat))]) (fun i w1 => i ≤ 12 ∧ (own14.take i).all (fun o => !decide (low s = o)) = true ∧ St w No w1 [.blk b1 (own14.map str) 122 (0, 0)]) (fun i => 12 - i) 0 (⟨by omega, rfl, H⟩) ⟨rfl, rfl, rfl, trivial⟩ ?_)))))))))))))))))))
  rintro i w1 ⟨hi, ha, H⟩
  refine WC.seq (WC.seq (WC.reg (WL.v (Ev.move rfl) rfl (WL.v (Ev.lssN (b := 12) rfl rfl) rfl (WL.nil (WQ.tn (WC.cond rfl (fun h1 => ?_) (fun h1 => ?_))))))))
  · try simp only [bsimp] at h1
    refine WC.skip (WQ.tn (WC.seq (WC.block (WC.seq (WC.drawT mixed (No) 6 [(false, 0), (false, 2), (false, 3), (false, 4), (true, 1), (false, 5)] (by kernel_rfl) ?_)))))
    intro w1 L
    replace H := H.ext L
    have hK := Gr.refl (No) w1
    have HD := H
    refine WX.v rfl (fun w2 hC => Ev.move rfl) rfl (WX.v rfl (fun w2 hC => Ev.move rfl) rfl (WX.v rfl (fun w2 hC => Ev.idxA Try.underlying122 sz9 rfl rfl (by omega)) rfl (WX.v rfl (fun w2 hC => Ev.load fl9 rfl (Gr.cell hC (fun h => h) (HD.cell 0 rfl (own_get h1)))) rfl (WX.loud rfl rfl (WL.callS (vs := [_]) rfl cl42 rfl H (ref04_Lower _ hs _) fun w1 H L => ?_)))))
    replace hK := hK.ext L
    refine WL.nil (WQ.back (fun _ => hK) (WX.v rfl (fun w2 hC => Ev.eqs rfl rfl) rfl (WX.nil (WQ.tn (WC.cond rfl (fun h2 => ?_) (fun h2 => ?_))))))
    · try simp only [bsimp] at h2
      refine WC.seq (WC.reg (WL.v (Ev.assign rfl) rfl (WL.nil (WQ.tn (WC.ret (WQ.blk_ret (WQ.tn_ret (WQ.loop_ret (WQ.blk_ret (WQ.tn_ret (WQ.ret1 rfl rfl ?_)))))))))))
      exact ⟨by rw [own_yes h1 h2], H.done⟩
    try simp only [bsimp] at h2
    refine WC.skip (WQ.blk (WQ.tn (WC.reg (WL.v (Ev.move rfl) rfl (WL.v (Ev.addN (b := 1) rfl rfl (by omega)) rfl (WL.v (Ev.assign rfl) rfl (WL.nil ?_)))))))
    exact WQ.again (i + 1) (⟨by omega, own_no h1 ha h2, H⟩) ⟨rfl, rfl, rfl, trivial⟩ (by first | omega | (dsimp only; omega))
  try simp only [bsimp] at h1
  refine WC.exit (WQ.tn_exit (WQ.loop_exit (WQ.blk_here rfl (WQ.tn (WC.seq (WC.reg (WL.v (Ev.move rfl) rfl (WL.callS (vs := [_, _]) rfl cl44 rfl H (r14_Token _ hs 32 _) fun w1 H L => (WL.v (Ev.assign rfl) rfl (WL.nil (WQ.tn (WC.ret (WQ.ret1 rfl rfl ?_)))))))))))))
  obtain rfl : i = 12 := by omega
  exact ⟨by unfold nameOk; rw [show own14.all (fun o => !decide (low s = o)) = true from ha]; rfl, H.done⟩
def zeroFl (k : Int) : Flt := ⟨k, [], [], 0, 0, 0⟩
def rightF (f : Flt) : Bool :=
  if f.kind = 1 ∨ f.kind = 8 then decide (f.n = 0 ∧ f.m = 0 ∧ f.k = 0) && nameOk f.name && textOk f.value
  else if f.kind = 2 then decide (f.value = [] ∧ f.n = 0 ∧ f.m = 0 ∧ f.k = 0) && nameOk f.name
  else if f.kind = 3 then decide (f.name = [] ∧ f.value = []) && decide (goodB f.n f.m f.k)
  else if f.kind = 4 then decide (f.n = 0 ∧ f.m = 0 ∧ f.k = 0) && nameOk f.name && textOk f.value && decide (f.value ≠ [])
  else if f.kind = 5 then decide (f.name = [] ∧ f.n = 0 ∧ f.m = 0 ∧ f.k = 0) && textOk f.value && decide (f.value ≠ [])
  else if f.kind = 6 then decide (f.name = [] ∧ f.value = [] ∧ f.m = 0 ∧ f.k = 0) && decide (0 ≤ f.n ∧ f.n ≤ 65536)
  else if f.kind = 7 then decide (f.name = [] ∧ f.value = [] ∧ f.k = 0) && decide ((0 ≤ f.n ∧ f.n ≤ 100) ∧ (400 ≤ f.m ∧ f.m ≤ 599))
  else false
set_option maxRecDepth 20000 in
set_option maxHeartbeats 1000000 in
theorem r14_Filter (f : Flt) (hn : Sml f.name.length) (hv : Sml f.value.length) (w : World) :
    Calls Try.prog 22 #[.agg (encFl f).toArray] w fun e w' => e = .returned (.bool (rightF f)) ∧ St w No w' [] := by
  refine calls_of Try.func22 rfl Try.ntmps22 (by rfl) (K0 := [(0, _)]) ⟨rfl, trivial⟩ ?_
  have H := St.init w
  refine WC.seq (WC.reg (WL.box (t := 29) (cs := [_, _, _, _, _, _]) rfl rfl H rfl fun b1 w1 hb1 H L => (WL.v (Ev.assign rfl) rfl (WL.nil (WQ.tn (WC.seq (WC.reg (WL.v (Ev.fieldAddr fa29_0 rfl) rfl (WL.v (Ev.load fl3 rfl (H.cell 0 rfl rfl)) rfl (WL.v (Ev.build (vs := [_, _, _, _, _, _]) (ps := [(_, _)]) pl29 z29 rfl rfl) rfl (WL.alloc z29 rfl H rfl fun b2 w1 hb2 H L => (WL.store (i := 0) (vs := [_, _, _, _, _, _]) rfl rfl rfl sz29 rfl H rfl rfl fun w1 H L => (WL.nil (WQ.tn (WC.seq (WC.seq (WC.reg (WL.v (Ev.fieldAddr fa29_0 rfl) rfl (WL.v (Ev.load fl3 rfl (H.cell 1 rfl rfl)) rfl (WL.nil ?_))))))))))))))))))))
  refine WQ.tn (WC.block (WC.seq (WC.seq (WC.reg (WL.v (Ev.eqi rfl rfl) rfl (WL.v (Ev.assign rfl) rfl (WL.nil (WQ.tn (WC.cond rfl (fun h0 => ?_) (fun h0 => ?_))))))))))
  · try simp only [bsimp] at h0
    refine WC.skip (WQ.tn (WC.cond rfl (fun h1 => ?_) (fun h1 => ?_)))
    · try simp only [bsimp] at h1
      refine WC.seq (WC.drawT mixed ((fun k => k = b2)) 7 [(false, 0), (false, 1), (false, 2), (false, 3), (false, 4), (true, 5), (false, 6), (true, 7)] (by kernel_rfl) ?_)
      intro w1 L
      replace H := H.ext L
      have hnb := H.ne 1 0 rfl rfl rfl
      have hK := Gr.refl ((fun k => k = b2)) w1
      have HD := H
      refine WX.v rfl (fun w2 hC => Ev.fieldAddr fa29_1 rfl) rfl (WX.v rfl (fun w2 hC => Ev.load fl9 rfl (Gr.cell hC hnb (HD.cell 1 rfl rfl))) rfl (WX.v rfl (fun w2 hC => Ev.fieldAddr fa29_2 rfl) rfl (WX.v rfl (fun w2 hC => Ev.load fl9 rfl (Gr.cell hC hnb (HD.cell 1 rfl rfl))) rfl (WX.v rfl (fun w2 hC => Ev.fieldAddr fa29_1 rfl) rfl (WX.loud rfl rfl (WL.store (i := 0) (vs := [_]) rfl rfl rfl sz9 rfl H rfl rfl fun w1 H L => ?_))))))
      replace hK := hK.trans L
      refine WL.nil (WQ.back (fun _ => hK) (WX.v rfl (fun w2 hC => Ev.fieldAddr fa29_2 rfl) rfl (WX.loud rfl rfl (WL.store (i := 0) (vs := [_]) rfl rfl rfl sz9 rfl H rfl rfl fun w1 H L => (WL.nil (WQ.back (fun h => absurd rfl h) (WX.nil (WQ.tn (WC.seq (WC.reg (WL.v (Ev.loadA (vs := [_, _, _, _, _, _]) ag29 sz29 rfl (H.cells 1 rfl rfl)) rfl (WL.v (Ev.loadA (vs := [_, _, _, _, _, _]) ag29 sz29 rfl (H.cells 0 rfl rfl)) rfl (WL.v (Ev.eqA (us := [_, _, _, _, _, _]) (vs := [_, _, _, _, _, _]) cmp29 rfl rfl (.int (.str (.str (.int (.int (.int .nil))))))) rfl (WL.v (Ev.move rfl) rfl (WL.g (Met.yes rfl rfl) (fun hg => Ev.fieldAddr fa29_1 rfl) rfl (WL.g (Met.yes rfl rfl) (fun hg => Ev.load fl9 ((evG.un rfl).ev hg) (H.cell 1 rfl rfl)) rfl (WL.gcallS (vs := [_]) (Met.yes rfl rfl) (fun hg => (evs_cons ((evG.un rfl).ev hg) rfl)) cl32 rfl H (fun hg => r14_Name _ hn _) fun w1 H L => (WL.v (Ev.and rfl rfl rfl) rfl (WL.v (Ev.move rfl) rfl (WL.g (Met.yes rfl rfl) (fun hg => Ev.fieldAddr fa29_2 rfl) rfl (WL.g (Met.yes rfl rfl) (fun hg => Ev.load fl9 ((evG.un rfl).ev hg) (H.cell 1 rfl rfl)) rfl (WL.gcallS (vs := [_]) (Met.yes rfl rfl) (fun hg => (evs_cons ((evG.un rfl).ev hg) rfl)) cl33 rfl H (fun hg => r14_Text _ hv _) fun w1 H L => (WL.v (Ev.and rfl rfl rfl) rfl (WL.v (Ev.assign rfl) rfl (WL.nil ?_)))))))))))))))))))))))))
      refine WQ.tn (WC.ret (WQ.blk_ret (WQ.tn_ret (WQ.ret1 rfl rfl (⟨congrArg (fun b => Ending.returned (.bool b)) (Bool.eq_iff_iff.2 ?_), H.done⟩)))))
      unfold rightF
      simp_all [goodB, and_assoc]
    try simp only [bsimp] at h1
    refine WC.seq (WC.reg (WL.v (Ev.eqi rfl rfl) rfl (WL.v (Ev.assign rfl) rfl (WL.nil (WQ.tn (WC.cond rfl (fun h2 => ?_) (fun h2 => ?_)))))))
    · try simp only [bsimp] at h2
      refine WC.seq (WC.reg (WL.v (Ev.fieldAddr fa29_1 rfl) rfl (WL.v (Ev.load fl9 rfl (H.cell 1 rfl rfl)) rfl (WL.v (Ev.fieldAddr fa29_1 rfl) rfl (WL.store (i := 0) (vs := [_]) rfl rfl rfl sz9 rfl H rfl rfl fun w1 H L => (WL.nil (WQ.tn (WC.seq (WC.reg (WL.v (Ev.loadA (vs := [_, _, _, _, _, _]) ag29 sz29 rfl (H.cells 1 rfl rfl)) rfl (WL.v (Ev.loadA (vs := [_, _, _, _, _, _]) ag29 sz29 rfl (H.cells 0 rfl rfl)) rfl (WL.v (Ev.eqA (us := [_, _, _, _, _, _]) (vs := [_, _, _, _, _, _]) cmp29 rfl rfl (.int (.str (.str (.int (.int (.int .nil))))))) rfl (WL.v (Ev.move rfl) rfl (WL.g (Met.yes rfl rfl) (fun hg => Ev.fieldAddr fa29_1 rfl) rfl (WL.g (Met.yes rfl rfl) (fun hg => Ev.load fl9 ((evG.un rfl).ev hg) (H.cell 1 rfl rfl)) rfl (WL.gcallS (vs := [_]) (Met.yes rfl rfl) (fun hg => (evs_cons ((evG.un rfl).ev hg) rfl)) cl32 rfl H (fun hg => r14_Name _ hn _) fun w1 H L => (WL.v (Ev.and rfl rfl rfl) rfl (WL.v (Ev.assign rfl) rfl (WL.nil ?_)))))))))))))))))))
      refine WQ.tn (WC.ret (WQ.blk_ret (WQ.tn_ret (WQ.ret1 rfl rfl (⟨congrArg (fun b => Ending.returned (.bool b)) (Bool.eq_iff_iff.2 ?_), H.done⟩)))))
      unfold rightF
      simp_all [goodB, and_assoc]
    try simp only [bsimp] at h2
    refine WC.seq (WC.reg (WL.v (Ev.eqi rfl rfl) rfl (WL.v (Ev.assign rfl) rfl (WL.nil (WQ.tn (WC.cond rfl (fun h3 => ?_) (fun h3 => ?_)))))))
    · try simp only [bsimp] at h3
      refine WC.seq (WC.drawT mixed ((fun k => k = b2)) 11 [(false, 0), (false, 1), (false, 2), (false, 3), (false, 4), (false, 5), (false, 6), (true, 7), (false, 8), (true, 9), (false, 10), (true, 11)] (by kernel_rfl) ?_)
      intro w1 L
      replace H := H.ext L
      have hnb := H.ne 1 0 rfl rfl rfl
      have hK := Gr.refl ((fun k => k = b2)) w1
      have HD := H
      refine WX.v rfl (fun w2 hC => Ev.fieldAddr fa29_3 rfl) rfl (WX.v rfl (fun w2 hC => Ev.load fl3 rfl (Gr.cell hC hnb (HD.cell 1 rfl rfl))) rfl (WX.v rfl (fun w2 hC => Ev.fieldAddr fa29_4 rfl) rfl (WX.v rfl (fun w2 hC => Ev.load fl3 rfl (Gr.cell hC hnb (HD.cell 1 rfl rfl))) rfl (WX.v rfl (fun w2 hC => Ev.fieldAddr fa29_5 rfl) rfl (WX.v rfl (fun w2 hC => Ev.load fl3 rfl (Gr.cell hC hnb (HD.cell 1 rfl rfl))) rfl (WX.v rfl (fun w2 hC => Ev.fieldAddr fa29_3 rfl) rfl (WX.loud rfl rfl (WL.store (i := 0) (vs := [_]) rfl rfl rfl sz3 rfl H rfl rfl fun w1 H L => ?_))))))))
      replace hK := hK.trans L
      refine WL.nil (WQ.back (fun _ => hK) (WX.v rfl (fun w2 hC => Ev.fieldAddr fa29_4 rfl) rfl (WX.loud rfl rfl (WL.store (i := 0) (vs := [_]) rfl rfl rfl sz3 rfl H rfl rfl fun w1 H L => ?_))))
      replace hK := hK.trans L
      refine WL.nil (WQ.back (fun _ => hK) (WX.v rfl (fun w2 hC => Ev.fieldAddr fa29_5 rfl) rfl (WX.loud rfl rfl (WL.store (i := 0) (vs := [_]) rfl rfl rfl sz3 rfl H rfl rfl fun w1 H L => (WL.nil (WQ.back (fun h => absurd rfl h) (WX.nil (WQ.tn (WC.seq (WC.reg (WL.v (Ev.loadA (vs := [_, _, _, _, _, _]) ag29 sz29 rfl (H.cells 1 rfl rfl)) rfl (WL.v (Ev.loadA (vs := [_, _, _, _, _, _]) ag29 sz29 rfl (H.cells 0 rfl rfl)) rfl (WL.v (Ev.eqA (us := [_, _, _, _, _, _]) (vs := [_, _, _, _, _, _]) cmp29 rfl rfl (.int (.str (.str (.int (.int (.int .nil))))))) rfl (WL.v (Ev.move rfl) rfl (WL.g (Met.yes rfl rfl) (fun hg => Ev.fieldAddr fa29_3 rfl) rfl (WL.g (Met.yes rfl rfl) (fun hg => Ev.load fl3 ((evG.un rfl).ev hg) (H.cell 1 rfl rfl)) rfl (WL.gcallS (vs := [_, _, _]) (Met.yes rfl rfl) (fun hg => (evs_cons ((evG.un rfl).ev hg) (evs_cons rfl (evs_cons rfl rfl)))) cl34 rfl H (fun hg => r14_in _ _ _ _) fun w1 H L => (WL.v (Ev.and rfl rfl rfl) rfl (WL.v (Ev.move rfl) rfl (WL.g (Met.yes rfl rfl) (fun hg => Ev.fieldAddr fa29_4 rfl) rfl (WL.g (Met.yes rfl rfl) (fun hg => Ev.load fl3 ((evG.un rfl).ev hg) (H.cell 1 rfl rfl)) rfl (WL.gcallS (vs := [_, _, _]) (Met.yes rfl rfl) (fun hg => (evs_cons ((evG.un rfl).ev hg) (evs_cons rfl (evs_cons rfl rfl)))) cl34 rfl H (fun hg => r14_in _ _ _ _) fun w1 H L => (WL.v (Ev.and rfl rfl rfl) rfl (WL.v (Ev.move rfl) rfl (WL.g (Met.yes rfl rfl) (fun hg => Ev.fieldAddr fa29_5 rfl) rfl (WL.g (Met.yes rfl rfl) (fun hg => Ev.load fl3 ((evG.un rfl).ev hg) (H.cell 1 rfl rfl)) rfl (WL.gcallS (vs := [_, _, _]) (Met.yes rfl rfl) (fun hg => (evs_cons ((evG.un rfl).ev hg) (evs_cons rfl (evs_cons rfl rfl)))) cl34 rfl H (fun hg => r14_in _ _ _ _) fun w1 H L => (WL.v (Ev.and rfl rfl rfl) rfl (WL.v (Ev.assign rfl) rfl (WL.nil ?_))))))))))))))))))))))))))))))
      refine WQ.tn (WC.ret (WQ.blk_ret (WQ.tn_ret (WQ.ret1 rfl rfl (⟨congrArg (fun b => Ending.returned (.bool b)) (Bool.eq_iff_iff.2 ?_), H.done⟩)))))
      unfold rightF
      simp_all [goodB, and_assoc]
    try simp only [bsimp] at h3
    refine WC.seq (WC.reg (WL.v (Ev.eqi rfl rfl) rfl (WL.v (Ev.assign rfl) rfl (WL.nil (WQ.tn (WC.cond rfl (fun h4 => ?_) (fun h4 => ?_)))))))
    · try simp only [bsimp] at h4
      refine WC.seq (WC.drawT mixed ((fun k => k = b2)) 7 [(false, 0), (false, 1), (false, 2), (false, 3), (false, 4), (true, 5), (false, 6), (true, 7)] (by kernel_rfl) ?_)
      intro w1 L
      replace H := H.ext L
      have hnb := H.ne 1 0 rfl rfl rfl
      have hK := Gr.refl ((fun k => k = b2)) w1
      have HD := H
      refine WX.v rfl (fun w2 hC => Ev.fieldAddr fa29_1 rfl) rfl (WX.v rfl (fun w2 hC => Ev.load fl9 rfl (Gr.cell hC hnb (HD.cell 1 rfl rfl))) rfl (WX.v rfl (fun w2 hC => Ev.fieldAddr fa29_2 rfl) rfl (WX.v rfl (fun w2 hC => Ev.load fl9 rfl (Gr.cell hC hnb (HD.cell 1 rfl rfl))) rfl (WX.v rfl (fun w2 hC => Ev.fieldAddr fa29_1 rfl) rfl (WX.loud rfl rfl (WL.store (i := 0) (vs := [_]) rfl rfl rfl sz9 rfl H rfl rfl fun w1 H L => ?_))))))
      replace hK := hK.trans L
      refine WL.nil (WQ.back (fun _ => hK) (WX.v rfl (fun w2 hC => Ev.fieldAddr fa29_2 rfl) rfl (WX.loud rfl rfl (WL.store (i := 0) (vs := [_]) rfl rfl rfl sz9 rfl H rfl rfl fun w1 H L => (WL.nil (WQ.back (fun h => absurd rfl h) (WX.nil (WQ.tn (WC.seq (WC.reg (WL.v (Ev.loadA (vs := [_, _, _, _, _, _]) ag29 sz29 rfl (H.cells 1 rfl rfl)) rfl (WL.v (Ev.loadA (vs := [_, _, _, _, _, _]) ag29 sz29 rfl (H.cells 0 rfl rfl)) rfl (WL.v (Ev.eqA (us := [_, _, _, _, _, _]) (vs := [_, _, _, _, _, _]) cmp29 rfl rfl (.int (.str (.str (.int (.int (.int .nil))))))) rfl (WL.v (Ev.move rfl) rfl (WL.g (Met.yes rfl rfl) (fun hg => Ev.fieldAddr fa29_1 rfl) rfl (WL.g (Met.yes rfl rfl) (fun hg => Ev.load fl9 ((evG.un rfl).ev hg) (H.cell 1 rfl rfl)) rfl (WL.gcallS (vs := [_]) (Met.yes rfl rfl) (fun hg => (evs_cons ((evG.un rfl).ev hg) rfl)) cl32 rfl H (fun hg => r14_Name _ hn _) fun w1 H L => (WL.v (Ev.and rfl rfl rfl) rfl (WL.v (Ev.move rfl) rfl (WL.g (Met.yes rfl rfl) (fun hg => Ev.fieldAddr fa29_2 rfl) rfl (WL.g (Met.yes rfl rfl) (fun hg => Ev.load fl9 ((evG.un rfl).ev hg) (H.cell 1 rfl rfl)) rfl (WL.gcallS (vs := [_]) (Met.yes rfl rfl) (fun hg => (evs_cons ((evG.un rfl).ev hg) rfl)) cl33 rfl H (fun hg => r14_Text _ hv _) fun w1 H L => (WL.v (Ev.and rfl rfl rfl) rfl (WL.v (Ev.move rfl) rfl (WL.g (Met.yes rfl rfl) (fun hg => Ev.fieldAddr fa29_2 rfl) rfl (WL.g (Met.yes rfl rfl) (fun hg => Ev.load fl9 ((evG.un rfl).ev hg) (H.cell 1 rfl rfl)) rfl (WL.g (Met.yes rfl rfl) (fun hg => Ev.nes ((evG.un rfl).ev hg) rfl) rfl (WL.v (Ev.and rfl rfl rfl) rfl (WL.v (Ev.assign rfl) rfl (WL.nil ?_))))))))))))))))))))))))))))))
      refine WQ.tn (WC.ret (WQ.blk_ret (WQ.tn_ret (WQ.ret1 rfl rfl (⟨congrArg (fun b => Ending.returned (.bool b)) (Bool.eq_iff_iff.2 ?_), H.done⟩)))))
      unfold rightF
      simp_all [goodB, and_assoc]
    try simp only [bsimp] at h4
    refine WC.seq (WC.reg (WL.v (Ev.eqi rfl rfl) rfl (WL.v (Ev.assign rfl) rfl (WL.nil (WQ.tn (WC.cond rfl (fun h5 => ?_) (fun h5 => ?_)))))))
    · try simp only [bsimp] at h5
      refine WC.seq (WC.reg (WL.v (Ev.fieldAddr fa29_2 rfl) rfl (WL.v (Ev.load fl9 rfl (H.cell 1 rfl rfl)) rfl (WL.v (Ev.fieldAddr fa29_2 rfl) rfl (WL.store (i := 0) (vs := [_]) rfl rfl rfl sz9 rfl H rfl rfl fun w1 H L => (WL.nil (WQ.tn (WC.seq (WC.reg (WL.v (Ev.loadA (vs := [_, _, _, _, _, _]) ag29 sz29 rfl (H.cells 1 rfl rfl)) rfl (WL.v (Ev.loadA (vs := [_, _, _, _, _, _]) ag29 sz29 rfl (H.cells 0 rfl rfl)) rfl (WL.v (Ev.eqA (us := [_, _, _, _, _, _]) (vs := [_, _, _, _, _, _]) cmp29 rfl rfl (.int (.str (.str (.int (.int (.int .nil))))))) rfl (WL.v (Ev.move rfl) rfl (WL.g (Met.yes rfl rfl) (fun hg => Ev.fieldAddr fa29_2 rfl) rfl (WL.g (Met.yes rfl rfl) (fun hg => Ev.load fl9 ((evG.un rfl).ev hg) (H.cell 1 rfl rfl)) rfl (WL.gcallS (vs := [_]) (Met.yes rfl rfl) (fun hg => (evs_cons ((evG.un rfl).ev hg) rfl)) cl33 rfl H (fun hg => r14_Text _ hv _) fun w1 H L => (WL.v (Ev.and rfl rfl rfl) rfl (WL.v (Ev.move rfl) rfl (WL.g (Met.yes rfl rfl) (fun hg => Ev.fieldAddr fa29_2 rfl) rfl (WL.g (Met.yes rfl rfl) (fun hg => Ev.load fl9 ((evG.un rfl).ev hg) (H.cell 1 rfl rfl)) rfl (WL.g (Met.yes rfl rfl) (fun hg => Ev.nes ((evG.un rfl).ev hg) rfl) rfl (WL.v (Ev.and rfl rfl rfl) rfl (WL.v (Ev.assign rfl) rfl (WL.nil ?_))))))))))))))))))))))))
      refine WQ.tn (WC.ret (WQ.blk_ret (WQ.tn_ret (WQ.ret1 rfl rfl (⟨congrArg (fun b => Ending.returned (.bool b)) (Bool.eq_iff_iff.2 ?_), H.done⟩)))))
      unfold rightF
      simp_all [goodB, and_assoc]
    try simp only [bsimp] at h5
    refine WC.seq (WC.reg (WL.v (Ev.eqi rfl rfl) rfl (WL.v (Ev.assign rfl) rfl (WL.nil (WQ.tn (WC.cond rfl (fun h6 => ?_) (fun h6 => ?_)))))))
    · try simp only [bsimp] at h6
      refine WC.seq (WC.reg (WL.v (Ev.fieldAddr fa29_3 rfl) rfl (WL.v (Ev.load fl3 rfl (H.cell 1 rfl rfl)) rfl (WL.v (Ev.fieldAddr fa29_3 rfl) rfl (WL.store (i := 0) (vs := [_]) rfl rfl rfl sz3 rfl H rfl rfl fun w1 H L => (WL.nil (WQ.tn (WC.seq (WC.reg (WL.v (Ev.loadA (vs := [_, _, _, _, _, _]) ag29 sz29 rfl (H.cells 1 rfl rfl)) rfl (WL.v (Ev.loadA (vs := [_, _, _, _, _, _]) ag29 sz29 rfl (H.cells 0 rfl rfl)) rfl (WL.v (Ev.eqA (us := [_, _, _, _, _, _]) (vs := [_, _, _, _, _, _]) cmp29 rfl rfl (.int (.str (.str (.int (.int (.int .nil))))))) rfl (WL.v (Ev.move rfl) rfl (WL.g (Met.yes rfl rfl) (fun hg => Ev.fieldAddr fa29_3 rfl) rfl (WL.g (Met.yes rfl rfl) (fun hg => Ev.load fl3 ((evG.un rfl).ev hg) (H.cell 1 rfl rfl)) rfl (WL.gcallS (vs := [_, _, _]) (Met.yes rfl rfl) (fun hg => (evs_cons ((evG.un rfl).ev hg) (evs_cons rfl (evs_cons rfl rfl)))) cl34 rfl H (fun hg => r14_in _ _ _ _) fun w1 H L => (WL.v (Ev.and rfl rfl rfl) rfl (WL.v (Ev.assign rfl) rfl (WL.nil ?_)))))))))))))))))))
      refine WQ.tn (WC.ret (WQ.blk_ret (WQ.tn_ret (WQ.ret1 rfl rfl (⟨congrArg (fun b => Ending.returned (.bool b)) (Bool.eq_iff_iff.2 ?_), H.done⟩)))))
      unfold rightF
      simp_all [goodB, and_assoc]
    try simp only [bsimp] at h6
    refine WC.seq (WC.reg (WL.v (Ev.eqi rfl rfl) rfl (WL.v (Ev.assign rfl) rfl (WL.nil (WQ.tn (WC.cond rfl (fun h7 => ?_) (fun h7 => ?_)))))))
    · try simp only [bsimp] at h7
      refine WC.seq (WC.drawT mixed ((fun k => k = b2)) 7 [(false, 0), (false, 1), (false, 2), (false, 3), (false, 4), (true, 5), (false, 6), (true, 7)] (by kernel_rfl) ?_)
      intro w1 L
      replace H := H.ext L
      have hnb := H.ne 1 0 rfl rfl rfl
      have hK := Gr.refl ((fun k => k = b2)) w1
      have HD := H
      refine WX.v rfl (fun w2 hC => Ev.fieldAddr fa29_3 rfl) rfl (WX.v rfl (fun w2 hC => Ev.load fl3 rfl (Gr.cell hC hnb (HD.cell 1 rfl rfl))) rfl (WX.v rfl (fun w2 hC => Ev.fieldAddr fa29_4 rfl) rfl (WX.v rfl (fun w2 hC => Ev.load fl3 rfl (Gr.cell hC hnb (HD.cell 1 rfl rfl))) rfl (WX.v rfl (fun w2 hC => Ev.fieldAddr fa29_3 rfl) rfl (WX.loud rfl rfl (WL.store (i := 0) (vs := [_]) rfl rfl rfl sz3 rfl H rfl rfl fun w1 H L => ?_))))))
      replace hK := hK.trans L
      refine WL.nil (WQ.back (fun _ => hK) (WX.v rfl (fun w2 hC => Ev.fieldAddr fa29_4 rfl) rfl (WX.loud rfl rfl (WL.store (i := 0) (vs := [_]) rfl rfl rfl sz3 rfl H rfl rfl fun w1 H L => (WL.nil (WQ.back (fun h => absurd rfl h) (WX.nil (WQ.tn (WC.seq (WC.reg (WL.v (Ev.loadA (vs := [_, _, _, _, _, _]) ag29 sz29 rfl (H.cells 1 rfl rfl)) rfl (WL.v (Ev.loadA (vs := [_, _, _, _, _, _]) ag29 sz29 rfl (H.cells 0 rfl rfl)) rfl (WL.v (Ev.eqA (us := [_, _, _, _, _, _]) (vs := [_, _, _, _, _, _]) cmp29 rfl rfl (.int (.str (.str (.int (.int (.int .nil))))))) rfl (WL.v (Ev.move rfl) rfl (WL.g (Met.yes rfl rfl) (fun hg => Ev.fieldAddr fa29_3 rfl) rfl (WL.g (Met.yes rfl rfl) (fun hg => Ev.load fl3 ((evG.un rfl).ev hg) (H.cell 1 rfl rfl)) rfl (WL.gcallS (vs := [_, _, _]) (Met.yes rfl rfl) (fun hg => (evs_cons ((evG.un rfl).ev hg) (evs_cons rfl (evs_cons rfl rfl)))) cl34 rfl H (fun hg => r14_in _ _ _ _) fun w1 H L => (WL.v (Ev.and rfl rfl rfl) rfl (WL.v (Ev.move rfl) rfl (WL.g (Met.yes rfl rfl) (fun hg => Ev.fieldAddr fa29_4 rfl) rfl (WL.g (Met.yes rfl rfl) (fun hg => Ev.load fl3 ((evG.un rfl).ev hg) (H.cell 1 rfl rfl)) rfl (WL.gcallS (vs := [_, _, _]) (Met.yes rfl rfl) (fun hg => (evs_cons ((evG.un rfl).ev hg) (evs_cons rfl (evs_cons rfl rfl)))) cl34 rfl H (fun hg => r14_in _ _ _ _) fun w1 H L => (WL.v (Ev.and rfl rfl rfl) rfl (WL.v (Ev.assign rfl) rfl (WL.nil ?_)))))))))))))))))))))))))
      refine WQ.tn (WC.ret (WQ.blk_ret (WQ.tn_ret (WQ.ret1 rfl rfl (⟨congrArg (fun b => Ending.returned (.bool b)) (Bool.eq_iff_iff.2 ?_), H.done⟩)))))
      unfold rightF
      simp_all [goodB, and_assoc]
    try simp only [bsimp] at h7
    refine WC.skip (WQ.blk (WQ.tn (WC.seq (WC.reg (WL.v (Ev.assign rfl) rfl (WL.nil (WQ.tn (WC.ret (WQ.ret1 rfl rfl (⟨congrArg (fun b => Ending.returned (.bool b)) (Bool.eq_iff_iff.2 ?_), H.done⟩))))))))))
    unfold rightF
    simp_all [goodB, and_assoc]
  try simp only [bsimp] at h0
  refine WC.reg (WL.v (Ev.eqi rfl rfl) rfl (WL.v (Ev.assign rfl) rfl (WL.nil (WQ.tn (WC.cond rfl (fun h1 => ?_) (fun h1 => ?_))))))
  · try simp only [bsimp] at h1
    refine WC.seq (WC.drawT mixed ((fun k => k = b2)) 7 [(false, 0), (false, 1), (false, 2), (false, 3), (false, 4), (true, 5), (false, 6), (true, 7)] (by kernel_rfl) ?_)
    intro w1 L
    replace H := H.ext L
    have hnb := H.ne 1 0 rfl rfl rfl
    have hK := Gr.refl ((fun k => k = b2)) w1
    have HD := H
    refine WX.v rfl (fun w2 hC => Ev.fieldAddr fa29_1 rfl) rfl (WX.v rfl (fun w2 hC => Ev.load fl9 rfl (Gr.cell hC hnb (HD.cell 1 rfl rfl))) rfl (WX.v rfl (fun w2 hC => Ev.fieldAddr fa29_2 rfl) rfl (WX.v rfl (fun w2 hC => Ev.load fl9 rfl (Gr.cell hC hnb (HD.cell 1 rfl rfl))) rfl (WX.v rfl (fun w2 hC => Ev.fieldAddr fa29_1 rfl) rfl (WX.loud rfl rfl (WL.store (i := 0) (vs := [_]) rfl rfl rfl sz9 rfl H rfl rfl fun w1 H L => ?_))))))
    replace hK := hK.trans L
    refine WL.nil (WQ.back (fun _ => hK) (WX.v rfl (fun w2 hC => Ev.fieldAddr fa29_2 rfl) rfl (WX.loud rfl rfl (WL.store (i := 0) (vs := [_]) rfl rfl rfl sz9 rfl H rfl rfl fun w1 H L => (WL.nil (WQ.back (fun h => absurd rfl h) (WX.nil (WQ.tn (WC.seq (WC.reg (WL.v (Ev.loadA (vs := [_, _, _, _, _, _]) ag29 sz29 rfl (H.cells 1 rfl rfl)) rfl (WL.v (Ev.loadA (vs := [_, _, _, _, _, _]) ag29 sz29 rfl (H.cells 0 rfl rfl)) rfl (WL.v (Ev.eqA (us := [_, _, _, _, _, _]) (vs := [_, _, _, _, _, _]) cmp29 rfl rfl (.int (.str (.str (.int (.int (.int .nil))))))) rfl (WL.v (Ev.move rfl) rfl (WL.g (Met.yes rfl rfl) (fun hg => Ev.fieldAddr fa29_1 rfl) rfl (WL.g (Met.yes rfl rfl) (fun hg => Ev.load fl9 ((evG.un rfl).ev hg) (H.cell 1 rfl rfl)) rfl (WL.gcallS (vs := [_]) (Met.yes rfl rfl) (fun hg => (evs_cons ((evG.un rfl).ev hg) rfl)) cl32 rfl H (fun hg => r14_Name _ hn _) fun w1 H L => (WL.v (Ev.and rfl rfl rfl) rfl (WL.v (Ev.move rfl) rfl (WL.g (Met.yes rfl rfl) (fun hg => Ev.fieldAddr fa29_2 rfl) rfl (WL.g (Met.yes rfl rfl) (fun hg => Ev.load fl9 ((evG.un rfl).ev hg) (H.cell 1 rfl rfl)) rfl (WL.gcallS (vs := [_]) (Met.yes rfl rfl) (fun hg => (evs_cons ((evG.un rfl).ev hg) rfl)) cl33 rfl H (fun hg => r14_Text _ hv _) fun w1 H L => (WL.v (Ev.and rfl rfl rfl) rfl (WL.v (Ev.assign rfl) rfl (WL.nil ?_)))))))))))))))))))))))))
    refine WQ.tn (WC.ret (WQ.blk_ret (WQ.tn_ret (WQ.ret1 rfl rfl (⟨congrArg (fun b => Ending.returned (.bool b)) (Bool.eq_iff_iff.2 ?_), H.done⟩)))))
    unfold rightF
    simp_all [goodB, and_assoc]
  try simp only [bsimp] at h1
  refine WC.seq (WC.reg (WL.v (Ev.eqi rfl rfl) rfl (WL.v (Ev.assign rfl) rfl (WL.nil (WQ.tn (WC.cond rfl (fun h2 => ?_) (fun h2 => ?_)))))))
  · try simp only [bsimp] at h2
    refine WC.seq (WC.reg (WL.v (Ev.fieldAddr fa29_1 rfl) rfl (WL.v (Ev.load fl9 rfl (H.cell 1 rfl rfl)) rfl (WL.v (Ev.fieldAddr fa29_1 rfl) rfl (WL.store (i := 0) (vs := [_]) rfl rfl rfl sz9 rfl H rfl rfl fun w1 H L => (WL.nil (WQ.tn (WC.seq (WC.reg (WL.v (Ev.loadA (vs := [_, _, _, _, _, _]) ag29 sz29 rfl (H.cells 1 rfl rfl)) rfl (WL.v (Ev.loadA (vs := [_, _, _, _, _, _]) ag29 sz29 rfl (H.cells 0 rfl rfl)) rfl (WL.v (Ev.eqA (us := [_, _, _, _, _, _]) (vs := [_, _, _, _, _, _]) cmp29 rfl rfl (.int (.str (.str (.int (.int (.int .nil))))))) rfl (WL.v (Ev.move rfl) rfl (WL.g (Met.yes rfl rfl) (fun hg => Ev.fieldAddr fa29_1 rfl) rfl (WL.g (Met.yes rfl rfl) (fun hg => Ev.load fl9 ((evG.un rfl).ev hg) (H.cell 1 rfl rfl)) rfl (WL.gcallS (vs := [_]) (Met.yes rfl rfl) (fun hg => (evs_cons ((evG.un rfl).ev hg) rfl)) cl32 rfl H (fun hg => r14_Name _ hn _) fun w1 H L => (WL.v (Ev.and rfl rfl rfl) rfl (WL.v (Ev.assign rfl) rfl (WL.nil ?_)))))))))))))))))))
    refine WQ.tn (WC.ret (WQ.blk_ret (WQ.tn_ret (WQ.ret1 rfl rfl (⟨congrArg (fun b => Ending.returned (.bool b)) (Bool.eq_iff_iff.2 ?_), H.done⟩)))))
    unfold rightF
    simp_all [goodB, and_assoc]
  try simp only [bsimp] at h2
  refine WC.seq (WC.reg (WL.v (Ev.eqi rfl rfl) rfl (WL.v (Ev.assign rfl) rfl (WL.nil (WQ.tn (WC.cond rfl (fun h3 => ?_) (fun h3 => ?_)))))))
  · try simp only [bsimp] at h3
    refine WC.seq (WC.drawT mixed ((fun k => k = b2)) 11 [(false, 0), (false, 1), (false, 2), (false, 3), (false, 4), (false, 5), (false, 6), (true, 7), (false, 8), (true, 9), (false, 10), (true, 11)] (by kernel_rfl) ?_)
    intro w1 L
    replace H := H.ext L
    have hnb := H.ne 1 0 rfl rfl rfl
    have hK := Gr.refl ((fun k => k = b2)) w1
    have HD := H
    refine WX.v rfl (fun w2 hC => Ev.fieldAddr fa29_3 rfl) rfl (WX.v rfl (fun w2 hC => Ev.load fl3 rfl (Gr.cell hC hnb (HD.cell 1 rfl rfl))) rfl (WX.v rfl (fun w2 hC => Ev.fieldAddr fa29_4 rfl) rfl (WX.v rfl (fun w2 hC => Ev.load fl3 rfl (Gr.cell hC hnb (HD.cell 1 rfl rfl))) rfl (WX.v rfl (fun w2 hC => Ev.fieldAddr fa29_5 rfl) rfl (WX.v rfl (fun w2 hC => Ev.load fl3 rfl (Gr.cell hC hnb (HD.cell 1 rfl rfl))) rfl (WX.v rfl (fun w2 hC => Ev.fieldAddr fa29_3 rfl) rfl (WX.loud rfl rfl (WL.store (i := 0) (vs := [_]) rfl rfl rfl sz3 rfl H rfl rfl fun w1 H L => ?_))))))))
    replace hK := hK.trans L
    refine WL.nil (WQ.back (fun _ => hK) (WX.v rfl (fun w2 hC => Ev.fieldAddr fa29_4 rfl) rfl (WX.loud rfl rfl (WL.store (i := 0) (vs := [_]) rfl rfl rfl sz3 rfl H rfl rfl fun w1 H L => ?_))))
    replace hK := hK.trans L
    refine WL.nil (WQ.back (fun _ => hK) (WX.v rfl (fun w2 hC => Ev.fieldAddr fa29_5 rfl) rfl (WX.loud rfl rfl (WL.store (i := 0) (vs := [_]) rfl rfl rfl sz3 rfl H rfl rfl fun w1 H L => (WL.nil (WQ.back (fun h => absurd rfl h) (WX.nil (WQ.tn (WC.seq (WC.reg (WL.v (Ev.loadA (vs := [_, _, _, _, _, _]) ag29 sz29 rfl (H.cells 1 rfl rfl)) rfl (WL.v (Ev.loadA (vs := [_, _, _, _, _, _]) ag29 sz29 rfl (H.cells 0 rfl rfl)) rfl (WL.v (Ev.eqA (us := [_, _, _, _, _, _]) (vs := [_, _, _, _, _, _]) cmp29 rfl rfl (.int (.str (.str (.int (.int (.int .nil))))))) rfl (WL.v (Ev.move rfl) rfl (WL.g (Met.yes rfl rfl) (fun hg => Ev.fieldAddr fa29_3 rfl) rfl (WL.g (Met.yes rfl rfl) (fun hg => Ev.load fl3 ((evG.un rfl).ev hg) (H.cell 1 rfl rfl)) rfl (WL.gcallS (vs := [_, _, _]) (Met.yes rfl rfl) (fun hg => (evs_cons ((evG.un rfl).ev hg) (evs_cons rfl (evs_cons rfl rfl)))) cl34 rfl H (fun hg => r14_in _ _ _ _) fun w1 H L => (WL.v (Ev.and rfl rfl rfl) rfl (WL.v (Ev.move rfl) rfl (WL.g (Met.yes rfl rfl) (fun hg => Ev.fieldAddr fa29_4 rfl) rfl (WL.g (Met.yes rfl rfl) (fun hg => Ev.load fl3 ((evG.un rfl).ev hg) (H.cell 1 rfl rfl)) rfl (WL.gcallS (vs := [_, _, _]) (Met.yes rfl rfl) (fun hg => (evs_cons ((evG.un rfl).ev hg) (evs_cons rfl (evs_cons rfl rfl)))) cl34 rfl H (fun hg => r14_in _ _ _ _) fun w1 H L => (WL.v (Ev.and rfl rfl rfl) rfl (WL.v (Ev.move rfl) rfl (WL.g (Met.yes rfl rfl) (fun hg => Ev.fieldAddr fa29_5 rfl) rfl (WL.g (Met.yes rfl rfl) (fun hg => Ev.load fl3 ((evG.un rfl).ev hg) (H.cell 1 rfl rfl)) rfl (WL.gcallS (vs := [_, _, _]) (Met.yes rfl rfl) (fun hg => (evs_cons ((evG.un rfl).ev hg) (evs_cons rfl (evs_cons rfl rfl)))) cl34 rfl H (fun hg => r14_in _ _ _ _) fun w1 H L => (WL.v (Ev.and rfl rfl rfl) rfl (WL.v (Ev.assign rfl) rfl (WL.nil ?_))))))))))))))))))))))))))))))
    refine WQ.tn (WC.ret (WQ.blk_ret (WQ.tn_ret (WQ.ret1 rfl rfl (⟨congrArg (fun b => Ending.returned (.bool b)) (Bool.eq_iff_iff.2 ?_), H.done⟩)))))
    unfold rightF
    simp_all [goodB, and_assoc]
  try simp only [bsimp] at h3
  refine WC.seq (WC.reg (WL.v (Ev.eqi rfl rfl) rfl (WL.v (Ev.assign rfl) rfl (WL.nil (WQ.tn (WC.cond rfl (fun h4 => ?_) (fun h4 => ?_)))))))
  · try simp only [bsimp] at h4
    refine WC.seq (WC.drawT mixed ((fun k => k = b2)) 7 [(false, 0), (false, 1), (false, 2), (false, 3), (false, 4), (true, 5), (false, 6), (true, 7)] (by kernel_rfl) ?_)
    intro w1 L
    replace H := H.ext L
    have hnb := H.ne 1 0 rfl rfl rfl
    have hK := Gr.refl ((fun k => k = b2)) w1
    have HD := H
    refine WX.v rfl (fun w2 hC => Ev.fieldAddr fa29_1 rfl) rfl (WX.v rfl (fun w2 hC => Ev.load fl9 rfl (Gr.cell hC hnb (HD.cell 1 rfl rfl))) rfl (WX.v rfl (fun w2 hC => Ev.fieldAddr fa29_2 rfl) rfl (WX.v rfl (fun w2 hC => Ev.load fl9 rfl (Gr.cell hC hnb (HD.cell 1 rfl rfl))) rfl (WX.v rfl (fun w2 hC => Ev.fieldAddr fa29_1 rfl) rfl (WX.loud rfl rfl (WL.store (i := 0) (vs := [_]) rfl rfl rfl sz9 rfl H rfl rfl fun w1 H L => ?_))))))
    replace hK := hK.trans L
    refine WL.nil (WQ.back (fun _ => hK) (WX.v rfl (fun w2 hC => Ev.fieldAddr fa29_2 rfl) rfl (WX.loud rfl rfl (WL.store (i := 0) (vs := [_]) rfl rfl rfl sz9 rfl H rfl rfl fun w1 H L => (WL.nil (WQ.back (fun h => absurd rfl h) (WX.nil (WQ.tn (WC.seq (WC.reg (WL.v (Ev.loadA (vs := [_, _, _, _, _, _]) ag29 sz29 rfl (H.cells 1 rfl rfl)) rfl (WL.v (Ev.loadA (vs := [_, _, _, _, _, _]) ag29 sz29 rfl (H.cells 0 rfl rfl)) rfl (WL.v (Ev.eqA (us := [_, _, _, _, _, _]) (vs := [_, _, _, _, _, _]) cmp29 rfl rfl (.int (.str (.str (.int (.int (.int .nil))))))) rfl (WL.v (Ev.move rfl) rfl (WL.g (Met.yes rfl rfl) (fun hg => Ev.fieldAddr fa29_1 rfl) rfl (WL.g (Met.yes rfl rfl) (fun hg => Ev.load fl9 ((evG.un rfl).ev hg) (H.cell 1 rfl rfl)) rfl (WL.gcallS (vs := [_]) (Met.yes rfl rfl) (fun hg => (evs_cons ((evG.un rfl).ev hg) rfl)) cl32 rfl H (fun hg => r14_Name _ hn _) fun w1 H L => (WL.v (Ev.and rfl rfl rfl) rfl (WL.v (Ev.move rfl) rfl (WL.g (Met.yes rfl rfl) (fun hg => Ev.fieldAddr fa29_2 rfl) rfl (WL.g (Met.yes rfl rfl) (fun hg => Ev.load fl9 ((evG.un rfl).ev hg) (H.cell 1 rfl rfl)) rfl (WL.gcallS (vs := [_]) (Met.yes rfl rfl) (fun hg => (evs_cons ((evG.un rfl).ev hg) rfl)) cl33 rfl H (fun hg => r14_Text _ hv _) fun w1 H L => (WL.v (Ev.and rfl rfl rfl) rfl (WL.v (Ev.move rfl) rfl (WL.g (Met.yes rfl rfl) (fun hg => Ev.fieldAddr fa29_2 rfl) rfl (WL.g (Met.yes rfl rfl) (fun hg => Ev.load fl9 ((evG.un rfl).ev hg) (H.cell 1 rfl rfl)) rfl (WL.g (Met.yes rfl rfl) (fun hg => Ev.nes ((evG.un rfl).ev hg) rfl) rfl (WL.v (Ev.and rfl rfl rfl) rfl (WL.v (Ev.assign rfl) rfl (WL.nil ?_))))))))))))))))))))))))))))))
    refine WQ.tn (WC.ret (WQ.blk_ret (WQ.tn_ret (WQ.ret1 rfl rfl (⟨congrArg (fun b => Ending.returned (.bool b)) (Bool.eq_iff_iff.2 ?_), H.done⟩)))))
    unfold rightF
    simp_all [goodB, and_assoc]
  try simp only [bsimp] at h4
  refine WC.seq (WC.reg (WL.v (Ev.eqi rfl rfl) rfl (WL.v (Ev.assign rfl) rfl (WL.nil (WQ.tn (WC.cond rfl (fun h5 => ?_) (fun h5 => ?_)))))))
  · try simp only [bsimp] at h5
    refine WC.seq (WC.reg (WL.v (Ev.fieldAddr fa29_2 rfl) rfl (WL.v (Ev.load fl9 rfl (H.cell 1 rfl rfl)) rfl (WL.v (Ev.fieldAddr fa29_2 rfl) rfl (WL.store (i := 0) (vs := [_]) rfl rfl rfl sz9 rfl H rfl rfl fun w1 H L => (WL.nil (WQ.tn (WC.seq (WC.reg (WL.v (Ev.loadA (vs := [_, _, _, _, _, _]) ag29 sz29 rfl (H.cells 1 rfl rfl)) rfl (WL.v (Ev.loadA (vs := [_, _, _, _, _, _]) ag29 sz29 rfl (H.cells 0 rfl rfl)) rfl (WL.v (Ev.eqA (us := [_, _, _, _, _, _]) (vs := [_, _, _, _, _, _]) cmp29 rfl rfl (.int (.str (.str (.int (.int (.int .nil))))))) rfl (WL.v (Ev.move rfl) rfl (WL.g (Met.yes rfl rfl) (fun hg => Ev.fieldAddr fa29_2 rfl) rfl (WL.g (Met.yes rfl rfl) (fun hg => Ev.load fl9 ((evG.un rfl).ev hg) (H.cell 1 rfl rfl)) rfl (WL.gcallS (vs := [_]) (Met.yes rfl rfl) (fun hg => (evs_cons ((evG.un rfl).ev hg) rfl)) cl33 rfl H (fun hg => r14_Text _ hv _) fun w1 H L => (WL.v (Ev.and rfl rfl rfl) rfl (WL.v (Ev.move rfl) rfl (WL.g (Met.yes rfl rfl) (fun hg => Ev.fieldAddr fa29_2 rfl) rfl (WL.g (Met.yes rfl rfl) (fun hg => Ev.load fl9 ((evG.un rfl).ev hg) (H.cell 1 rfl rfl)) rfl (WL.g (Met.yes rfl rfl) (fun hg => Ev.nes ((evG.un rfl).ev hg) rfl) rfl (WL.v (Ev.and rfl rfl rfl) rfl (WL.v (Ev.assign rfl) rfl (WL.nil ?_))))))))))))))))))))))))
    refine WQ.tn (WC.ret (WQ.blk_ret (WQ.tn_ret (WQ.ret1 rfl rfl (⟨congrArg (fun b => Ending.returned (.bool b)) (Bool.eq_iff_iff.2 ?_), H.done⟩)))))
    unfold rightF
    simp_all [goodB, and_assoc]
  try simp only [bsimp] at h5
  refine WC.seq (WC.reg (WL.v (Ev.eqi rfl rfl) rfl (WL.v (Ev.assign rfl) rfl (WL.nil (WQ.tn (WC.cond rfl (fun h6 => ?_) (fun h6 => ?_)))))))
  · try simp only [bsimp] at h6
    refine WC.seq (WC.reg (WL.v (Ev.fieldAddr fa29_3 rfl) rfl (WL.v (Ev.load fl3 rfl (H.cell 1 rfl rfl)) rfl (WL.v (Ev.fieldAddr fa29_3 rfl) rfl (WL.store (i := 0) (vs := [_]) rfl rfl rfl sz3 rfl H rfl rfl fun w1 H L => (WL.nil (WQ.tn (WC.seq (WC.reg (WL.v (Ev.loadA (vs := [_, _, _, _, _, _]) ag29 sz29 rfl (H.cells 1 rfl rfl)) rfl (WL.v (Ev.loadA (vs := [_, _, _, _, _, _]) ag29 sz29 rfl (H.cells 0 rfl rfl)) rfl (WL.v (Ev.eqA (us := [_, _, _, _, _, _]) (vs := [_, _, _, _, _, _]) cmp29 rfl rfl (.int (.str (.str (.int (.int (.int .nil))))))) rfl (WL.v (Ev.move rfl) rfl (WL.g (Met.yes rfl rfl) (fun hg => Ev.fieldAddr fa29_3 rfl) rfl (WL.g (Met.yes rfl rfl) (fun hg => Ev.load fl3 ((evG.un rfl).ev hg) (H.cell 1 rfl rfl)) rfl (WL.gcallS (vs := [_, _, _]) (Met.yes rfl rfl) (fun hg => (evs_cons ((evG.un rfl).ev hg) (evs_cons rfl (evs_cons rfl rfl)))) cl34 rfl H (fun hg => r14_in _ _ _ _) fun w1 H L => (WL.v (Ev.and rfl rfl rfl) rfl (WL.v (Ev.assign rfl) rfl (WL.nil ?_)))))))))))))))))))
    refine WQ.tn (WC.ret (WQ.blk_ret (WQ.tn_ret (WQ.ret1 rfl rfl (⟨congrArg (fun b => Ending.returned (.bool b)) (Bool.eq_iff_iff.2 ?_), H.done⟩)))))
    unfold rightF
    simp_all [goodB, and_assoc]
  try simp only [bsimp] at h6
  refine WC.seq (WC.reg (WL.v (Ev.eqi rfl rfl) rfl (WL.v (Ev.assign rfl) rfl (WL.nil (WQ.tn (WC.cond rfl (fun h7 => ?_) (fun h7 => ?_)))))))
  · try simp only [bsimp] at h7
    refine WC.seq (WC.drawT mixed ((fun k => k = b2)) 7 [(false, 0), (false, 1), (false, 2), (false, 3), (false, 4), (true, 5), (false, 6), (true, 7)] (by kernel_rfl) ?_)
    intro w1 L
    replace H := H.ext L
    have hnb := H.ne 1 0 rfl rfl rfl
    have hK := Gr.refl ((fun k => k = b2)) w1
    have HD := H
    refine WX.v rfl (fun w2 hC => Ev.fieldAddr fa29_3 rfl) rfl (WX.v rfl (fun w2 hC => Ev.load fl3 rfl (Gr.cell hC hnb (HD.cell 1 rfl rfl))) rfl (WX.v rfl (fun w2 hC => Ev.fieldAddr fa29_4 rfl) rfl (WX.v rfl (fun w2 hC => Ev.load fl3 rfl (Gr.cell hC hnb (HD.cell 1 rfl rfl))) rfl (WX.v rfl (fun w2 hC => Ev.fieldAddr fa29_3 rfl) rfl (WX.loud rfl rfl (WL.store (i := 0) (vs := [_]) rfl rfl rfl sz3 rfl H rfl rfl fun w1 H L => ?_))))))
    replace hK := hK.trans L
    refine WL.nil (WQ.back (fun _ => hK) (WX.v rfl (fun w2 hC => Ev.fieldAddr fa29_4 rfl) rfl (WX.loud rfl rfl (WL.store (i := 0) (vs := [_]) rfl rfl rfl sz3 rfl H rfl rfl fun w1 H L => (WL.nil (WQ.back (fun h => absurd rfl h) (WX.nil (WQ.tn (WC.seq (WC.reg (WL.v (Ev.loadA (vs := [_, _, _, _, _, _]) ag29 sz29 rfl (H.cells 1 rfl rfl)) rfl (WL.v (Ev.loadA (vs := [_, _, _, _, _, _]) ag29 sz29 rfl (H.cells 0 rfl rfl)) rfl (WL.v (Ev.eqA (us := [_, _, _, _, _, _]) (vs := [_, _, _, _, _, _]) cmp29 rfl rfl (.int (.str (.str (.int (.int (.int .nil))))))) rfl (WL.v (Ev.move rfl) rfl (WL.g (Met.yes rfl rfl) (fun hg => Ev.fieldAddr fa29_3 rfl) rfl (WL.g (Met.yes rfl rfl) (fun hg => Ev.load fl3 ((evG.un rfl).ev hg) (H.cell 1 rfl rfl)) rfl (WL.gcallS (vs := [_, _, _]) (Met.yes rfl rfl) (fun hg => (evs_cons ((evG.un rfl).ev hg) (evs_cons rfl (evs_cons rfl rfl)))) cl34 rfl H (fun hg => r14_in _ _ _ _) fun w1 H L => (WL.v (Ev.and rfl rfl rfl) rfl (WL.v (Ev.move rfl) rfl (WL.g (Met.yes rfl rfl) (fun hg => Ev.fieldAddr fa29_4 rfl) rfl (WL.g (Met.yes rfl rfl) (fun hg => Ev.load fl3 ((evG.un rfl).ev hg) (H.cell 1 rfl rfl)) rfl (WL.gcallS (vs := [_, _, _]) (Met.yes rfl rfl) (fun hg => (evs_cons ((evG.un rfl).ev hg) (evs_cons rfl (evs_cons rfl rfl)))) cl34 rfl H (fun hg => r14_in _ _ _ _) fun w1 H L => (WL.v (Ev.and rfl rfl rfl) rfl (WL.v (Ev.assign rfl) rfl (WL.nil ?_)))))))))))))))))))))))))
    refine WQ.tn (WC.ret (WQ.blk_ret (WQ.tn_ret (WQ.ret1 rfl rfl (⟨congrArg (fun b => Ending.returned (.bool b)) (Bool.eq_iff_iff.2 ?_), H.done⟩)))))
    unfold rightF
    simp_all [goodB, and_assoc]
  try simp only [bsimp] at h7
  refine WC.skip (WQ.blk (WQ.tn (WC.seq (WC.reg (WL.v (Ev.assign rfl) rfl (WL.nil (WQ.tn (WC.ret (WQ.ret1 rfl rfl (⟨congrArg (fun b => Ending.returned (.bool b)) (Bool.eq_iff_iff.2 ?_), H.done⟩))))))))))
  unfold rightF
  simp_all [goodB, and_assoc]
end Go.Proofs.Ytcmolgiccccnoaa
