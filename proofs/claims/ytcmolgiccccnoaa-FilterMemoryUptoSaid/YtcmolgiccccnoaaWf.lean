/- The walks of functions: what each comes to. -/
import Derived.Test.YtcmolgiccccnoaaWb
import Derived.Test.YtcmolgiccccnoaaProg
set_option linter.unusedVariables false
set_option linter.unusedSimpArgs false
namespace Go.Proofs.Ytcmolgiccccnoaa
open Go.RowKit Go.BK
theorem pl38 : plOf Try.prog 38 = some [(0, 1), (1, 1), (2, 1), (3, 1), (4, 1)] := by kernel_rfl
theorem z38 : zOk Try.prog 38 (.agg #[.bool false, .int .i64 0, .slice none 0 0, str [], .slice none 0 0]) := by unfold zOk; kernel_rfl
theorem fa101_4 : fldB Try.prog 101 4 4 = true := by kernel_rfl
theorem sz99 : szOk Try.prog 99 1 := by unfold szOk; kernel_rfl
theorem fa101_3 : fldB Try.prog 101 3 3 = true := by kernel_rfl
theorem fa68_0 : fldB Try.prog 68 0 0 = true := by kernel_rfl
theorem fa66_0 : fldB Try.prog 66 0 0 = true := by kernel_rfl
theorem fa29_1 : fldB Try.prog 29 1 1 = true := by kernel_rfl
theorem fa29_2 : fldB Try.prog 29 2 2 = true := by kernel_rfl
theorem cl72 : callB Try.prog 72 = true := by kernel_rfl
theorem sz32 : szOk Try.prog 32 1 := by unfold szOk; kernel_rfl
theorem fa69_0 : fldB Try.prog 69 0 0 = true := by kernel_rfl
theorem fa101_1 : fldB Try.prog 101 1 1 = true := by kernel_rfl
theorem fa77_0 : fldB Try.prog 77 0 0 = true := by kernel_rfl
theorem fa29_3 : fldB Try.prog 29 3 3 = true := by kernel_rfl
theorem cl80 : callB Try.prog 80 = true := by kernel_rfl
theorem fa75_0 : fldB Try.prog 75 0 0 = true := by kernel_rfl
theorem cl82 : callB Try.prog 82 = true := by kernel_rfl
structure Flt where
  kind : Int
  name : Bs
  value : Bs
  n : Int
  m : Int
  k : Int
@[reducible] def encFl (f : Flt) : List Value := [.int .i64 f.kind, str f.name, str f.value, .int .i64 f.n, .int .i64 f.m, .int .i64 f.k]
def kFl : Kd Flt := ⟨6, fun f => encFl f, fun _ => rfl, by omega, fun x v hv => by simp at hv; rcases hv with rfl | rfl | rfl | rfl | rfl | rfl <;> rfl⟩
@[reducible] def rowF (A : Option Addr) (c : Nat) (xs : List Fld) : Chunk := .row 54 2 A xs.length c (xs.flatMap kFd.enc)
@[reducible] def visC (v : Nat) (now size : Int) (m : Bs) (A : Option Addr) (n c : Nat) (r : Option Addr) : Chunk := .blk v [.int .i64 now, .int .i64 size, str m, .slice A n c, .pointer r] 101 (0, 0)
@[reducible] def verC (r : Nat) (st : Int) (A : Option Addr) (n c : Nat) (bd : Bs) : Chunk := .blk r [.bool true, .int .i64 st, .slice A n c, str bd, .slice none 0 0] 38 (0, 0)
theorem fl_Clone (A : Option Addr) (c : Nat) (xs : List Fld) (G : Nat → Prop) (hx : Okf xs) (w : World) (R : Rd kFd G w A c xs) :
    Calls Try.prog 26 #[.slice A xs.length c] w fun e w' => ∃ A' c', e = .returned (.slice A' xs.length c') ∧ St w No w' [rowF A' c' xs] := by
  have hlen := hx.len
  refine calls_of Try.func26 rfl Try.ntmps26 (by rfl) (K0 := [(0, _)]) ⟨rfl, trivial⟩ ?_
  have H := St.init w
  refine WC.seq (WC.reg (WL.v (Ev.assign rfl) rfl (WL.nil (WQ.tn (WC.seq (WC.seq (WC.reg (WL.v (Ev.move rfl) rfl (WL.v (Ev.eqnilS Try.underlying32 rfl rfl) rfl (WL.nil (WQ.tn (WC.cond rfl (fun h0 => ?_) (fun h0 => ?_)))))))))))))
  · skip
    refine WC.seq (WC.reg (WL.v (Ev.assign rfl) rfl (WL.nil (WQ.tn (WC.ret (WQ.tn_ret (WQ.ret1 rfl rfl ?_)))))))
    have hnil : xs = [] := by
      cases xs with
      | nil => rfl
      | cons x xs =>
        obtain ⟨b, o, rfl, _⟩ := R.2 (by simp)
        cases h0
    subst hnil
    exact ⟨none, 0, rfl, H.nilrow _ _⟩
  skip
  refine WC.skip (WQ.tn (WC.seq (WC.reg (WL.buildSlice0 Try.underlying32 sz54 H rfl fun b1 w1 hb1 H L => (WL.v (Ev.move rfl) rfl (WL.appendRd (i := 0) (k := kFd) Try.underlying32 sz54 by54 z54 rfl rfl rfl (R.st H) H rfl (by omega) (by omega) rfl fun A1 c1 w1 H L => (WL.v (Ev.assign rfl) rfl (WL.nil (WQ.tn (WC.ret (WQ.ret1 rfl rfl ?_)))))))))))
  rw [Nat.zero_add, List.nil_append] at H
  exact ⟨A1, c1, by rw [Nat.zero_add], H⟩
theorem fl_say (v : Nat) (now size : Int) (m : Bs) (A : Option Addr) (n c : Nat) (st : Int) (bd : Bs) (Af : Option Addr) (nf cf : Nat) (w : World) (H : St w (Bk [visC v now size m A n c none]) w [visC v now size m A n c none]) :
    Calls Try.prog 80 #[.pointer (some ⟨v, 0, none⟩), .int .i64 st, str bd, .slice Af nf cf] w fun e w' => e = .returned (.tuple #[]) ∧ ∃ r, St w (Bk [visC v now size m A n c none]) w' [verC r st Af nf cf bd, visC v now size m A n c (some ⟨r, 0, none⟩)] := by
  refine calls_of Try.func80 rfl Try.ntmps80 (by rfl) (K0 := [(0, _), (1, _), (2, _), (3, _)]) ⟨rfl, rfl, rfl, rfl, trivial⟩ (WC.reg (WL.v (Ev.move rfl) rfl (WL.v (Ev.move rfl) rfl (WL.v (Ev.move rfl) rfl (WL.v (Ev.move rfl) rfl (WL.v (Ev.build (vs := [_, _, _, _, _]) (ps := [(_, _), (_, _), (_, _), (_, _)]) pl38 z38 rfl rfl) rfl (WL.box (t := 38) (cs := [_, _, _, _, _]) rfl rfl H rfl fun b1 w1 hb1 H L => (WL.v (Ev.nilCheck rfl) rfl (WL.v (Ev.fieldAddr fa101_4 rfl) rfl (WL.store (i := 1) (vs := [_]) rfl rfl rfl sz99 rfl H rfl rfl fun w1 H L => (WL.nil (WQ.end0 rfl ?_))))))))))))
  exact ⟨rfl, _, H⟩
theorem fl_set (f : Flt) (v : Nat) (now size : Int) (m : Bs) (A : Option Addr) (c : Nat) (xs : List Fld) (hx : Okf xs) (hf : Sml f.name.length) (w : World) (H : St w (Bk [rowF A c xs, visC v now size m A xs.length c none]) w [rowF A c xs, visC v now size m A xs.length c none]) :
    Calls Try.prog 71 #[.agg (encFl f).toArray, .pointer (some ⟨v, 0, none⟩)] w fun e w' => e = .returned (.tuple #[]) ∧ ∃ A' c', St w (Bk [rowF A c xs, visC v now size m A xs.length c none]) w' [rowF A' c' (setF xs f.name f.value), visC v now size m A' (setF xs f.name f.value).length c' none] := by
  refine calls_of Try.func71 rfl Try.ntmps71 (by rfl) (K0 := [(0, _), (1, _)]) ⟨rfl, rfl, trivial⟩ (WC.seq (WC.reg (WL.box (t := 68) (cs := [_, _, _, _, _, _]) rfl rfl H rfl fun b1 w1 hb1 H L => (WL.nil (WQ.tn (WC.drawT mixed (No) 16 [(false, 0), (false, 1), (false, 2), (false, 3), (false, 4), (false, 5), (false, 6), (false, 7), (false, 8), (false, 9), (false, 10), (false, 11), (false, 12), (true, 13), (false, 14), (false, 15), (true, 16)] (by kernel_rfl) ?_))))))
  intro w1 L
  replace H := H.ext L
  have hK := Gr.refl (No) w1
  have HD := H
  refine WX.v rfl (fun w2 hC => Ev.move rfl) rfl (WX.v rfl (fun w2 hC => Ev.move rfl) rfl (WX.v rfl (fun w2 hC => Ev.nilCheck rfl) rfl (WX.v rfl (fun w2 hC => Ev.fieldAddr fa101_3 rfl) rfl (WX.v rfl (fun w2 hC => Ev.load fl32 rfl (Gr.cell hC (fun h => h) (HD.cell 2 rfl rfl))) rfl (WX.v rfl (fun w2 hC => Ev.fieldAddr fa68_0 rfl) rfl (WX.v rfl (fun w2 hC => Ev.fieldAddr fa66_0 rfl) rfl (WX.v rfl (fun w2 hC => Ev.fieldAddr fa29_1 rfl) rfl (WX.v rfl (fun w2 hC => Ev.load fl9 rfl (Gr.cell hC (fun h => h) (HD.cell 0 rfl rfl))) rfl (WX.v rfl (fun w2 hC => Ev.fieldAddr fa68_0 rfl) rfl (WX.v rfl (fun w2 hC => Ev.fieldAddr fa66_0 rfl) rfl (WX.v rfl (fun w2 hC => Ev.fieldAddr fa29_2 rfl) rfl (WX.v rfl (fun w2 hC => Ev.load fl9 rfl (Gr.cell hC (fun h => h) (HD.cell 0 rfl rfl))) rfl (WX.loud rfl rfl (WL.call (vs := [_, _, _]) rfl cl72 rfl (fd_Set A c xs _ hx f.name f.value hf _ (H.rd kFd 1 rfl).1) ?_))))))))))))))
  rintro _ w1 ⟨A2, c2, rfl, H1⟩
  have LX := H1.gr
  replace H := H.app H1
  refine ⟨_, rfl, ?_⟩
  replace hK := hK.ext LX
  refine WL.nil (WQ.back (fun _ => hK) (WX.v rfl (fun w2 hC => Ev.nilCheck rfl) rfl (WX.v rfl (fun w2 hC => Ev.fieldAddr fa101_3 rfl) rfl (WX.loud rfl rfl (WL.store (i := 3) (vs := [_]) rfl rfl rfl sz32 rfl H rfl rfl fun w1 H L => (WL.nil (WQ.back (fun h => absurd rfl h) (WX.nil (WQ.end0 rfl ?_)))))))))
  exact ⟨rfl, A2, c2, H.sub (List.Sublist.cons_cons _ (List.Sublist.cons _ (List.Sublist.cons _ (List.Sublist.cons_cons _ (List.nil_sublist _)))))⟩
theorem fl_drop (f : Flt) (v : Nat) (now size : Int) (m : Bs) (A : Option Addr) (c : Nat) (xs : List Fld) (hx : Okf xs) (hf : Sml f.name.length) (w : World) (H : St w (Bk [rowF A c xs, visC v now size m A xs.length c none]) w [rowF A c xs, visC v now size m A xs.length c none]) :
    Calls Try.prog 76 #[.agg (encFl f).toArray, .pointer (some ⟨v, 0, none⟩)] w fun e w' => e = .returned (.tuple #[]) ∧ ∃ A' c', St w (Bk [rowF A c xs, visC v now size m A xs.length c none]) w' [rowF A' c' (removeF xs f.name), visC v now size m A' (removeF xs f.name).length c' none] := by
  refine calls_of Try.func76 rfl Try.ntmps76 (by rfl) (K0 := [(0, _), (1, _)]) ⟨rfl, rfl, trivial⟩ (WC.seq (WC.reg (WL.box (t := 69) (cs := [_, _, _, _, _, _]) rfl rfl H rfl fun b1 w1 hb1 H L => (WL.nil (WQ.tn (WC.drawT mixed (No) 12 [(false, 0), (false, 1), (false, 2), (false, 3), (false, 4), (false, 5), (false, 6), (false, 7), (false, 8), (true, 9), (false, 10), (false, 11), (true, 12)] (by kernel_rfl) ?_))))))
  intro w1 L
  replace H := H.ext L
  have hK := Gr.refl (No) w1
  have HD := H
  refine WX.v rfl (fun w2 hC => Ev.move rfl) rfl (WX.v rfl (fun w2 hC => Ev.move rfl) rfl (WX.v rfl (fun w2 hC => Ev.nilCheck rfl) rfl (WX.v rfl (fun w2 hC => Ev.fieldAddr fa101_3 rfl) rfl (WX.v rfl (fun w2 hC => Ev.load fl32 rfl (Gr.cell hC (fun h => h) (HD.cell 2 rfl rfl))) rfl (WX.v rfl (fun w2 hC => Ev.fieldAddr fa69_0 rfl) rfl (WX.v rfl (fun w2 hC => Ev.fieldAddr fa66_0 rfl) rfl (WX.v rfl (fun w2 hC => Ev.fieldAddr fa29_1 rfl) rfl (WX.v rfl (fun w2 hC => Ev.load fl9 rfl (Gr.cell hC (fun h => h) (HD.cell 0 rfl rfl))) rfl (WX.loud rfl rfl (WL.call (vs := [_, _]) rfl cl73 rfl (fd_Remove A c xs _ hx f.name hf _ (H.rd kFd 1 rfl).1) ?_))))))))))
  rintro _ w1 ⟨A2, c2, rfl, H1⟩
  have LX := H1.gr
  replace H := H.app H1
  refine ⟨_, rfl, ?_⟩
  replace hK := hK.ext LX
  refine WL.nil (WQ.back (fun _ => hK) (WX.v rfl (fun w2 hC => Ev.nilCheck rfl) rfl (WX.v rfl (fun w2 hC => Ev.fieldAddr fa101_3 rfl) rfl (WX.loud rfl rfl (WL.store (i := 3) (vs := [_]) rfl rfl rfl sz32 rfl H rfl rfl fun w1 H L => (WL.nil (WQ.back (fun h => absurd rfl h) (WX.nil (WQ.end0 rfl ?_)))))))))
  exact ⟨rfl, A2, c2, H.sub (List.Sublist.cons_cons _ (List.Sublist.cons _ (List.Sublist.cons _ (List.Sublist.cons_cons _ (List.nil_sublist _)))))⟩
theorem fl_answer (f : Flt) (v : Nat) (now size : Int) (m : Bs) (A : Option Addr) (c : Nat) (xs : List Fld) (hx : Okf xs) (hf : Sml f.name.length) (w : World) (H : St w (Bk [rowF A c xs, visC v now size m A xs.length c none]) w [rowF A c xs, visC v now size m A xs.length c none]) :
    Calls Try.prog 94 #[.agg (encFl f).toArray, .pointer (some ⟨v, 0, none⟩)] w fun e w' => e = .returned (.tuple #[]) ∧ ∃ A' c', St w (Bk [rowF A c xs, visC v now size m A xs.length c none]) w' [rowF A' c' (xs), visC v now size m A' (xs).length c' none] := by
  refine calls_of Try.func94 rfl Try.ntmps94 (by rfl) (K0 := [(0, _), (1, _)]) ⟨rfl, rfl, trivial⟩ (WC.reg (WL.box (t := 80) (cs := [_, _, _, _, _, _]) rfl rfl H rfl fun b1 w1 hb1 H L => (WL.nil (WQ.end0 rfl ?_))))
  exact ⟨rfl, A, c, H.tail⟩
theorem fl_body (f : Flt) (v : Nat) (now size : Int) (m : Bs) (A : Option Addr) (c : Nat) (xs : List Fld) (hx : Okf xs) (hf : Sml f.name.length) (w : World) (H : St w (Bk [rowF A c xs, visC v now size m A xs.length c none]) w [rowF A c xs, visC v now size m A xs.length c none]) :
    Calls Try.prog 87 #[.agg (encFl f).toArray, .pointer (some ⟨v, 0, none⟩)] w fun e w' => e = .returned (.tuple #[]) ∧ if f.n < size then ∃ r Af cf A' n' c', St w (Bk [rowF A c xs, visC v now size m A xs.length c none]) w' [verC r 413 Af (([] : List Fld)).length cf (([116, 111, 111, 32, 109, 117, 99, 104] : Bs)), rowF Af cf (([] : List Fld)), visC v now size m A' n' c' (some ⟨r, 0, none⟩)] else ∃ A' c', St w (Bk [rowF A c xs, visC v now size m A xs.length c none]) w' [rowF A' c' (xs), visC v now size m A' (xs).length c' none] := by
  refine calls_of Try.func87 rfl Try.ntmps87 (by rfl) (K0 := [(0, _), (1, _)]) ⟨rfl, rfl, trivial⟩ (WC.seq (WC.reg (WL.box (t := 77) (cs := [_, _, _, _, _, _]) rfl rfl H rfl fun b1 w1 hb1 H L => (WL.nil (WQ.tn (WC.seq (WC.drawT mixed (No) 9 [(false, 0), (false, 1), (false, 2), (false, 3), (false, 4), (false, 5), (false, 6), (false, 7), (false, 8)] (by kernel_rfl) ?_)))))))
  intro w1 L
  replace H := H.ext L
  refine WX.v rfl (fun w2 hC => Ev.move rfl) rfl (WX.v rfl (fun w2 hC => Ev.nilCheck rfl) rfl (WX.v rfl (fun w2 hC => Ev.fieldAddr fa101_1 rfl) rfl (WX.v rfl (fun w2 hC => Ev.load fl3 rfl (Gr.cell hC (fun h => h) (H.cell 2 rfl rfl))) rfl (WX.v rfl (fun w2 hC => Ev.fieldAddr fa77_0 rfl) rfl (WX.v rfl (fun w2 hC => Ev.fieldAddr fa66_0 rfl) rfl (WX.v rfl (fun w2 hC => Ev.fieldAddr fa29_3 rfl) rfl (WX.v rfl (fun w2 hC => Ev.load fl3 rfl (Gr.cell hC (fun h => h) (H.cell 0 rfl rfl))) rfl (WX.v rfl (fun w2 hC => Ev.gtr rfl rfl) rfl (WX.nil (WQ.tn (WC.cond rfl (fun h0 => ?_) (fun h0 => ?_))))))))))))
  · try simp only [bsimp] at h0
    have HV := (H.tail).perm (List.Perm.swap _ _ _)
    refine WC.reg (WL.v (Ev.move rfl) rfl (WL.call (vs := [_, _, _, _]) rfl cl80 rfl (fl_say v now size m _ _ _ 413 _ none 0 0 _ HV.local1) ?_))
    rintro _ w1 ⟨rfl, r, H1⟩
    replace H := HV.frame1 H1
    refine ⟨_, rfl, ?_⟩
    refine WL.nil (WQ.end0 rfl ?_)
    rw [if_pos h0]
    exact ⟨rfl, r, none, 0, A, _, c, ((H.nilrow 54 2).perm (List.Perm.swap _ _ _)).sub (List.Sublist.cons_cons _ (List.Sublist.cons_cons _ (List.Sublist.cons_cons _ (List.Sublist.cons _ (List.nil_sublist _)))))⟩
  try simp only [bsimp] at h0
  refine WC.skip (WQ.end0 rfl ?_)
  rw [if_neg (by omega)]
  exact ⟨rfl, A, c, H.tail⟩
theorem fl_token (f : Flt) (v : Nat) (now size : Int) (m : Bs) (A : Option Addr) (c : Nat) (xs : List Fld) (hx : Okf xs) (hf : Sml f.name.length) (w : World) (H : St w (Bk [rowF A c xs, visC v now size m A xs.length c none]) w [rowF A c xs, visC v now size m A xs.length c none]) :
    Calls Try.prog 81 #[.agg (encFl f).toArray, .pointer (some ⟨v, 0, none⟩)] w fun e w' => e = .returned (.tuple #[]) ∧ if (getF xs f.name).2 ≠ 1 ∨ (getF xs f.name).1 ≠ f.value then ∃ r Af cf A' n' c', St w (Bk [rowF A c xs, visC v now size m A xs.length c none]) w' [verC r 401 Af ([(([87, 87, 87, 45, 65, 117, 116, 104, 101, 110, 116, 105, 99, 97, 116, 101] : Bs), ([84, 111, 107, 101, 110] : Bs))]).length cf (([110, 111, 32, 101, 110, 116, 114, 121] : Bs)), rowF Af cf ([(([87, 87, 87, 45, 65, 117, 116, 104, 101, 110, 116, 105, 99, 97, 116, 101] : Bs), ([84, 111, 107, 101, 110] : Bs))]), visC v now size m A' n' c' (some ⟨r, 0, none⟩)] else ∃ A' c', St w (Bk [rowF A c xs, visC v now size m A xs.length c none]) w' [rowF A' c' (removeF xs f.name), visC v now size m A' (removeF xs f.name).length c' none] := by
  refine calls_of Try.func81 rfl Try.ntmps81 (by rfl) (K0 := [(0, _), (1, _)]) ⟨rfl, rfl, trivial⟩ (WC.seq (WC.reg (WL.box (t := 75) (cs := [_, _, _, _, _, _]) rfl rfl H rfl fun b1 w1 hb1 H L => (WL.nil (WQ.tn (WC.seq (WC.drawT mixed (No) 14 [(false, 0), (false, 1), (false, 2), (false, 3), (false, 4), (false, 5), (false, 6), (false, 7), (true, 8), (false, 9), (false, 10), (false, 11), (false, 12), (false, 13)] (by kernel_rfl) ?_)))))))
  intro w1 L
  replace H := H.ext L
  have hK := Gr.refl (No) w1
  have HD := H
  refine WX.v rfl (fun w2 hC => Ev.move rfl) rfl (WX.v rfl (fun w2 hC => Ev.nilCheck rfl) rfl (WX.v rfl (fun w2 hC => Ev.fieldAddr fa101_3 rfl) rfl (WX.v rfl (fun w2 hC => Ev.load fl32 rfl (Gr.cell hC (fun h => h) (HD.cell 2 rfl rfl))) rfl (WX.v rfl (fun w2 hC => Ev.fieldAddr fa75_0 rfl) rfl (WX.v rfl (fun w2 hC => Ev.fieldAddr fa66_0 rfl) rfl (WX.v rfl (fun w2 hC => Ev.fieldAddr fa29_1 rfl) rfl (WX.v rfl (fun w2 hC => Ev.load fl9 rfl (Gr.cell hC (fun h => h) (HD.cell 0 rfl rfl))) rfl (WX.loud rfl rfl (WL.call (vs := [_, _]) rfl cl82 rfl (fd_Get A c xs _ hx f.name hf _ (H.rd kFd 1 rfl).1) ?_)))))))))
  rintro _ w1 ⟨rfl, H1⟩
  have LX := H1.gr
  replace H := H.ext LX
  refine ⟨_, rfl, ?_⟩
  replace hK := hK.ext LX
  refine WL.nil (WQ.back (fun _ => hK) (WX.v rfl (fun w2 hC => Ev.move rfl) rfl (WX.v rfl (fun w2 hC => Ev.extract rfl rfl) rfl (WX.v rfl (fun w2 hC => Ev.extract rfl rfl) rfl (WX.v rfl (fun w2 hC => Ev.assign rfl) rfl (WX.v rfl (fun w2 hC => Ev.assign rfl) rfl (WX.nil (WQ.tn (WC.seq (WC.seq (WC.reg (WL.v (Ev.move rfl) rfl (WL.v (Ev.neN (b := 1) rfl rfl) rfl (WL.v (Ev.move rfl) rfl (WL.g (Met.no rfl rfl) (fun hg => Ev.move rfl) rfl (WL.g (Met.no rfl rfl) (fun hg => Ev.fieldAddr fa75_0 rfl) rfl (WL.g (Met.no rfl rfl) (fun hg => Ev.fieldAddr fa66_0 ((evG.un rfl).ev hg)) rfl (WL.g (Met.no rfl rfl) (fun hg => Ev.fieldAddr fa29_2 ((evG.un rfl).ev hg)) rfl (WL.g (Met.no rfl rfl) (fun hg => Ev.load fl9 ((evG.un rfl).ev hg) (H.cell 0 rfl rfl)) rfl (WL.g (Met.no rfl rfl) (fun hg => Ev.nes ((evG.un rfl).ev hg) ((evG.un rfl).ev hg)) rfl (WL.v (Ev.or rfl rfl rfl) rfl (WL.nil ?_))))))))))))))))))))))
  refine WQ.tn (WC.cond rfl (fun h0 => ?_) (fun h0 => ?_))
  · try simp only [bsimp] at h0
    refine WC.seq (WC.reg (WL.v (Ev.move rfl) rfl (WL.v (Ev.build (vs := [_, _]) (ps := [(_, _), (_, _)]) pl54 z54 rfl rfl) rfl (WL.buildSlice (vs := [_, _]) (ps := [(_, _)]) Try.underlying32 sz54 z54 rfl (by omega) (by omega) rfl rfl H rfl fun b2 w1 hb2 H L => ?_))))
    have HV := H.perm (σ' := [visC v now size m A xs.length c none, _, _, _]) (List.perm_middle (l₁ := [_, _, _]) (l₂ := [])).symm
    refine WL.call (vs := [_, _, _, _]) rfl cl80 rfl (fl_say v now size m _ _ _ 401 _ (some ⟨b2, 0, none⟩) 1 1 _ HV.local1) ?_
    rintro _ w1 ⟨rfl, r, H1⟩
    replace H := HV.frame1 H1
    refine ⟨_, rfl, ?_⟩
    refine WL.nil (WQ.tn (WC.ret (WQ.tn_ret (WQ.ret0 rfl ?_))))
    rw [if_pos h0]
    have H := H.toRow 2 (m := 1) (k := 2) rfl rfl (by decide)
    exact ⟨rfl, r, some ⟨b2, 0, none⟩, 1, A, _, c, (H.perm (List.Perm.cons _ (List.Perm.swap _ _ _))).sub (List.Sublist.cons_cons _ (List.Sublist.cons_cons _ (List.Sublist.cons_cons _ (List.Sublist.cons _ (List.Sublist.cons _ (List.nil_sublist _))))))⟩
  try simp only [bsimp] at h0
  refine WC.skip (WQ.tn (WC.drawT mixed (No) 12 [(false, 0), (false, 1), (false, 2), (false, 3), (false, 4), (false, 5), (false, 6), (false, 7), (false, 8), (true, 9), (false, 10), (false, 11), (true, 12)] (by kernel_rfl) ?_))
  intro w1 L
  replace H := H.ext L
  have hK := Gr.refl (No) w1
  have HD := H
  refine WX.v rfl (fun w2 hC => Ev.move rfl) rfl (WX.v rfl (fun w2 hC => Ev.move rfl) rfl (WX.v rfl (fun w2 hC => Ev.nilCheck rfl) rfl (WX.v rfl (fun w2 hC => Ev.fieldAddr fa101_3 rfl) rfl (WX.v rfl (fun w2 hC => Ev.load fl32 rfl (Gr.cell hC (fun h => h) (HD.cell 2 rfl rfl))) rfl (WX.v rfl (fun w2 hC => Ev.fieldAddr fa75_0 rfl) rfl (WX.v rfl (fun w2 hC => Ev.fieldAddr fa66_0 rfl) rfl (WX.v rfl (fun w2 hC => Ev.fieldAddr fa29_1 rfl) rfl (WX.v rfl (fun w2 hC => Ev.load fl9 rfl (Gr.cell hC (fun h => h) (HD.cell 0 rfl rfl))) rfl (WX.loud rfl rfl (WL.call (vs := [_, _]) rfl cl73 rfl (fd_Remove A c xs _ hx f.name hf _ (H.rd kFd 1 rfl).1) ?_))))))))))
  rintro _ w1 ⟨A2, c2, rfl, H1⟩
  have LX := H1.gr
  replace H := H.app H1
  refine ⟨_, rfl, ?_⟩
  replace hK := hK.ext LX
  refine WL.nil (WQ.back (fun _ => hK) (WX.v rfl (fun w2 hC => Ev.nilCheck rfl) rfl (WX.v rfl (fun w2 hC => Ev.fieldAddr fa101_3 rfl) rfl (WX.loud rfl rfl (WL.store (i := 3) (vs := [_]) rfl rfl rfl sz32 rfl H rfl rfl fun w1 H L => (WL.nil (WQ.back (fun h => absurd rfl h) (WX.nil (WQ.end0 rfl ?_)))))))))
  rw [if_neg (fun hh => by rcases hh with hh | hh; exact hh h0.1; exact hh h0.2)]
  exact ⟨rfl, A2, c2, H.sub (List.Sublist.cons_cons _ (List.Sublist.cons _ (List.Sublist.cons _ (List.Sublist.cons_cons _ (List.nil_sublist _)))))⟩
end Go.Proofs.Ytcmolgiccccnoaa
