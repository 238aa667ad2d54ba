/- The walks of functions: what each comes to. -/
import Derived.Test.YtcmolgiccccnoaaWq
import Derived.Test.YtcmolgiccccnoaaProg
set_option linter.unusedVariables false
set_option linter.unusedSimpArgs false
namespace Go.Proofs.Ytcmolgiccccnoaa
open Go.RowKit Go.BK
theorem z32 : zOk Try.prog 32 (.slice none 0 0) := by unfold zOk; kernel_rfl
theorem cl27 : callB Try.prog 27 = true := by kernel_rfl
theorem cl36 : callB Try.prog 36 = true := by kernel_rfl
def backR (l : List Fld) (x : Fx) : List Fld := if x.f.kind = 5 then setF l litAllowOrigin x.f.value else if x.f.kind = 8 then setF l x.f.name x.f.value else l
theorem backR_ok {x : Fx} (hx : okFx x) {n : Nat} {l : List Fld} (h : OkfN (n + 1) l) : OkfN n (backR l x) := by
  unfold backR
  repeat' split
  all_goals first | exact h.set hx.fl.nm hx.fl.vl | exact h.set (by unfold Sml; decide) hx.fl.vl | exact h.less
abbrev OF := { x : Fx // okFx x }
def kOF (d : Nat) : Kd OF := ⟨1, fun x => [val d x.1], fun _ => rfl, by omega, fun x v hv => by simp at hv; subst hv; exact val_one d x.1⟩
theorem Rd.of {d : Nat} {G : Nat → Prop} {w : World} {A : Option Addr} {c : Nat} {ys : List OF} (h : Rd (kFx d) G w A c (ys.map (·.1))) : Rd (kOF d) G w A c ys :=
  ⟨by simpa using h.1, fun hp => by
    obtain ⟨b, o, h1, h2, h3⟩ := h.2 (by simpa using hp)
    exact ⟨b, o, h1, h2, fun j x hx i v hv => h3 j x.1 (by rw [List.getElem?_map, hx]; rfl) i v hv⟩⟩
theorem of_list {xs : List Fx} (h : ∀ x ∈ xs, okFx x) : ∃ ys : List OF, xs = ys.map (·.1) := by
  induction xs with
  | nil => exact ⟨[], rfl⟩
  | cons x r ih =>
    obtain ⟨ys, hy⟩ := ih (fun y hy => h y (by simp [hy]))
    exact ⟨⟨x, h x (by simp)⟩ :: ys, by subst hy; rfl⟩
theorem zip_get {ys : List OF} {q : Nat} (h : q < ys.length) : (ys.zipIdx.drop q).reverse = (ys.zipIdx.drop (q + 1)).reverse ++ [(ys[q], q)] := by
  rw [List.drop_eq_getElem_cons (by simpa using h), List.reverse_cons]
  simp
theorem fl_back (x : Fx) (hx : okFx x) (A : Option Addr) (c : Nat) (l : List Fld) (hl : Okf l) (d : Nat) (w : World) (H : St w (Bk [rowF A c l]) w [rowF A c l]) :
    ∃ ty u fn rv, val d x = .iface ty u ∧ (∀ w, (method (Try.prog.types.size + Made.depth) ty u "barbican/filter.back").run Try.prog w = .ok (fn, rv) w) ∧ callB Try.prog fn = true ∧ Calls Try.prog fn #[rv, .slice A l.length c] w (fun e w' => ∃ A' c', e = .returned (.slice A' (backR l x).length c') ∧ St w (Bk [rowF A c l]) w' [rowF A' c' (backR l x)]) := by
  obtain ⟨h1, h2⟩ : 1 ≤ x.f.kind ∧ x.f.kind ≤ 8 := ⟨hx.fl.k1, hx.fl.k2⟩
  by_cases hk1 : x.f.kind = 1
  · refine ⟨_, _, 70, _, val1 d x hk1, mt1_back _ _ _ _ _ _, cl70, ?_⟩
    have e1 : backR l x = l := by unfold backR; rw [if_neg (by omega), if_neg (by omega)]
    rw [e1]
    exact fl_back0 x.f A c l hl hx.fl.nm w H
  by_cases hk2 : x.f.kind = 2
  · refine ⟨_, _, 70, _, val2 d x hk2, mt2_back _ _ _ _ _ _, cl70, ?_⟩
    have e1 : backR l x = l := by unfold backR; rw [if_neg (by omega), if_neg (by omega)]
    rw [e1]
    exact fl_back0 x.f A c l hl hx.fl.nm w H
  by_cases hk3 : x.f.kind = 3
  · refine ⟨_, _, 70, _, val3 d x hk3, mt3_back _ _ _ _ _ _ _, cl70, ?_⟩
    have e1 : backR l x = l := by unfold backR; rw [if_neg (by omega), if_neg (by omega)]
    rw [e1]
    exact fl_back0 x.f A c l hl hx.fl.nm w H
  by_cases hk4 : x.f.kind = 4
  · refine ⟨_, _, 70, _, val4 d x hk4, mt4_back _ _ _ _ _ _, cl70, ?_⟩
    have e1 : backR l x = l := by unfold backR; rw [if_neg (by omega), if_neg (by omega)]
    rw [e1]
    exact fl_back0 x.f A c l hl hx.fl.nm w H
  by_cases hk5 : x.f.kind = 5
  · refine ⟨_, _, 85, _, val5 d x hk5, mt5_back _, cl85, ?_⟩
    have e1 : backR l x = setF l litAllowOrigin x.f.value := by unfold backR; rw [if_pos hk5]
    rw [e1]
    exact fl_back5 x.f A c l hl hx.fl.nm w H
  by_cases hk6 : x.f.kind = 6
  · refine ⟨_, _, 70, _, val6 d x hk6, mt6_back _ _ _ _ _ _, cl70, ?_⟩
    have e1 : backR l x = l := by unfold backR; rw [if_neg (by omega), if_neg (by omega)]
    rw [e1]
    exact fl_back0 x.f A c l hl hx.fl.nm w H
  by_cases hk7 : x.f.kind = 7
  · refine ⟨_, _, 70, _, val7 d x hk7, mt7_back _ _ _ _ _ _ _, cl70, ?_⟩
    have e1 : backR l x = l := by unfold backR; rw [if_neg (by omega), if_neg (by omega)]
    rw [e1]
    exact fl_back0 x.f A c l hl hx.fl.nm w H
  have hk8 : x.f.kind = 8 := by omega
  refine ⟨_, _, 93, _, val8 d x hk8, mt8_back _, cl93, ?_⟩
  have e1 : backR l x = setF l x.f.name x.f.value := by unfold backR; rw [if_neg (by omega), if_pos hk8]
  rw [e1]
  exact fl_back8 x.f A c l hl hx.fl.nm w H
theorem fl_Backward (A : Option Addr) (m c : Nat) (w : World) :
    Calls Try.prog 27 #[.slice A m c] w fun e w' => ∃ B, e = .returned (.func (.func 36) #[] #[.pointer (some ⟨B, 0, none⟩)]) ∧ St w No w' [.blk B [.slice A m c] 60 (0, 0)] := by
  refine calls_of Try.func27 rfl Try.ntmps27 (by rfl) (K0 := [(0, _)]) ⟨rfl, trivial⟩ ?_
  have H := St.init w
  refine WC.seq (WC.reg (WL.box (t := 60) (cs := [_]) rfl rfl H rfl fun b1 w1 hb1 H L => (WL.v (Ev.assign rfl) rfl (WL.nil (WQ.tn (WC.seq (WC.reg (WL.v (Ev.makeFunc (vs := #[]) (us := #[_]) rfl rfl) rfl (WL.v (Ev.assign rfl) rfl (WL.nil (WQ.tn (WC.ret (WQ.ret1 rfl rfl ?_)))))))))))))
  exact ⟨_, rfl, H⟩
theorem fl_Backward1 (d : Nat) (A : Option Addr) (c : Nat) (ys : List OF) (G T : Nat → Prop) (B l : Nat) (J Jx : List (OF × Nat) → World → Prop) (hy : Sml ys.length) (w W : World) (hg0 : Gr (fun k => T k ∨ w.heap.size ≤ k) w W) (R0 : Rd (kOF d) G w A c ys) (hGT : ∀ b, G b → ¬ T b) (hB : w.cell? ⟨B, 0, none⟩ = some (.slice A ys.length c)) (hTB : ¬ T B) (hJ : AbidesFrom W.heap.size J)
    (hY : ∀ pre x W1, J pre W1 → pre.length < ys.length → YieldAt (FF none) 0 Try.prog l [.int .i64 (x.2 : Nat), val d x.1.1].toArray W1 fun e W' => (e = .returned (.bool true) ∧ J (pre ++ [x]) W' ∧ Gr (fun k => T k ∨ w.heap.size ≤ k) W1 W') ∨ (e = .returned (.bool false) ∧ Jx (pre ++ [x]) W')) (h0 : J [] W) :
    Calls Try.prog 36 #[.func (.yield l) #[] #[], .pointer (some ⟨B, 0, none⟩)] W fun e W' => (∃ v, e = .returned v) ∧ ((∃ zs, zs = ys.zipIdx.reverse ∧ J zs W') ∨ (∃ pre, True ∧ Jx pre W')) := by
  have hlen := hy.le
  have hBa := cell_grT hg0 hTB hB
  refine calls_of Try.func36 rfl Try.ntmps36 (by rfl) (K0 := [(0, _), (1, _)]) ⟨rfl, rfl, trivial⟩ ?_
  have H := St.init W
  refine WC.seq (WC.reg (WL.v (Ev.load fl60 rfl (hBa)) rfl (WL.v (Ev.lensl Try.underlying60 rfl) rfl (WL.v (Ev.sub rfl rfl (by unfold I64; omega)) rfl (WL.v (Ev.assign rfl) rfl (WL.nil (WQ.tn (WC.block (WC.loop (γ := Nat) (fun m => [(0, .func (.yield l) #[] #[]), (1, .pointer (some ⟨B, 0, none⟩)), (3, .int .i64 ((m : Nat) - 1 : Int))]) (fun m w1 => m ≤ ys.length ∧ Gr (fun k => T k ∨ w.heap.size ≤ k) w w1 ∧ J ((ys.zipIdx.drop m).reverse) w1) (fun m => m) ys.length (⟨Nat.le_refl _, hg0, by rw [List.drop_eq_nil_of_le (by simp)]; exact h0⟩) ⟨rfl, rfl, rfl, trivial⟩ ?_)))))))))
  rintro m w1 ⟨hm, hg, hJj⟩
  have H := St.init w1
  have R := R0.grT hg hGT
  have hBb := cell_grT hg hTB hB
  refine WC.seq (WC.seq (WC.reg (WL.v (Ev.move rfl) rfl (WL.v (Ev.geq rfl rfl) rfl (WL.nil (WQ.tn (WC.cond rfl (fun h1 => ?_) (fun h1 => ?_))))))))
  · simp only [bsimp] at h1
    obtain ⟨q, rfl⟩ : ∃ q, m = q + 1 := ⟨m - 1, by omega⟩
    rw [show ((q + 1 : Nat) : Int) - 1 = (q : Int) by omega]
    obtain ⟨bk, off, rfl, hG, hc⟩ := R.at (j := q) (by omega)
    have hj1 := getx (xs := ys) (j := q) (by omega)
    refine WC.skip (WQ.tn (WC.seq (WC.block (WC.seq (WC.reg (WL.v (Ev.move rfl) rfl (WL.v (Ev.move rfl) rfl (WL.v (Ev.load fl60 rfl (hBb)) rfl (WL.v (Ev.move rfl) rfl (WL.v (Ev.idx Try.underlying60 sz96 rfl rfl (by omega)) rfl (WL.v (Ev.load fl96 rfl (hc _ _ hj1 0 _ rfl)) rfl ?_)))))))))))
    have hJ2 := hJ _ _ _ none hJj (Ext.grownBy H.gr) (fun r e => by cases e)
    refine WL.yield rfl rfl rfl (yield_of (hY _ (ys[q], q) _ hJ2 (by simp; omega))) fun r w1 hT => (WL.v (Ev.not rfl) rfl (WL.nil (WQ.tn (WC.cond rfl (fun h2 => ?_) (fun h2 => ?_)))))
    · simp only [bsimp] at h2
      subst h2
      simp only [cond_false] at hT
      refine WC.ret (WQ.blk_ret (WQ.tn_ret (WQ.loop_ret (WQ.blk_ret (WQ.ret0 rfl ?_)))))
      exact ⟨⟨_, rfl⟩, .inr ⟨_, trivial, hT⟩⟩
    simp only [bsimp] at h2
    subst h2
    simp only [cond_true] at hT
    refine WC.skip (WQ.blk (WQ.tn (WC.reg (WL.v (Ev.move rfl) rfl (WL.v (Ev.sub rfl rfl (by unfold I64; omega)) rfl (WL.v (Ev.assign rfl) rfl (WL.nil ?_)))))))
    exact WQ.again (q) (⟨by omega, (hg.ext H.gr).trans hT.2, by rw [zip_get (by omega)]; exact hT.1⟩) ⟨rfl, rfl, rfl, trivial⟩ (by first | omega | (dsimp only; omega))
  try simp only [bsimp] at h1
  refine WC.exit (WQ.tn_exit (WQ.loop_exit (WQ.blk_here rfl (WQ.end0 rfl ?_))))
  obtain rfl : m = 0 := by omega
  exact ⟨⟨_, rfl⟩, .inl ⟨_, rfl, by simpa using hJj⟩⟩
theorem fl_Backward_iter (d : Nat) (A : Option Addr) (c : Nat) (ys : List OF) (G T : Nat → Prop) (B : Nat) (hy : Sml ys.length) (w : World) (R : Rd (kOF d) G w A c ys) (hGT : ∀ b, G b → ¬ T b) (hB : w.cell? ⟨B, 0, none⟩ = some (.slice A ys.length c)) (hTB : ¬ T B) :
    Iter Try.prog 36 [.pointer (some ⟨B, 0, none⟩)] (fun x : OF × Nat => [.int .i64 (x.2 : Nat), val d x.1.1].toArray) T (fun zs => zs = ys.zipIdx.reverse) ys.length w := by
  intro l J Jx W hW hJ hJx hY h0
  exact callsIn_FF.2 (fl_Backward1 d A c ys G T B l J Jx hy w W ((Ext.of_below hW).mono fun _ _ h => h.elim) R hGT hB hTB hJ hY h0)
def backL (l : List Fld) (xs : List Fx) : List Fld := xs.foldl backR l
theorem backL_snoc (l : List Fld) (xs : List Fx) (x : Fx) : backL l (xs ++ [x]) = backR (backL l xs) x := by simp [backL]
theorem fl_Response (c0 d : Nat) (A : Option Addr) (cap : Nat) (ys : List OF) (GX : Nat → Prop) (hy : Sml ys.length) (Al : Option Addr) (cl : Nat) (l : List Fld) (G : Nat → Prop) (hl : OkfN ys.length l) (w : World) (hc : w.cell? ⟨c0, 0, none⟩ = some (.slice A ys.length cap)) (RX : Rd (kOF d) GX w A cap ys) (R : Rd kFd G w Al cl l) :
    Calls Try.prog 14 #[.pointer (some ⟨c0, 0, none⟩), .slice Al l.length cl] w fun e w' => ∃ A' c', e = .returned (.slice A' (backL l (ys.map (·.1)).reverse).length c') ∧ St w No w' [rowF A' c' (backL l (ys.map (·.1)).reverse)] := by
  refine calls_ofM Try.func14 rfl Try.ntmps14 (by rfl) (K0 := [(0, _), (1, _)]) ⟨rfl, rfl, trivial⟩ ?_
  have H := St.init w
  refine WC.seq (WC.reg (WL.v (Ev.assign rfl) rfl (WL.nil (WQ.tn (WC.seq (WC.reg (WL.v (Ev.move rfl) rfl (WL.call (vs := [_]) rfl cl26 rfl (fl_Clone Al cl l _ hl.okf _ (R.ext H.gr)) ?_))))))))
  rintro _ w1 ⟨A0, c1, rfl, H1⟩
  replace H := H.app H1
  refine ⟨_, rfl, ?_⟩
  refine WL.alloc z32 rfl H rfl fun b1 w1 hb1 H L => (WL.store (i := 0) (vs := [_]) rfl rfl rfl sz32 rfl H rfl rfl fun w1 H L => (WL.nil (WQ.tn (WC.seq (WC.seq (WC.reg (WL.v (Ev.move rfl) rfl (WL.v (Ev.nilCheck rfl) rfl (WL.v (Ev.fieldAddr fa62_0 rfl) rfl (WL.v (Ev.load fl60 rfl (H.old hc)) rfl (WL.call (vs := [_]) rfl cl27 rfl (fl_Backward A ys.length cap _) ?_)))))))))))
  rintro _ w1 ⟨B, rfl, H1⟩
  have hn1 := H1.geI 0 (b := B) rfl
  have hB := H1.cell 0 rfl (o := 0) rfl
  have hm1 : ∀ b, Bk [.blk b1 [.slice A0 l.length c1] 32 (0, 0), rowF A0 c1 l] b → w.heap.size ≤ b := fun b hb => by
    obtain ⟨c, hc, hcb⟩ := List.mem_flatMap.1 hb
    exact (H.mem hc hcb).resolve_left (fun h => h)
  have hl1 : ∀ b, Bk [.blk b1 [.slice A0 l.length c1] 32 (0, 0), rowF A0 c1 l] b → b < _ := fun b hb => by
    obtain ⟨c, hc, hcb⟩ := List.mem_flatMap.1 hb
    exact H.lt hc hcb
  have RX1 := (RX.lt.ext H.gr).ext H1.gr
  replace H := H.ext H1.gr
  refine ⟨_, rfl, ?_⟩
  refine WL.nil (WQ.tn (WC.block (WC.rangeFunc (α := OF × Nat) (γ := Option Addr × Nat × List Fld) (ps := [15, 16]) (encs := fun x => [.int .i64 (x.2 : Nat), val d x.1.1]) rfl cl36 H (fl_Backward_iter d A cap ys _ _ B hy _ RX1 (fun b hb h => by have := hm1 b h; omega) hB (fun h => by have := hl1 B h; omega)) (fun _ => rfl) rfl (fun ⟨A1, c1, l1⟩ => [.blk b1 [.slice A1 l1.length c1] 32 (0, 0), rowF A1 c1 l1]) (fun pre ⟨A1, c1, l1⟩ => l1 = backL l (pre.map (·.1.1)) ∧ OkfN (ys.length - pre.length) l1) ((A0, c1, l)) (⟨rfl, hl⟩) rfl (fun x => [(5, .pointer (some ⟨b1, 0, none⟩)), (16, val d x.1.1)]) (fun x => [(5, .pointer (some ⟨b1, 0, none⟩)), (7, val d x.1.1)]) (fun x => ⟨rfl, rfl, trivial⟩) ?_ ?_ ?_)))
  · intro l x W
    have H := St.init W
    refine WC.reg (WL.v (Ev.assign rfl) rfl (WL.nil ?_))
    exact WQ.meet (()) (rfl) ⟨rfl, rfl, trivial⟩
  · rintro l pre x ⟨A1, c1, l1⟩ W ⟨hl1, hlo⟩ hlt HW H
    refine WC.block (WC.reg (WL.v (Ev.move rfl) rfl (WL.v (Ev.load fl32 rfl (H.cell 0 rfl rfl)) rfl ?_)))
    have HB := H.perm (σ' := [_, _]) (List.Perm.swap _ _ _)
    obtain ⟨ty, u, fn, rv, hv, hmt, hcb, hC⟩ := fl_back x.1.1 x.1.2 A1 c1 l1 hlo.okf d _ HB.local1
    refine WL.invoke (vs := [_]) (by rw [← hv]; rfl) rfl hmt hcb rfl hC ?_
    rintro _ w1 ⟨A2, c2, rfl, H1⟩
    replace H := HB.frame1 H1
    refine ⟨_, rfl, ?_⟩
    refine WL.store (i := 1) (vs := [_]) rfl rfl rfl sz32 rfl H rfl rfl fun w1 H L => (WL.nil (WQ.blk ?_))
    exact WQ.round ((A2, c2, backR l1 x.1.1)) (⟨by rw [List.map_append, hl1]; simp [backL], by have := backR_ok x.1.2 (n := ys.length - (pre ++ [x]).length) (l := l1) (by rw [show ys.length - (pre ++ [x]).length + 1 = ys.length - pre.length by simp; omega]; exact hlo); exact this⟩) (H.perm (σ' := [_, _]) (List.Perm.swap _ _ _))
  rintro D xs9 ⟨A1, c1, l1⟩ w1 hS ⟨hl1, hlo⟩ H hD hk
  refine WQ.blk (WQ.tn (WC.seq (WC.reg (WL.v (Ev.load fl32 rfl (H.cell 0 rfl rfl)) rfl (WL.v (Ev.assign rfl) rfl (WL.nil (WQ.tn (WC.ret (WQ.mark1 rfl rfl hk ?_)))))))))
  subst hS
  rw [List.map_reverse, show ys.zipIdx.map (fun x => x.1.1) = ys.map (·.1) by rw [← List.zipIdx_map_fst (l := ys) (i := 0), List.map_map]; simp [Function.comp_def]] at hl1
  subst hl1
  exact ⟨A1, c1, rfl, (H.putD hD hk rfl).tail⟩
end Go.Proofs.Ytcmolgiccccnoaa
