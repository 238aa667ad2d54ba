/- The walks of functions: what each comes to. -/
import Derived.Test.YtodappgiadelaaaDoorXl
import Derived.Test.YtodappgiadelaaaDoorRnd
import Derived.Test.YtodappgiadelaaaDoorProg
set_option linter.unusedVariables false
set_option linter.unusedSimpArgs false
namespace Go.Proofs.YtodappgiadelaaaDoor
open Go.RowKit Go.BK
theorem fl37 : flatB Tryd.prog 37 = true := by kernel_rfl
theorem sz79 : szOk Tryd.prog 79 2 := by unfold szOk; kernel_rfl
theorem ag79 : aggB Tryd.prog 79 = true := by kernel_rfl
theorem z79 : zOk Tryd.prog 79 (.agg #[str [], str []]) := by unfold zOk; kernel_rfl
theorem fa79_0 : fldB Tryd.prog 79 0 0 = true := by kernel_rfl
theorem fl9 : flatB Tryd.prog 9 = true := by kernel_rfl
theorem cl45 : callB Tryd.prog 45 = true := by kernel_rfl
theorem fa79_1 : fldB Tryd.prog 79 1 1 = true := by kernel_rfl
theorem z9 : zOk Tryd.prog 9 (str []) := by unfold zOk; kernel_rfl
theorem z3 : zOk Tryd.prog 3 (.int .i64 0) := by unfold zOk; kernel_rfl
theorem sz9 : szOk Tryd.prog 9 1 := by unfold szOk; kernel_rfl
theorem sz3 : szOk Tryd.prog 3 1 := by unfold szOk; kernel_rfl
theorem cl58 : callB Tryd.prog 58 = true := by kernel_rfl
theorem cl70 : callB Tryd.prog 70 = true := by kernel_rfl
theorem fl3 : flatB Tryd.prog 3 = true := by kernel_rfl
theorem mixed : Tryd.prog.follows .mixedOrders = true := by kernel_rfl
theorem fd_all (A : Option Addr) (m c : Nat) (nm : Bs) (w : World) :
    Calls Tryd.prog 58 #[.slice A m c, str nm] w fun e w' => ∃ b1 b2, e = .returned (.func (.func 70) #[] #[.pointer (some ⟨b1, 0, none⟩), .pointer (some ⟨b2, 0, none⟩)]) ∧ St w No w' [.blk b2 [str nm] 9 (0, 0), .blk b1 [.slice A m c] 37 (0, 0)] := by
  refine calls_of Tryd.func58 rfl Tryd.ntmps58 (by rfl) (K0 := [(0, _), (1, _)]) ⟨rfl, rfl, trivial⟩ ?_
  have H := St.init w
  refine WC.seq (WC.reg (WL.box (t := 37) (cs := [_]) rfl rfl H rfl fun b1 w1 hb1 H L => (WL.box (t := 9) (cs := [_]) rfl rfl H rfl fun b2 w1 hb2 H L => (WL.v (Ev.assign rfl) rfl (WL.nil (WQ.tn (WC.seq (WC.reg (WL.v (Ev.makeFunc (vs := #[]) (us := #[_, _]) rfl rfl) rfl (WL.v (Ev.assign rfl) rfl (WL.nil (WQ.tn (WC.ret (WQ.ret1 rfl rfl ?_))))))))))))))
  exact ⟨_, _, rfl, H⟩
theorem allF_yes {xs : List Fld} {nm : Bs} {j : Nat} (h : j < xs.length) (ha : alike xs[j].1 nm = true) : allF (xs.take (j + 1)) nm = allF (xs.take j) nm ++ [xs[j].2] := by
  unfold allF; rw [filter_yes h ha, List.map_append]; rfl
theorem allF_no {xs : List Fld} {nm : Bs} {j : Nat} (h : j < xs.length) (ha : alike xs[j].1 nm = false) : allF (xs.take (j + 1)) nm = allF (xs.take j) nm := by
  unfold allF; rw [filter_no h ha]
theorem allF_len {xs : List Fld} {nm : Bs} {j : Nat} : (allF (xs.take j) nm).length ≤ j := by
  unfold allF; rw [List.length_map]; exact Nat.le_trans (List.length_filter_le _ _) (by rw [List.length_take]; omega)
theorem fd_all1 (A : Option Addr) (c : Nat) (xs : List Fld) (G T : Nat → Prop) (nm : Bs) (B1 B2 l : Nat) (J Jx : List Bs → World → Prop) (hx : Okf xs) (hn : Sml nm.length) (w W : World) (hg0 : Gr (fun k => T k ∨ w.heap.size ≤ k) w W) (R0 : Rd kFd G w A c xs) (hGT : ∀ b, G b → ¬ T b) (hB1 : w.cell? ⟨B1, 0, none⟩ = some (.slice A xs.length c)) (hB2 : w.cell? ⟨B2, 0, none⟩ = some (str nm)) (hT1 : ¬ T B1) (hT2 : ¬ T B2) (hJ : AbidesFrom W.heap.size J)
    (hY : ∀ pre x W1, J pre W1 → pre.length < xs.length → YieldAt (FF none) 0 Tryd.prog l [str x].toArray W1 fun e W' => (e = .returned (.bool true) ∧ J (pre ++ [x]) W' ∧ Gr (fun k => T k ∨ w.heap.size ≤ k) W1 W') ∨ (e = .returned (.bool false) ∧ Jx (pre ++ [x]) W')) (h0 : J [] W) :
    Calls Tryd.prog 70 #[.func (.yield l) #[] #[], .pointer (some ⟨B1, 0, none⟩), .pointer (some ⟨B2, 0, none⟩)] W fun e W' => (∃ v, e = .returned v) ∧ ((∃ ys, ys = allF xs nm ∧ J ys W') ∨ (∃ pre, True ∧ Jx pre W')) := by
  have hlen := hx.len
  have hB1a := cell_grT hg0 hT1 hB1
  refine calls_of Tryd.func70 rfl Tryd.ntmps70 (by rfl) (K0 := [(0, _), (1, _), (2, _)]) ⟨rfl, rfl, rfl, trivial⟩ ?_
  have H := St.init W
  refine WC.seq (WC.reg (WL.v (Ev.load fl37 rfl (hB1a)) rfl (WL.v (Ev.lensl Tryd.underlying37 rfl) rfl (WL.v (Ev.move rfl) rfl (WL.nil (WQ.tn (WC.block (WC.loop (γ := Nat) (fun j => [(0, .func (.yield l) #[] #[]), (2, .pointer (some ⟨B2, 0, none⟩)), (6, .slice A xs.length c), (7, .int .i64 (xs.length : Nat)), (8, .int .i64 (j : Nat))]) (fun j w1 => j ≤ xs.length ∧ Gr (fun k => T k ∨ w.heap.size ≤ k) w w1 ∧ J (allF (xs.take j) nm) w1) (fun j => xs.length - j) 0 (⟨Nat.zero_le _, hg0, h0⟩) ⟨rfl, rfl, rfl, rfl, rfl, trivial⟩ ?_))))))))
  rintro j w1 ⟨hj, hg, hJj⟩
  have H := St.init w1
  have R := R0.grT hg hGT
  have hB2a := cell_grT hg hT2 hB2
  refine WC.seq (WC.reg (WL.v (Ev.lssN rfl rfl) rfl (WL.nil (WQ.tn (WC.seq (WC.cond rfl (fun h1 => ?_) (fun h1 => ?_)))))))
  · simp only [bsimp] at h1
    obtain ⟨bk, off, rfl, hG, hc⟩ := R.at h1
    have hj1 := getx h1
    refine WC.skip (WQ.tn (WC.seq (WC.block (WC.seq (WC.reg (WL.v (Ev.idx Tryd.underlying37 sz79 rfl rfl (by omega)) rfl (WL.v (Ev.loadA (vs := [_, _]) ag79 sz79 rfl (H.olds (rdCells hc hj1 0 rfl))) rfl (WL.alloc z79 rfl H rfl fun b1 w1 hb1 H L => (WL.store (i := 0) (vs := [_, _]) rfl rfl rfl sz79 rfl H rfl rfl fun w1 H L => (WL.nil (WQ.tn (WC.seq (WC.reg (WL.v (Ev.fieldAddr fa79_0 rfl) rfl (WL.v (Ev.load fl9 rfl (H.cell 0 rfl rfl)) rfl (WL.v (Ev.load fl9 rfl (H.old hB2a)) rfl (WL.callS (vs := [_, _]) rfl cl45 rfl H (lex_Alike _ _ (hx.at hj1).1 hn _) fun w1 H L => (WL.v (Ev.move rfl) rfl (WL.g (Met.yes rfl rfl) (fun hg => Ev.move rfl) rfl (WL.g (Met.yes rfl rfl) (fun hg => Ev.fieldAddr fa79_1 rfl) rfl (WL.g (Met.yes rfl rfl) (fun hg => Ev.load fl9 ((evG.un rfl).ev hg) (H.cell 0 rfl rfl)) rfl ?_)))))))))))))))))))))
    have hJ2 := hJ _ _ _ none hJj (Ext.grownBy H.gr) (fun r e => by cases e)
    refine WL.gyield (Met.yes rfl rfl) (fun hg => ((evG.un rfl).ev hg)) (fun hg => evs_cons ((evG.un rfl).ev hg) rfl) rfl (fun hg => yield_of (hY _ xs[j].2 _ hJ2 (by have := allF_len (xs := xs) (nm := nm) (j := j); omega))) fun r w1 hT hF => (WL.g (Met.yes rfl rfl) (fun hg => Ev.not ((evG.un rfl).ev hg)) rfl (WL.v (Ev.and rfl rfl rfl) rfl (WL.nil (WQ.tn (WC.cond rfl (fun h2 => ?_) (fun h2 => ?_))))))
    · simp only [bsimp] at h2
      obtain ⟨h2, rfl⟩ := h2
      have hT := hT h2
      simp only [cond_false] at hT
      refine WC.ret (WQ.blk_ret (WQ.tn_ret (WQ.loop_ret (WQ.blk_ret (WQ.ret0 rfl ?_)))))
      exact ⟨⟨_, rfl⟩, .inr ⟨_, trivial, hT⟩⟩
    have hn2 : Gr (fun k => T k ∨ w.heap.size ≤ k) w w1 ∧ J (allF (xs.take (j + 1)) nm) w1 := by
      cases hal : alike xs[j].1 nm with
      | true =>
        have hT := hT hal
        rw [hal] at h2
        obtain rfl : r = true := by simpa using h2
        simp only [cond_true] at hT
        rw [allF_yes h1 hal]
        exact ⟨(hg.ext H.gr).trans hT.2, hT.1⟩
      | false =>
        obtain rfl := hF hal
        rw [allF_no h1 hal]
        exact ⟨hg.ext H.gr, hJ2⟩
    refine WC.skip (WQ.blk (WQ.tn (WC.reg (WL.v (Ev.addN (b := 1) rfl rfl (by omega)) rfl (WL.v (Ev.move rfl) rfl (WL.nil ?_))))))
    exact WQ.again (j + 1) (⟨by omega, hn2.1, hn2.2⟩) ⟨rfl, rfl, rfl, rfl, rfl, trivial⟩ (by first | omega | (dsimp only; omega))
  try simp only [bsimp] at h1
  refine WC.exit (WQ.tn_exit (WQ.loop_exit (WQ.blk_here rfl (WQ.end0 rfl ?_))))
  obtain rfl : j = xs.length := by omega
  rw [List.take_length] at hJj
  exact ⟨⟨_, rfl⟩, .inl ⟨_, rfl, hJj⟩⟩
theorem fd_all_iter (A : Option Addr) (c : Nat) (xs : List Fld) (G T : Nat → Prop) (nm : Bs) (B1 B2 : Nat) (hx : Okf xs) (hn : Sml nm.length) (w : World) (R : Rd kFd G w A c xs) (hGT : ∀ b, G b → ¬ T b) (hB1 : w.cell? ⟨B1, 0, none⟩ = some (.slice A xs.length c)) (hB2 : w.cell? ⟨B2, 0, none⟩ = some (str nm)) (hT1 : ¬ T B1) (hT2 : ¬ T B2) :
    Iter Tryd.prog 70 [.pointer (some ⟨B1, 0, none⟩), .pointer (some ⟨B2, 0, none⟩)] (fun x => [str x].toArray) T (fun ys => ys = allF xs nm) xs.length w := by
  intro l J Jx W hW hJ hJx hY h0
  exact callsIn_FF.2 (fd_all1 A c xs G T nm B1 B2 l J Jx hx hn w W ((Ext.of_below hW).mono fun _ _ h => h.elim) R hGT hB1 hB2 hT1 hT2 hJ hY h0)
theorem getF_all (xs : List Fld) (nm : Bs) : getF xs nm = (((allF xs nm).head?).getD [], (allF xs nm).length) := by
  unfold getF allF; rw [List.head?_map, List.length_map]
theorem head_snoc (l : List Bs) (x : Bs) : ((l ++ [x]).head?).getD [] = if l.length = 0 then x else (l.head?).getD [] := by
  cases l with
  | nil => rfl
  | cons a l => simp
theorem fd_Get (A : Option Addr) (c : Nat) (xs : List Fld) (G : Nat → Prop) (hx : Okf xs) (nm : Bs) (hn : Sml nm.length) (w : World) (R : Rd kFd G w A c xs) :
    Calls Tryd.prog 43 #[.slice A xs.length c, str nm] w fun e w' => e = .returned (.tuple #[str (getF xs nm).1, .int .i64 ((getF xs nm).2 : Nat)]) ∧ St w No w' [] := by
  have hlen := hx.len
  refine calls_ofM Tryd.func43 rfl Tryd.ntmps43 (by rfl) (K0 := [(0, _), (1, _)]) ⟨rfl, rfl, trivial⟩ ?_
  have H := St.init w
  refine WC.seq (WC.reg (WL.v (Ev.assign rfl) rfl (WL.v (Ev.assign rfl) rfl (WL.nil (WQ.tn (WC.seq (WC.reg (WL.alloc z9 rfl H rfl fun b1 w1 hb1 H L => (WL.alloc z3 rfl H rfl fun b2 w1 hb2 H L => (WL.store (i := 1) (vs := [_]) rfl rfl rfl sz9 rfl H rfl rfl fun w1 H L => (WL.store (i := 0) (vs := [_]) rfl rfl rfl sz3 rfl H rfl rfl fun w1 H L => (WL.nil (WQ.tn (WC.seq (WC.seq (WC.reg (WL.v (Ev.move rfl) rfl (WL.v (Ev.move rfl) rfl (WL.call (vs := [_, _]) rfl cl58 rfl (fd_all A xs.length c nm _) ?_)))))))))))))))))))
  rintro _ w1 ⟨B1, B2, rfl, H1⟩
  have hm1 := H.geI 1 (b := b1) rfl
  have hm2 := H.geI 0 (b := b2) rfl
  have hl1 := H.ltI 1 (b := b1) rfl
  have hl2 := H.ltI 0 (b := b2) rfl
  have R1 := (R.lt.ext H.gr).ext H1.gr
  have hB1 := H1.cell 1 rfl (o := 0) rfl
  have hB2 := H1.cell 0 rfl (o := 0) rfl
  have hn1 := H1.geI 1 (b := B1) rfl
  have hn2 := H1.geI 0 (b := B2) rfl
  replace H := H.ext H1.gr
  refine ⟨_, rfl, ?_⟩
  refine WL.nil (WQ.tn (WC.block (WC.rangeFunc (α := Bs) (γ := List Bs) (ps := [12]) (encs := fun x => [str x]) rfl cl70 H (fd_all_iter A c xs _ _ nm B1 B2 hx hn _ R1 (fun b hb h => by simp [Bk, Chunk.blocks] at h; omega) hB1 hB2 (fun h => by simp [Bk, Chunk.blocks] at h; omega) (fun h => by simp [Bk, Chunk.blocks] at h; omega)) (fun _ => rfl) rfl (fun g => [.blk b2 [.int .i64 (g.length : Nat)] 3 (0, 0), .blk b1 [str (g.head?.getD [])] 9 (0, 0)]) (fun pre g => pre = g) ([]) (rfl) rfl (fun x => [(6, .pointer (some ⟨b1, 0, none⟩)), (7, .pointer (some ⟨b2, 0, none⟩)), (12, str x)]) (fun x => [(6, .pointer (some ⟨b1, 0, none⟩)), (7, .pointer (some ⟨b2, 0, none⟩)), (8, str x)]) (fun x => ⟨rfl, rfl, rfl, trivial⟩) ?_ ?_ ?_)))
  · intro l x W
    have H := St.init W
    refine WC.reg (WL.v (Ev.assign rfl) rfl (WL.nil ?_))
    exact WQ.meet (()) (rfl) ⟨rfl, rfl, rfl, trivial⟩
  · rintro l pre x g W rfl hlt HW H
    refine WC.block (WC.seq (WC.seq (WC.reg (WL.v (Ev.load fl3 rfl (H.cell 0 rfl rfl)) rfl (WL.v (Ev.eqN (b := 0) rfl rfl) rfl (WL.nil (WQ.tn (WC.cond rfl (fun h1 => ?_) (fun h1 => ?_)))))))))
    · try simp only [bsimp] at h1
      refine WC.reg (WL.v (Ev.move rfl) rfl (WL.store (i := 1) (vs := [_]) rfl rfl rfl sz9 rfl H rfl rfl fun w1 H L => (WL.nil (WQ.tn (WC.reg (WL.v (Ev.load fl3 rfl (H.cell 0 rfl rfl)) rfl (WL.v (Ev.addN (b := 1) rfl rfl (by omega)) rfl (WL.store (i := 0) (vs := [_]) rfl rfl rfl sz3 rfl H rfl rfl fun w1 H L => (WL.nil (WQ.blk ?_))))))))))
      exact WQ.round (pre ++ [x]) (rfl) (by rw [head_snoc, if_pos h1, List.length_append]; exact H)
    try simp only [bsimp] at h1
    refine WC.skip (WQ.tn (WC.reg (WL.v (Ev.load fl3 rfl (H.cell 0 rfl rfl)) rfl (WL.v (Ev.addN (b := 1) rfl rfl (by omega)) rfl (WL.store (i := 0) (vs := [_]) rfl rfl rfl sz3 rfl H rfl rfl fun w1 H L => (WL.nil (WQ.blk ?_)))))))
    exact WQ.round (pre ++ [x]) (rfl) (by rw [head_snoc, if_neg h1, List.length_append]; exact H)
  rintro D xs9 g w1 hS rfl H hD hk
  refine WQ.blk (WQ.tn (WC.seq (WC.drawT mixed (No) 4 [(false, 0), (false, 1), (false, 2), (false, 3)] (by kernel_rfl) ?_)))
  intro w1 L
  replace H := H.ext L
  replace hk := block_ext hk L
  refine WX.v rfl (fun w2 hC => Ev.load fl9 rfl (Gr.cell hC (fun h => h) (H.cell 1 rfl rfl))) rfl (WX.v rfl (fun w2 hC => Ev.load fl3 rfl (Gr.cell hC (fun h => h) (H.cell 0 rfl rfl))) rfl (WX.v rfl (fun w2 hC => Ev.assign rfl) rfl (WX.v rfl (fun w2 hC => Ev.assign rfl) rfl (WX.nil (WQ.tn (WC.ret (WQ.mark2 rfl rfl rfl hk ?_)))))))
  subst hS
  rw [getF_all]
  exact ⟨rfl, (H.putD hD hk rfl).done⟩
end Go.Proofs.YtodappgiadelaaaDoor
