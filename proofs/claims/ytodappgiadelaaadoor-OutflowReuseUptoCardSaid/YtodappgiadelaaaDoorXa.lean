/- The walks of functions: what each comes to. -/
import Derived.Test.YtodappgiadelaaaDoorXe
import Derived.Test.YtodappgiadelaaaDoorProg
set_option linter.unusedVariables false
set_option linter.unusedSimpArgs false
namespace Go.Proofs.YtodappgiadelaaaDoor
open Go.RowKit Go.BK
theorem z22 : zOk Tryd.prog 22 (.slice none 0 0) := by unfold zOk; kernel_rfl
theorem fl22 : flatB Tryd.prog 22 = true := by kernel_rfl
theorem cl59 : callB Tryd.prog 59 = true := by kernel_rfl
theorem sz22 : szOk Tryd.prog 22 1 := by unfold szOk; kernel_rfl
abbrev Vb := { x : Bs // x.length ≤ 1048576 }
def vb0 : Vb := ⟨[], by simp⟩
def allN (xs : List Fld) (nm : Bs) (j : Nat) : Nat := (allF (xs.take j) nm).length
theorem zs_at {xs : List Fld} {nm : Bs} {j : Nat} {zs : List Vb} (hz : zs.map (·.1) = allF xs nm) (h : j < xs.length) (ha : alike xs[j].1 nm = true) :
    (zs.getD (allN xs nm j) vb0).1 = xs[j].2 ∧ zs.take (allN xs nm (j + 1)) = zs.take (allN xs nm j) ++ [zs.getD (allN xs nm j) vb0] := by
  have e1 : allF xs nm = allF (xs.take j) nm ++ [xs[j].2] ++ allF (xs.drop (j + 1)) nm := by
    rw [← allF_yes h ha]
    unfold allF
    rw [← List.map_append, ← List.filter_append, List.take_append_drop]
  have e2 : allN xs nm (j + 1) = allN xs nm j + 1 := by unfold allN; rw [allF_yes h ha]; simp
  have hl : allN xs nm j < zs.length := by
    have := congrArg List.length hz
    rw [List.length_map, e1] at this
    unfold allN
    simp at this; omega
  have e3 : zs.getD (allN xs nm j) vb0 = zs[allN xs nm j] := by rw [List.getD_eq_getElem?_getD, List.getElem?_eq_getElem hl]; rfl
  refine ⟨?_, by rw [e2, take_succ_get hl, e3]⟩
  have h4 : (zs.map (·.1))[allN xs nm j]? = some xs[j].2 := by
    rw [hz, e1, List.append_assoc, List.getElem?_append_right (by unfold allN; omega)]
    unfold allN; simp
  rw [List.getElem?_map, List.getElem?_eq_getElem hl] at h4
  rw [e3]; simpa using h4
theorem allN_no {xs : List Fld} {nm : Bs} {j : Nat} (h : j < xs.length) (ha : alike xs[j].1 nm = false) : allN xs nm (j + 1) = allN xs nm j := by unfold allN; rw [allF_no h ha]
theorem allN_end {xs : List Fld} {nm : Bs} {zs : List Vb} (hz : zs.map (·.1) = allF xs nm) : zs.take (allN xs nm xs.length) = zs := by
  have := congrArg List.length hz
  rw [List.length_map] at this
  unfold allN
  rw [List.take_length, ← this, List.take_length]
theorem fd_all1V (A : Option Addr) (c : Nat) (xs : List Fld) (G T : Nat → Prop) (nm : Bs) (B1 B2 l : Nat) (zs : List Vb) (hz : zs.map (·.1) = allF xs nm) (J Jx : List Vb → World → Prop) (hx : Okf xs) (hn : Sml nm.length) (w W : World) (hg0 : Gr (fun k => T k ∨ w.heap.size ≤ k) w W) (R0 : Rd kFd G w A c xs) (hGT : ∀ b, G b → ¬ T b) (hB1 : w.cell? ⟨B1, 0, none⟩ = some (.slice A xs.length c)) (hB2 : w.cell? ⟨B2, 0, none⟩ = some (str nm)) (hT1 : ¬ T B1) (hT2 : ¬ T B2) (hJ : AbidesFrom W.heap.size J)
    (hY : ∀ pre x W1, J pre W1 → pre.length < xs.length → YieldAt (FF none) 0 Tryd.prog l [str x.1].toArray W1 fun e W' => (e = .returned (.bool true) ∧ J (pre ++ [x]) W' ∧ Gr (fun k => T k ∨ w.heap.size ≤ k) W1 W') ∨ (e = .returned (.bool false) ∧ Jx (pre ++ [x]) W')) (h0 : J [] W) :
    Calls Tryd.prog 70 #[.func (.yield l) #[] #[], .pointer (some ⟨B1, 0, none⟩), .pointer (some ⟨B2, 0, none⟩)] W fun e W' => (∃ v, e = .returned v) ∧ ((∃ ys, ys = zs ∧ J ys W') ∨ (∃ pre, True ∧ Jx pre W')) := by
  have hlen := hx.len
  have hB1a := cell_grT hg0 hT1 hB1
  refine calls_of Tryd.func70 rfl Tryd.ntmps70 (by rfl) (K0 := [(0, _), (1, _), (2, _)]) ⟨rfl, rfl, rfl, trivial⟩ ?_
  have H := St.init W
  refine WC.seq (WC.reg (WL.v (Ev.load fl37 rfl (hB1a)) rfl (WL.v (Ev.lensl Tryd.underlying37 rfl) rfl (WL.v (Ev.move rfl) rfl (WL.nil (WQ.tn (WC.block (WC.loop (γ := Nat) (fun j => [(0, .func (.yield l) #[] #[]), (2, .pointer (some ⟨B2, 0, none⟩)), (6, .slice A xs.length c), (7, .int .i64 (xs.length : Nat)), (8, .int .i64 (j : Nat))]) (fun j w1 => j ≤ xs.length ∧ Gr (fun k => T k ∨ w.heap.size ≤ k) w w1 ∧ J (zs.take (allN xs nm j)) w1) (fun j => xs.length - j) 0 (⟨Nat.zero_le _, hg0, by rw [show allN xs nm 0 = 0 from rfl]; exact h0⟩) ⟨rfl, rfl, rfl, rfl, rfl, trivial⟩ ?_))))))))
  rintro j w1 ⟨hj, hg, hJj⟩
  have H := St.init w1
  have R := R0.grT hg hGT
  have hB2a := cell_grT hg hT2 hB2
  refine WC.seq (WC.reg (WL.v (Ev.lssN rfl rfl) rfl (WL.nil (WQ.tn (WC.seq (WC.cond rfl (fun h1 => ?_) (fun h1 => ?_)))))))
  · simp only [bsimp] at h1
    obtain ⟨bk, off, rfl, hG, hc⟩ := R.at h1
    have hj1 := getx h1
    refine WC.skip (WQ.tn (WC.seq (WC.block (WC.seq (WC.reg (WL.v (Ev.idx Tryd.underlying37 sz79 rfl rfl (by omega)) rfl (WL.v (Ev.loadA (vs := [_, _]) ag79 sz79 rfl (H.olds (rdCells hc hj1 0 rfl))) rfl (WL.alloc z79 rfl H rfl fun b1 w1 hb1 H L => (WL.store (i := 0) (vs := [_, _]) rfl rfl rfl sz79 rfl H rfl rfl fun w1 H L => (WL.nil (WQ.tn (WC.seq (WC.reg (WL.v (Ev.fieldAddr fa79_0 rfl) rfl (WL.v (Ev.load fl9 rfl (H.cell 0 rfl rfl)) rfl (WL.v (Ev.load fl9 rfl (H.old hB2a)) rfl (WL.callS (vs := [_, _]) rfl cl45 rfl H (lex_Alike _ _ (hx.at hj1).1 hn _) fun w1 H L => (WL.v (Ev.move rfl) rfl (WL.g (Met.yes rfl rfl) (fun hg => Ev.move rfl) rfl (WL.g (Met.yes rfl rfl) (fun hg => Ev.fieldAddr fa79_1 rfl) rfl (WL.g (Met.yes rfl rfl) (fun hg => Ev.load fl9 ((evG.un rfl).ev hg) (H.cell 0 rfl rfl)) rfl ?_)))))))))))))))))))))
    have hJ2 := hJ _ _ _ none hJj (Ext.grownBy H.gr) (fun r e => by cases e)
    have hzl : (zs.take (allN xs nm j)).length < xs.length := by
      have := allF_len (xs := xs) (nm := nm) (j := j)
      unfold allN
      rw [List.length_take]; omega
    refine WL.gyield (T := fun r W' => bif r then (J (zs.take (allN xs nm j) ++ [zs.getD (allN xs nm j) vb0]) W' ∧ Gr (fun k => T k ∨ w.heap.size ≤ k) _ W') else Jx (zs.take (allN xs nm j) ++ [zs.getD (allN xs nm j) vb0]) W') (Met.yes rfl rfl) (fun hg => ((evG.un rfl).ev hg)) (fun hg => evs_cons ((evG.un rfl).ev hg) rfl) rfl (fun hg => by rw [← (zs_at hz h1 hg).1]; exact yield_of (hY _ (zs.getD (allN xs nm j) vb0) _ hJ2 hzl)) fun r w1 hT hF => (WL.g (Met.yes rfl rfl) (fun hg => Ev.not ((evG.un rfl).ev hg)) rfl (WL.v (Ev.and rfl rfl rfl) rfl (WL.nil (WQ.tn (WC.cond rfl (fun h2 => ?_) (fun h2 => ?_))))))
    · simp only [bsimp] at h2
      obtain ⟨h2, rfl⟩ := h2
      have hT := hT h2
      simp only [cond_false] at hT
      refine WC.ret (WQ.blk_ret (WQ.tn_ret (WQ.loop_ret (WQ.blk_ret (WQ.ret0 rfl ?_)))))
      exact ⟨⟨_, rfl⟩, .inr ⟨_, trivial, hT⟩⟩
    have hn2 : Gr (fun k => T k ∨ w.heap.size ≤ k) w w1 ∧ J (zs.take (allN xs nm (j + 1))) w1 := by
      cases hal : alike xs[j].1 nm with
      | true =>
        have hT := hT hal
        rw [hal] at h2
        obtain rfl : r = true := by simpa using h2
        simp only [cond_true] at hT
        rw [(zs_at hz h1 hal).2]
        exact ⟨(hg.ext H.gr).trans hT.2, hT.1⟩
      | false =>
        obtain rfl := hF hal
        rw [allN_no h1 hal]
        exact ⟨hg.ext H.gr, hJ2⟩
    refine WC.skip (WQ.blk (WQ.tn (WC.reg (WL.v (Ev.addN (b := 1) rfl rfl (by omega)) rfl (WL.v (Ev.move rfl) rfl (WL.nil ?_))))))
    exact WQ.again (j + 1) (⟨by omega, hn2.1, hn2.2⟩) ⟨rfl, rfl, rfl, rfl, rfl, trivial⟩ (by first | omega | (dsimp only; omega))
  try simp only [bsimp] at h1
  refine WC.exit (WQ.tn_exit (WQ.loop_exit (WQ.blk_here rfl (WQ.end0 rfl ?_))))
  obtain rfl : j = xs.length := by omega
  rw [allN_end hz] at hJj
  exact ⟨⟨_, rfl⟩, .inl ⟨_, rfl, hJj⟩⟩
theorem fd_allV_iter (A : Option Addr) (c : Nat) (xs : List Fld) (G T : Nat → Prop) (nm : Bs) (B1 B2 : Nat) (zs : List Vb) (hz : zs.map (·.1) = allF xs nm) (hx : Okf xs) (hn : Sml nm.length) (w : World) (R : Rd kFd G w A c xs) (hGT : ∀ b, G b → ¬ T b) (hB1 : w.cell? ⟨B1, 0, none⟩ = some (.slice A xs.length c)) (hB2 : w.cell? ⟨B2, 0, none⟩ = some (str nm)) (hT1 : ¬ T B1) (hT2 : ¬ T B2) :
    Iter Tryd.prog 70 [.pointer (some ⟨B1, 0, none⟩), .pointer (some ⟨B2, 0, none⟩)] (fun x : Vb => [str x.1].toArray) T (fun ys => ys = zs) xs.length w := by
  intro l J Jx W hW hJ hJx hY h0
  exact callsIn_FF.2 (fd_all1V A c xs G T nm B1 B2 l zs hz J Jx hx hn w W ((Ext.of_below hW).mono fun _ _ h => h.elim) R hGT hB1 hB2 hT1 hT2 hJ hY h0)
/-- Fields of moderate length. -/
def Okh (xs : List Fld) : Prop := xs.length ≤ 1048576 ∧ ∀ x ∈ xs, x.1.length ≤ 1048576 ∧ x.2.length ≤ 1048576
theorem Okh.okf {xs : List Fld} (h : Okh xs) : Okf xs := ⟨Nat.le_trans h.1 (by decide), fun x hx => ⟨Nat.le_trans (h.2 x hx).1 (by decide), Nat.le_trans (h.2 x hx).2 (by decide)⟩⟩
theorem vb_ex : ∀ (l : List Bs), (∀ x ∈ l, x.length ≤ 1048576) → ∃ zs : List Vb, zs.map (·.1) = l
  | [], _ => ⟨[], rfl⟩
  | x :: r, h => by
    obtain ⟨zs, hz⟩ := vb_ex r (fun y hy => h y (by simp [hy]))
    exact ⟨⟨x, h x (by simp)⟩ :: zs, by rw [List.map_cons, hz]⟩
theorem allF_sml {xs : List Fld} (h : Okh xs) (nm : Bs) : ∀ x ∈ allF xs nm, x.length ≤ 1048576 := by
  intro x hx
  obtain ⟨f, hf, rfl⟩ := List.mem_map.1 hx
  exact (h.2 f (List.mem_filter.1 hf).1).2
def eleV (l : List Vb) : List Bs := l.flatMap fun x => elements x.1
theorem eleV_snoc (l : List Vb) (x : Vb) : eleV (l ++ [x]) = eleV l ++ elements x.1 := by simp [eleV]
theorem eleV_len : ∀ l : List Vb, (eleV l).length ≤ l.length * 1048577
  | [] => by simp [eleV]
  | x :: r => by
    have ih := eleV_len r
    have h1 := elements_len x.1
    have h2 := x.2
    show (elements x.1 ++ eleV r).length ≤ _
    rw [List.length_append, List.length_cons, Nat.add_mul]
    omega
theorem elemsF_all (xs : List Fld) (nm : Bs) : elemsF xs nm = (allF xs nm).flatMap elements := by
  unfold elemsF allF; rw [List.flatMap_map]
theorem eleV_end {xs : List Fld} {nm : Bs} {zs : List Vb} (hz : zs.map (·.1) = allF xs nm) : eleV zs = elemsF xs nm := by
  rw [elemsF_all, ← hz, List.flatMap_map]; rfl
theorem elemsF_okh {xs : List Fld} (h : Okh xs) (nm : Bs) : (elemsF xs nm).length ≤ 1099513724928 ∧ ∀ e ∈ elemsF xs nm, e.length ≤ 1048576 := by
  obtain ⟨zs, hz⟩ := vb_ex _ (allF_sml h nm)
  have h1 := eleV_len zs
  rw [eleV_end hz] at h1
  have h2 : zs.length ≤ 1048576 := by
    have := congrArg List.length hz
    rw [List.length_map] at this
    rw [this]
    unfold allF
    rw [List.length_map]
    exact Nat.le_trans (List.length_filter_le _ _) h.1
  refine ⟨by have := Nat.mul_le_mul_right 1048577 h2; omega, fun e he => ?_⟩
  rw [elemsF_all] at he
  obtain ⟨v, hv, hev⟩ := List.mem_flatMap.1 he
  exact Nat.le_trans (elements_sml hev) (allF_sml h nm v hv)
set_option maxRecDepth 20000 in
theorem fd_Elements (A : Option Addr) (c : Nat) (xs : List Fld) (G : Nat → Prop) (hx : Okh xs) (nm : Bs) (hn : Sml nm.length) (w : World) (R : Rd kFd G w A c xs) :
    Calls Tryd.prog 44 #[.slice A xs.length c, str nm] w fun e w' => ∃ A' c', e = .returned (.slice A' (elemsF xs nm).length c') ∧ St w No w' [.row 9 1 A' (elemsF xs nm).length c' ((elemsF xs nm).flatMap kStr.enc)] := by
  have hlen := hx.1
  obtain ⟨zs, hz⟩ := vb_ex _ (allF_sml hx nm)
  refine calls_ofM Tryd.func44 rfl Tryd.ntmps44 (by rfl) (K0 := [(0, _), (1, _)]) ⟨rfl, rfl, trivial⟩ ?_
  have H := St.init w
  refine WC.seq (WC.reg (WL.v (Ev.assign rfl) rfl (WL.nil (WQ.tn (WC.seq (WC.reg (WL.alloc z22 rfl H rfl fun b1 w1 hb1 H L => (WL.nil (WQ.tn (WC.seq (WC.seq ?_)))))))))))
  replace H := (H.nilrow 9 1).perm (σ' := [_, _]) (List.Perm.swap _ _ _)
  refine WC.reg (WL.v (Ev.move rfl) rfl (WL.v (Ev.move rfl) rfl (WL.call (vs := [_, _]) rfl cl58 rfl (fd_all A xs.length c nm _) ?_)))
  rintro _ w1 ⟨B1, B2, rfl, H1⟩
  have hm1 := H.geI 0 (b := b1) rfl
  have hl1 := H.ltI 0 (b := b1) rfl
  have R1 := (R.lt.ext H.gr).ext H1.gr
  have hB1 := H1.cell 1 rfl (o := 0) rfl
  have hB2 := H1.cell 0 rfl (o := 0) rfl
  have hn1 := H1.geI 1 (b := B1) rfl
  have hn2 := H1.geI 0 (b := B2) rfl
  replace H := H.ext H1.gr
  refine ⟨_, rfl, ?_⟩
  refine WL.nil (WQ.tn (WC.block (WC.rangeFunc (α := Vb) (γ := List Bs × Option Addr × Nat) (ps := [10]) (encs := fun x => [str x.1]) rfl cl70 H (fd_allV_iter A c xs _ _ nm B1 B2 zs hz hx.okf hn _ R1 (fun b hb h => by simp [Bk, Chunk.blocks] at h; omega) hB1 hB2 (fun h => by simp [Bk, Chunk.blocks] at h; omega) (fun h => by simp [Bk, Chunk.blocks] at h; omega)) (fun _ => rfl) rfl (fun ⟨o, Ao, co⟩ => [.blk b1 [.slice Ao o.length co] 22 (0, 0), .row 9 1 Ao o.length co (o.flatMap kStr.enc)]) (fun pre ⟨o, Ao, co⟩ => o = eleV pre) (([], none, 0)) (rfl) rfl (fun x => [(5, .pointer (some ⟨b1, 0, none⟩)), (10, str x.1)]) (fun x => [(5, .pointer (some ⟨b1, 0, none⟩)), (6, str x.1)]) (fun x => ⟨rfl, rfl, trivial⟩) ?_ ?_ ?_)))
  · intro l x W
    have H := St.init W
    refine WC.reg (WL.v (Ev.assign rfl) rfl (WL.nil ?_))
    exact WQ.meet (()) (rfl) ⟨rfl, rfl, trivial⟩
  · rintro l pre x ⟨o, Ao, co⟩ W hφ hlt HW H
    refine WC.block (WC.drawT mixed ((fun b => b ∈ (Chunk.row 9 1 Ao o.length co (o.flatMap kStr.enc)).blocks)) 4 [(false, 0), (false, 1), (true, 2), (true, 3), (true, 4)] (by kernel_rfl) ?_)
    intro w1 L
    replace H := H.ext L
    have hn9 := H.notin 0 1 rfl rfl rfl
    have hK := Gr.refl ((fun b => b ∈ (Chunk.row 9 1 Ao o.length co (o.flatMap kStr.enc)).blocks)) w1
    have HD := H
    refine WX.v rfl (fun w2 hC => Ev.load fl22 rfl (Gr.cell hC hn9 (HD.cell 0 rfl rfl))) rfl (WX.v rfl (fun w2 hC => Ev.move rfl) rfl (WX.loud rfl rfl (WL.call (vs := [_]) rfl cl59 rfl (lx_Elements x.1 x.2 _) ?_)))
    rintro _ w1 ⟨A2, c2, rfl, H1⟩
    have LX := H1.gr
    replace H := H.app H1
    refine ⟨_, rfl, ?_⟩
    replace hK := hK.ext LX
    refine WL.nil (WQ.back (fun _ => hK) (WX.loud rfl rfl (WL.appendRd (i := 2) (k := kStr) Tryd.underlying22 sz9 by9 z9 rfl rfl rfl ((H.rdC kStr 0 rfl)) H rfl (by omega) (by have h8 := eleV_len pre; rw [← hφ] at h8; have h9 := elements_len x.1; have h7 := x.2; have := Nat.mul_le_mul_right 1048577 (show pre.length ≤ 1048576 by omega); omega) rfl fun A1 c1 w1 H L => ?_)))
    replace H := H.tail
    replace hK := hK.trans L
    refine WL.nil (WQ.back (fun _ => hK) (WX.loud rfl rfl (WL.store (i := 0) (vs := [_]) rfl rfl rfl sz22 rfl H rfl rfl fun w1 H L => (WL.nil (WQ.back (fun h => absurd rfl h) (WX.nil (WQ.blk ?_)))))))
    exact WQ.round ((o ++ elements x.1, A1, c1)) (by rw [hφ, eleV_snoc]) (by dsimp only; rw [List.length_append, List.flatMap_append]; exact H)
  rintro D xs9 ⟨o, Ao, co⟩ w1 hS hφ H hD hk
  refine WQ.blk (WQ.tn (WC.seq (WC.reg (WL.v (Ev.load fl22 rfl (H.cell 0 rfl rfl)) rfl (WL.v (Ev.assign rfl) rfl (WL.nil (WQ.tn (WC.ret (WQ.mark1 rfl rfl hk ?_)))))))))
  subst hS
  rw [eleV_end hz] at hφ
  subst hφ
  exact ⟨Ao, co, rfl, (H.putD hD hk rfl).tail⟩
end Go.Proofs.YtodappgiadelaaaDoor
