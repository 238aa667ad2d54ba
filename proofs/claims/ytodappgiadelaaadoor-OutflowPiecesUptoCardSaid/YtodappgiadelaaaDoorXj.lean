/- The walks of functions: what each comes to. -/
import Derived.Test.YtodappgiadelaaaDoorXi
import Derived.Test.YtodappgiadelaaaDoorStr
import Derived.Test.YtodappgiadelaaaDoorProg
set_option linter.unusedVariables false
set_option linter.unusedSimpArgs false
namespace Go.Proofs.YtodappgiadelaaaDoor
open Go.RowKit Go.BK
theorem cl38 : callB Tryd.prog 38 = true := by kernel_rfl
theorem cl39 : callB Tryd.prog 39 = true := by kernel_rfl
theorem fa39_5 : fldB Tryd.prog 39 5 5 = true := by kernel_rfl
theorem cl40 : callB Tryd.prog 40 = true := by kernel_rfl
theorem by79 : byOk Tryd.prog 79 32 := by unfold byOk; kernel_rfl
theorem sz37 : szOk Tryd.prog 37 1 := by unfold szOk; kernel_rfl
def skN : Bs → Nat
  | [] => 0
  | [_] => 0
  | c :: d :: r => if c = 13 ∧ d = 10 then skN r + 2 else 0
theorem skN_at {s : Bs} : skN s = if Lib.hasPrefix s [13, 10] = true then skN (s.drop 2) + 2 else 0 := by
  match s with
  | [] => rfl
  | [c] => simp [skN, Lib.hasPrefix, List.isPrefixOf]
  | c :: d :: r =>
    simp only [skN, Lib.hasPrefix, List.isPrefixOf, List.drop_succ_cons, List.drop_zero, Bool.and_true, Bool.and_eq_true, beq_iff_eq]
    congr 1
    rw [eq_iff_iff]
    exact ⟨fun h => ⟨h.1.symm, h.2.symm⟩, fun h => ⟨h.1.symm, h.2.symm⟩⟩
theorem skN_le : ∀ s : Bs, skN s ≤ s.length
  | [] => by simp [skN]
  | [_] => by simp [skN]
  | c :: d :: r => by
    have ih := skN_le r
    unfold skN
    split
    · simp only [List.length_cons]; omega
    · omega
theorem pre_len {s : Bs} (h : Lib.hasPrefix s [13, 10] = true) : 2 ≤ s.length := by
  match s, h with
  | [], h => simp [Lib.hasPrefix, List.isPrefixOf] at h
  | [c], h => simp [Lib.hasPrefix, List.isPrefixOf] at h
  | c :: d :: r, _ => simp
@[reducible] def rdFs (r : Except Int (Hd × List Fld × Nat)) : List Fld := match r with | .error _ => [] | .ok x => x.2.1
@[reducible] def rdH (r : Except Int (Hd × List Fld × Nat)) : Hd := match r with | .error _ => Hd.zero | .ok x => x.1
@[reducible] def rdN (r : Except Int (Hd × List Fld × Nat)) : Nat := match r with | .error _ => 0 | .ok x => x.2.2
@[reducible] def rdE (r : Except Int (Hd × List Fld × Nat)) : Int := match r with | .error e => e | .ok _ => 0
@[reducible] def rdRow (A : Option Addr) (c : Nat) (fs : List Fld) : Chunk := .row 79 2 A fs.length c (fs.flatMap kFd.enc)
def rdRes (first : Bs → Hd × Int) (skip : Bool) (s : Bs) : Except Int (Hd × List Fld × Nat) := hdR first (if skip = true then skN s else 0) (s.drop (if skip = true then skN s else 0))
def RdP (w w' : World) (r : Except Int (Hd × List Fld × Nat)) (e : Ending) : Prop := ∃ A c, e = .returned (.tuple #[hdV (rdH r) A (rdFs r).length c, .int .i64 (rdN r : Nat), .int .i64 (rdE r)]) ∧ St w No w' [rdRow A c (rdFs r)]
theorem RdP.err {w w' : World} {r : Except Int (Hd × List Fld × Nat)} {e : Int} (h : r = .error e) {σ : Held} (H : St w No w' σ) : RdP w w' r (.returned (.tuple #[hdV Hd.zero none 0 0, .int .i64 0, .int .i64 e])) := by
  subst h
  exact ⟨none, 0, rfl, H.done.nilrow _ _⟩
theorem rd_bad {r : Except Int Nat} (h : lnW r = false) : r = .error (lnE r) := by cases r <;> simp [lnW, lnE] at *
theorem rd_good {r : Except Int Nat} (h : lnW r = true) : ∃ n, r = .ok n := by cases r <;> simp [lnW] at *
def fin (h : Hd) (r : Except Int (List Fld × Nat)) : Except Int (Hd × List Fld × Nat) := match r with | .error e => .error e | .ok x => .ok (h, x.1, x.2)
theorem hdR_bad {first : Bs → Hd × Int} {a : Nat} {s : Bs} {e : Int} (h : lnG 1100 82 0 s = .error e) : hdR first a s = .error e := by unfold hdR; rw [h]
theorem hdR_first {first : Bs → Hd × Int} {a n : Nat} {s : Bs} (h : lnG 1100 82 0 s = .ok n) (h2 : (first (s.take n)).2 ≠ 0) : hdR first a s = .error (first (s.take n)).2 := by unfold hdR; rw [h]; dsimp only; rw [if_neg h2]
theorem hdR_on {first : Bs → Hd × Int} {a n : Nat} {s : Bs} (h : lnG 1100 82 0 s = .ok n) (h2 : (first (s.take n)).2 = 0) : hdR first a s = fin (first (s.take n)).1 (rdF 33 (a + n + 2) [] (s.drop (n + 2))) := by
  unfold hdR; rw [h]; dsimp only; rw [if_pos h2]
  unfold fin
  cases rdF 33 (a + n + 2) [] (s.drop (n + 2)) <;> rfl
section
variable {k a n : Nat} {fs : List Fld} {t : Bs}
theorem rdF_bad {e : Int} (h : lnG 512 83 0 t = .error e) : rdF (k + 1) a fs t = .error e := by rw [rdF, h]
theorem rdF_end (h : lnG 512 83 0 t = .ok 0) : rdF (k + 1) a fs t = .ok (fs, a + 2) := by rw [rdF, h]; rfl
theorem rdF_many (h : lnG 512 83 0 t = .ok n) (h0 : n ≠ 0) : rdF 1 a fs t = .error 83 := by rw [rdF, h]; dsimp only; rw [if_neg h0, if_pos rfl]
theorem rdF_fld (h : lnG 512 83 0 t = .ok n) (h0 : n ≠ 0) (hk : k ≠ 0) (h2 : (fldP (t.take n)).2 ≠ 0) : rdF (k + 1) a fs t = .error (fldP (t.take n)).2 := by rw [rdF, h]; dsimp only; rw [if_neg h0, if_neg hk, if_neg h2]
theorem rdF_on (h : lnG 512 83 0 t = .ok n) (h0 : n ≠ 0) (hk : k ≠ 0) (h2 : (fldP (t.take n)).2 = 0) : rdF (k + 1) a fs t = rdF k (a + n + 2) (fs ++ [(fldP (t.take n)).1]) (t.drop (n + 2)) := by rw [rdF, h]; dsimp only; rw [if_neg h0, if_neg hk, if_pos h2]
end
set_option maxRecDepth 20000 in
theorem hd_read (first : Bs → Hd × Int) (skip : Bool) (fF : Nat) (hcl : callB Tryd.prog fF = true) (hfirst : ∀ (l : Bs) (w : World), Sml l.length → Calls Tryd.prog fF #[str l] w fun e w' => e = .returned (.tuple #[hdV (first l).1 none 0 0, .int .i64 (first l).2]) ∧ St w No w' []) (data : Bs) (hs : Sml data.length) (w : World) :
    Calls Tryd.prog 30 #[str data, .bool skip, .func (.func fF) #[] #[]] w fun e w' => RdP w w' (rdRes first skip data) e := by
  have hs9 := hs.le
  refine calls_of Tryd.func30 rfl Tryd.ntmps30 (by rfl) (K0 := [(0, _), (1, _), (2, _)]) ⟨rfl, rfl, rfl, trivial⟩ ?_
  have H := St.init w
  refine WC.seq (WC.reg (WL.alloc z39 rfl H rfl fun b1 w1 hb1 H L => (WL.v (Ev.assign rfl) rfl (WL.v (Ev.assign rfl) rfl (WL.nil (WQ.tn (WC.seq (WC.reg (WL.v (Ev.assign rfl) rfl (WL.nil (WQ.tn (WC.seq (WC.block (WC.loop (γ := Nat) (fun j => [(0, str data), (1, .bool skip), (2, .func (.func fF) #[] #[]), (6, .pointer (some ⟨b1, 0, none⟩)), (9, .int .i64 (j : Nat))]) (fun j w1 => j ≤ data.length ∧ (skip = true → skN data = j + skN (data.drop j)) ∧ (skip = false → j = 0) ∧ St w No w1 [.blk b1 (hdL Hd.zero none 0 0) 39 (0, 0)]) (fun j => data.length - j) 0 (⟨Nat.zero_le _, fun _ => by simp, fun _ => rfl, H⟩) ⟨rfl, rfl, rfl, rfl, rfl, trivial⟩ ?_))))))))))))))
  rintro j w1 ⟨hj, hsn, hno, H⟩
  refine WC.seq (WC.seq (WC.reg (WL.v (Ev.move rfl) rfl (WL.v (Ev.move rfl) rfl (WL.g (Met.yes rfl rfl) (fun hg => Ev.move rfl) rfl (WL.g (Met.yes rfl rfl) (fun hg => Ev.move rfl) rfl (WL.g (Met.yes rfl rfl) (fun hg => Ev.tail Tryd.underlying9 ((evG.un rfl).ev hg) ((evG.un rfl).ev hg) (by omega)) rfl (WL.gcallS (vs := [_, _]) (Met.yes rfl rfl) (fun hg => (evs_cons ((evG.un rfl).ev hg) (evs_cons rfl rfl))) cl38 rfl H (fun hg => lb_HasPrefix _ _ _) fun w1 H L => (WL.v (Ev.and rfl rfl rfl) rfl (WL.nil (WQ.tn (WC.cond rfl (fun h1 => ?_) (fun h1 => ?_)))))))))))))
  · try simp only [bsimp] at h1
    refine WC.skip (WQ.tn (WC.block (WC.reg (WL.v (Ev.move rfl) rfl (WL.v (Ev.addN (b := 2) rfl rfl (by omega)) rfl (WL.v (Ev.assign rfl) rfl (WL.nil (WQ.blk ?_))))))))
    exact WQ.again (j + 2) (⟨by have := pre_len h1.2; rw [List.length_drop] at this; omega, fun _ => by rw [hsn h1.1, skN_at (s := data.drop j), if_pos h1.2, List.drop_drop]; omega, fun hh => by rw [hh] at h1; exact absurd h1.1 (by simp), H⟩) ⟨rfl, rfl, rfl, rfl, rfl, trivial⟩ (by have := pre_len h1.2; rw [List.length_drop] at this; omega)
  try simp only [bsimp] at h1
  refine WC.exit (WQ.tn_exit (WQ.loop_exit (WQ.blk_here rfl (WQ.tn (WC.seq ?_)))))
  obtain ⟨a0, rfl, hr0⟩ : ∃ a0, a0 = j ∧ rdRes first skip data = hdR first a0 (data.drop a0) := by
    refine ⟨j, rfl, ?_⟩
    unfold rdRes
    have : (if skip = true then skN data else 0) = j := by
      split
      · rename_i hsk
        have h5 := hsn hsk
        rw [skN_at (s := data.drop j), if_neg (by rw [hsk] at h1; simpa using h1)] at h5
        omega
      · rename_i hsk
        exact (hno (by simpa using hsk)).symm
    rw [this]
  refine WC.reg (WL.v (Ev.move rfl) rfl (WL.v (Ev.move rfl) rfl (WL.v (Ev.tail Tryd.underlying9 rfl rfl (by omega)) rfl (WL.callS (vs := [_, _, _]) rfl cl39 rfl H (hd_line _ (hs.mono (by first | (simp; done) | (simp; omega))) 1100 (by unfold Sml; omega) 82 _) fun w1 H L => (WL.v (Ev.move rfl) rfl (WL.v (Ev.extract rfl rfl) rfl (WL.v (Ev.extract rfl rfl) rfl (WL.v (Ev.extract rfl rfl) rfl (WL.v (Ev.assign rfl) rfl (WL.v (Ev.assign rfl) rfl (WL.v (Ev.assign rfl) rfl (WL.nil (WQ.tn (WC.seq (WC.seq (WC.reg (WL.v (Ev.move rfl) rfl (WL.v (Ev.not rfl) rfl (WL.nil (WQ.tn (WC.cond rfl (fun h2 => ?_) (fun h2 => ?_))))))))))))))))))))))
  · simp only [bsimp] at h2
    have hq := rd_bad h2
    refine WC.seq (WC.reg (WL.v (Ev.build (vs := [_, _, _, _, _, _]) (ps := []) pl39 z39 rfl rfl) rfl (WL.v (Ev.move rfl) rfl (WL.store (i := 0) (vs := [_, _, _, _, _, _]) rfl rfl rfl sz39 rfl H rfl rfl fun w1 H L => (WL.v (Ev.assign rfl) rfl (WL.v (Ev.assign rfl) rfl (WL.nil (WQ.tn (WC.ret (WQ.tn_ret (WQ.retC3 (vs := [_, _, _, _, _, _]) rfl rfl rfl rfl ag39 sz39 (H.cells 0 rfl rfl) ?_)))))))))))
    rw [hr0]
    exact RdP.err (hdR_bad hq) H
  simp only [bsimp] at h2
  obtain ⟨n0, hn0⟩ := rd_good h2
  obtain ⟨_, hn1⟩ := lnG_ok hn0
  rw [hn0, show lnL (.ok n0) (data.drop a0) = (data.drop a0).take n0 from rfl]
  rw [List.length_drop] at hn1
  have hl0 : ((data.drop a0).take n0).length = n0 := by rw [List.length_take, List.length_drop]; omega
  refine WC.skip (WQ.tn (WC.seq (WC.reg (WL.v (Ev.move rfl) rfl (WL.v (Ev.move rfl) rfl (WL.callv (vs := [_]) (first := []) (caps := []) rfl rfl hcl rfl (hfirst _ _ (hs.mono (by rw [hl0]; omega))) ?_))))))
  rintro _ w1 ⟨rfl, H1⟩
  replace H := H.ext H1.gr
  refine ⟨_, rfl, ?_⟩
  refine WL.v (Ev.move rfl) rfl (WL.v (Ev.extract rfl rfl) rfl (WL.v (Ev.extract rfl rfl) rfl (WL.alloc z39 rfl H rfl fun b2 w1 hb2 H L => (WL.store (i := 0) (vs := [_, _, _, _, _, _]) rfl rfl rfl sz39 rfl H rfl rfl fun w1 H L => (WL.v (Ev.assign rfl) rfl (WL.nil (WQ.tn (WC.seq (WC.seq (WC.reg (WL.v (Ev.move rfl) rfl (WL.v (Ev.nei rfl rfl) rfl (WL.nil (WQ.tn (WC.cond rfl (fun h3 => ?_) (fun h3 => ?_))))))))))))))))
  · simp only [bsimp] at h3
    refine WC.seq (WC.reg (WL.v (Ev.build (vs := [_, _, _, _, _, _]) (ps := []) pl39 z39 rfl rfl) rfl (WL.v (Ev.move rfl) rfl (WL.store (i := 1) (vs := [_, _, _, _, _, _]) rfl rfl rfl sz39 rfl H rfl rfl fun w1 H L => (WL.v (Ev.assign rfl) rfl (WL.v (Ev.assign rfl) rfl (WL.nil (WQ.tn (WC.ret (WQ.tn_ret (WQ.retC3 (vs := [_, _, _, _, _, _]) rfl rfl rfl rfl ag39 sz39 (H.cells 1 rfl rfl) ?_)))))))))))
    rw [hr0]
    exact RdP.err (hdR_first hn0 h3) H
  simp only [bsimp] at h3
  have hres0 := hr0.trans (hdR_on hn0 h3)
  rw [List.drop_drop] at hres0
  replace H : St w No _ [.blk b2 (hdL (first ((data.drop a0).take n0)).1 none 0 0) 39 (0, 0), .blk b1 (hdL Hd.zero none 0 0) 39 (0, 0)] := H
  replace H := (H.nilrow 79 2).perm (σ' := [_, _, _]) ((List.Perm.cons _ (List.Perm.swap _ _ _)).trans (List.Perm.swap _ _ _))
  refine WC.skip (WQ.tn (WC.seq (WC.reg (WL.v (Ev.move rfl) rfl (WL.v (Ev.move rfl) rfl (WL.v (Ev.lens Tryd.underlying9 rfl) rfl (WL.v (Ev.addN (b := 2) rfl rfl (by omega)) rfl (WL.v (Ev.addN rfl rfl (by omega)) rfl (WL.v (Ev.assign rfl) rfl (WL.nil (WQ.tn (WC.block (WC.loop (γ := Nat × Nat × List Fld × Option Addr × Nat) (fun ⟨k, a9, fs, A2, c2⟩ => [(0, str data), (6, .pointer (some ⟨b1, 0, none⟩)), (9, .int .i64 (a9 : Nat)), (13, .pointer (some ⟨b2, 0, none⟩))]) (fun ⟨k, a9, fs, A2, c2⟩ w1 => k + fs.length = 32 ∧ a9 ≤ data.length ∧ rdRes first skip data = fin (first ((data.drop a0).take n0)).1 (rdF (k + 1) a9 fs (data.drop a9)) ∧ St w No w1 [.blk b2 (hdL (first ((data.drop a0).take n0)).1 A2 fs.length c2) 39 (0, 0), .blk b1 (hdL Hd.zero none 0 0) 39 (0, 0), rdRow A2 c2 fs]) (fun ⟨k, a9, fs, A2, c2⟩ => k) (32, a0 + n0 + 2, [], none, 0) (⟨rfl, by omega, by rw [hres0]; rfl, H⟩) ⟨rfl, rfl, (by rw [hl0, ← Nat.add_assoc]; rfl), rfl, trivial⟩ ?_)))))))))))))
  rintro ⟨k, a9, fs, A2, c2⟩ w1 ⟨hk, ha9, hres, H⟩
  refine WC.block (WC.seq (WC.reg (WL.v (Ev.move rfl) rfl (WL.v (Ev.move rfl) rfl (WL.v (Ev.tail Tryd.underlying9 rfl rfl (by omega)) rfl (WL.callS (vs := [_, _, _]) rfl cl39 rfl H (hd_line _ (hs.mono (by first | (simp; done) | (simp; omega))) 512 (by unfold Sml; omega) 83 _) fun w1 H L => (WL.v (Ev.move rfl) rfl (WL.v (Ev.extract rfl rfl) rfl (WL.v (Ev.extract rfl rfl) rfl (WL.v (Ev.extract rfl rfl) rfl (WL.v (Ev.assign rfl) rfl (WL.v (Ev.assign rfl) rfl (WL.v (Ev.assign rfl) rfl (WL.nil (WQ.tn (WC.seq (WC.seq (WC.reg (WL.v (Ev.move rfl) rfl (WL.v (Ev.not rfl) rfl (WL.nil ?_)))))))))))))))))))))
  refine WQ.tn (WC.cond rfl (fun h5 => ?_) (fun h5 => ?_))
  · simp only [bsimp] at h5
    have hq := rd_bad h5
    refine WC.seq (WC.reg (WL.v (Ev.build (vs := [_, _, _, _, _, _]) (ps := []) pl39 z39 rfl rfl) rfl (WL.v (Ev.move rfl) rfl (WL.store (i := 1) (vs := [_, _, _, _, _, _]) rfl rfl rfl sz39 rfl H rfl rfl fun w1 H L => (WL.v (Ev.assign rfl) rfl (WL.v (Ev.assign rfl) rfl (WL.nil (WQ.tn (WC.ret (WQ.tn_ret (WQ.blk_ret (WQ.loop_ret (WQ.blk_ret (WQ.retC3 (vs := [_, _, _, _, _, _]) rfl rfl rfl rfl ag39 sz39 (H.cells 1 rfl rfl) ?_))))))))))))))
    exact RdP.err (by rw [hres, rdF_bad hq]; rfl) H
  simp only [bsimp] at h5
  obtain ⟨n, hn⟩ := rd_good h5
  obtain ⟨_, hn2⟩ := lnG_ok hn
  rw [hn, show lnL (.ok n) (data.drop a9) = (data.drop a9).take n from rfl]
  rw [List.length_drop] at hn2
  have hl : ((data.drop a9).take n).length = n := by rw [List.length_take, List.length_drop]; omega
  refine WC.skip (WQ.tn (WC.seq (WC.reg (WL.v (Ev.move rfl) rfl (WL.v (Ev.move rfl) rfl (WL.v (Ev.lens Tryd.underlying9 rfl) rfl (WL.v (Ev.addN (b := 2) rfl rfl (by omega)) rfl (WL.v (Ev.addN rfl rfl (by omega)) rfl (WL.v (Ev.assign rfl) rfl (WL.nil (WQ.tn (WC.seq (WC.seq (WC.reg (WL.v (Ev.move rfl) rfl (WL.v (Ev.eqs rfl rfl) rfl (WL.nil (WQ.tn (WC.cond rfl (fun h6 => ?_) (fun h6 => ?_))))))))))))))))))))
  · simp only [bsimp] at h6
    obtain rfl : n = 0 := by
      have := congrArg List.length h6
      rw [hl] at this
      simpa using this
    refine WC.seq (WC.reg (WL.v (Ev.loadA (vs := [_, _, _, _, _, _]) ag39 sz39 rfl (H.cells 0 rfl rfl)) rfl (WL.v (Ev.move rfl) rfl (WL.store (i := 1) (vs := [_, _, _, _, _, _]) rfl rfl rfl sz39 rfl H rfl rfl fun w1 H L => (WL.v (Ev.assign rfl) rfl (WL.v (Ev.assign rfl) rfl (WL.nil (WQ.tn (WC.ret (WQ.tn_ret (WQ.blk_ret (WQ.loop_ret (WQ.blk_ret (WQ.retC3 (vs := [_, _, _, _, _, _]) rfl rfl rfl rfl ag39 sz39 (H.cells 1 rfl rfl) ?_))))))))))))))
    rw [rdF_end hn] at hres
    rw [hres]
    exact ⟨A2, c2, by simp [fin, rdN], H.sub (List.Sublist.cons _ (List.Sublist.cons _ (List.Sublist.cons_cons _ (List.nil_sublist _))))⟩
  simp only [bsimp] at h6
  have hnz : n ≠ 0 := fun hh => by subst hh; exact h6 rfl
  refine WC.skip (WQ.tn (WC.seq (WC.seq (WC.reg (WL.v (Ev.fieldAddr fa39_5 rfl) rfl (WL.v (Ev.load fl37 rfl (H.cell 0 rfl rfl)) rfl (WL.v (Ev.lensl Tryd.underlying37 rfl) rfl (WL.v (Ev.geqN (b := 32) rfl rfl) rfl (WL.nil (WQ.tn (WC.cond rfl (fun h7 => ?_) (fun h7 => ?_))))))))))))
  · simp only [bsimp] at h7
    obtain rfl : k = 0 := by omega
    refine WC.seq (WC.reg (WL.v (Ev.build (vs := [_, _, _, _, _, _]) (ps := []) pl39 z39 rfl rfl) rfl (WL.store (i := 1) (vs := [_, _, _, _, _, _]) rfl rfl rfl sz39 rfl H rfl rfl fun w1 H L => (WL.v (Ev.assign rfl) rfl (WL.v (Ev.assign rfl) rfl (WL.nil (WQ.tn (WC.ret (WQ.tn_ret (WQ.blk_ret (WQ.loop_ret (WQ.blk_ret (WQ.retC3 (vs := [_, _, _, _, _, _]) rfl rfl rfl rfl ag39 sz39 (H.cells 1 rfl rfl) ?_)))))))))))))
    exact RdP.err (by rw [hres, rdF_many hn hnz]; rfl) H
  simp only [bsimp] at h7
  have hkz : k ≠ 0 := by omega
  refine WC.skip (WQ.tn (WC.seq (WC.reg (WL.v (Ev.move rfl) rfl (WL.callS (vs := [_]) rfl cl40 rfl H (hd_Field _ (hs.mono (by rw [hl]; omega)) _) fun w1 H L => (WL.v (Ev.move rfl) rfl (WL.v (Ev.extract rfl rfl) rfl (WL.v (Ev.extract rfl rfl) rfl (WL.alloc z79 rfl H rfl fun b3 w1 hb3 H L => (WL.store (i := 0) (vs := [_, _]) rfl rfl rfl sz79 rfl H rfl rfl fun w1 H L => (WL.v (Ev.assign rfl) rfl (WL.nil (WQ.tn (WC.seq (WC.seq (WC.reg (WL.v (Ev.move rfl) rfl (WL.v (Ev.nei rfl rfl) rfl (WL.nil (WQ.tn (WC.cond rfl (fun h8 => ?_) (fun h8 => ?_))))))))))))))))))))))
  · simp only [bsimp] at h8
    refine WC.seq (WC.reg (WL.v (Ev.build (vs := [_, _, _, _, _, _]) (ps := []) pl39 z39 rfl rfl) rfl (WL.v (Ev.move rfl) rfl (WL.store (i := 2) (vs := [_, _, _, _, _, _]) rfl rfl rfl sz39 rfl H rfl rfl fun w1 H L => (WL.v (Ev.assign rfl) rfl (WL.v (Ev.assign rfl) rfl (WL.nil (WQ.tn (WC.ret (WQ.tn_ret (WQ.blk_ret (WQ.loop_ret (WQ.blk_ret (WQ.retC3 (vs := [_, _, _, _, _, _]) rfl rfl rfl rfl ag39 sz39 (H.cells 2 rfl rfl) ?_))))))))))))))
    exact RdP.err (by rw [hres, rdF_fld hn hnz hkz h8]; rfl) H
  simp only [bsimp] at h8
  refine WC.skip (WQ.tn (WC.reg (WL.v (Ev.fieldAddr fa39_5 rfl) rfl (WL.v (Ev.load fl37 rfl (H.cell 1 rfl rfl)) rfl (WL.v (Ev.loadA (vs := [_, _]) ag79 sz79 rfl (H.cells 0 rfl rfl)) rfl (WL.buildSlice (vs := [_, _]) (ps := [(_, _)]) Tryd.underlying37 sz79 z79 rfl (by omega) (by omega) rfl rfl H rfl fun b4 w1 hb4 H L => (WL.append (i := 4) (news := [_, _]) Tryd.underlying37 sz79 by79 z79 rfl (by omega) rfl rfl H rfl rfl (H.cells 0 rfl rfl) (by exact allOne_mem rfl) (by omega) (by omega) rfl fun A1 c1 w1 H L LA LB => ?_)))))))
  replace H := H.tail
  refine WL.v (Ev.fieldAddr fa39_5 rfl) rfl (WL.store (i := 1) (vs := [_]) rfl rfl rfl sz37 rfl H rfl rfl fun w1 H L => (WL.nil (WQ.blk ?_)))
  exact WQ.again ((k - 1, a9 + n + 2, fs ++ [(fldP ((data.drop a9).take n)).1], A1, c1)) (⟨by simp; omega, by omega, by rw [hres, rdF_on hn hnz hkz h8, List.drop_drop, show k - 1 + 1 = k by omega]; rfl, by unfold rdRow; rw [List.length_append, flat_snoc]; exact H.tail⟩) ⟨rfl, rfl, (by rw [hl, ← Nat.add_assoc]; rfl), rfl, trivial⟩ (by first | omega | (dsimp only; omega))
end Go.Proofs.YtodappgiadelaaaDoor
