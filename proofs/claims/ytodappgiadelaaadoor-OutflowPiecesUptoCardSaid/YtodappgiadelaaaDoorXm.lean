/- The walks of functions: what each comes to. -/
import Derived.Test.YtodappgiadelaaaDoorXk
import Derived.Test.YtodappgiadelaaaDoorOff
import Derived.Test.YtodappgiadelaaaDoorProg
set_option linter.unusedVariables false
set_option linter.unusedSimpArgs false
namespace Go.Proofs.YtodappgiadelaaaDoor
open Go.RowKit Go.BK
theorem cl43 : callB Tryd.prog 43 = true := by kernel_rfl
theorem fr_has (h : Hd) (A : Option Addr) (c : Nat) (fs : List Fld) (G : Nat → Prop) (hx : Okh fs) (nm : Bs) (hn : Sml nm.length) (w : World) (R : Rd kFd G w A c fs) :
    Calls Tryd.prog 32 #[hdV h A fs.length c, str nm] w fun e w' => e = .returned (.bool (isF fs nm)) ∧ St w No w' [] := by
  refine calls_of Tryd.func32 rfl Tryd.ntmps32 (by rfl) (K0 := [(0, _), (1, _)]) ⟨rfl, rfl, trivial⟩ ?_
  have H := St.init w
  refine WC.seq (WC.reg (WL.box (t := 39) (cs := [_, _, _, _, _, _]) rfl rfl H rfl fun b1 w1 hb1 H L => (WL.v (Ev.assign rfl) rfl (WL.nil (WQ.tn (WC.seq (WC.reg (WL.v (Ev.fieldAddr fa39_5 rfl) rfl (WL.v (Ev.load fl37 rfl (H.cell 0 rfl rfl)) rfl (WL.v (Ev.move rfl) rfl (WL.call (vs := [_, _]) rfl cl43 rfl (fd_Get A c fs _ hx.okf nm hn _ (R.st H)) ?_)))))))))))
  rintro _ w1 ⟨rfl, H1⟩
  replace H := H.ext H1.gr
  refine ⟨_, rfl, ?_⟩
  refine WL.v (Ev.move rfl) rfl (WL.v (Ev.extract rfl rfl) rfl (WL.v (Ev.extract rfl rfl) rfl (WL.v (Ev.assign rfl) rfl (WL.v (Ev.assign rfl) rfl (WL.nil (WQ.tn (WC.seq (WC.reg (WL.v (Ev.move rfl) rfl (WL.v (Ev.gtrN (b := 0) rfl rfl) rfl (WL.v (Ev.assign rfl) rfl (WL.nil (WQ.tn (WC.ret (WQ.ret1 rfl rfl ?_)))))))))))))))
  exact ⟨by unfold isF; rfl, H.done⟩
theorem codN_succ {l : List Bs} {j : Nat} (h : j < l.length) : codN (l.take (j + 1)) = codN (l.take j) + if alike l[j] litChunked = true then 1 else 0 := by
  unfold codN
  rw [take_succ_get h, List.filter_append, List.length_append]
  congr 1
  by_cases hh : alike l[j] litChunked = true
  · rw [if_pos hh, List.filter_cons_of_pos (by simpa using hh)]; rfl
  · rw [if_neg hh, List.filter_cons_of_neg (by simpa using hh)]; rfl
theorem codN_le (l : List Bs) : codN l ≤ l.length := List.length_filter_le _ _
theorem codLast_eq {l : List Bs} (h : 0 < l.length) : codLast l = (decide (codN l = 1) && alike (l[l.length - 1]'(by omega)) litChunked) := by
  unfold codLast
  rw [List.getD_eq_getElem?_getD, List.getElem?_eq_getElem (by omega)]; rfl
set_option maxRecDepth 20000 in
set_option maxHeartbeats 2000000 in
theorem fr_coding1 (h : Hd) (A : Option Addr) (c : Nat) (fs : List Fld) (G : Nat → Prop) (hx : Okh fs) (hp : 0 < (elemsF fs litTE).length) (w : World) (R : Rd kFd G w A c fs) :
    Calls Tryd.prog 33 #[hdV h A fs.length c] w fun e w' => e = .returned (.tuple #[.bool (codP fs).1, .bool (codP fs).2]) ∧ St w No w' [] := by
  have hel := elemsF_okh hx litTE
  refine calls_of Tryd.func33 rfl Tryd.ntmps33 (by rfl) (K0 := [(0, _)]) ⟨rfl, trivial⟩ ?_
  have H := St.init w
  refine WC.seq (WC.reg (WL.box (t := 39) (cs := [_, _, _, _, _, _]) rfl rfl H rfl fun b1 w1 hb1 H L => (WL.v (Ev.assign rfl) rfl (WL.v (Ev.assign rfl) rfl (WL.nil (WQ.tn (WC.seq (WC.reg (WL.v (Ev.fieldAddr fa39_5 rfl) rfl (WL.v (Ev.load fl37 rfl (H.cell 0 rfl rfl)) rfl (WL.call (vs := [_, _]) rfl cl44 rfl (fd_Elements A c fs _ hx litTE (by unfold Sml; decide) _ (R.st H)) ?_)))))))))))
  rintro _ w1 ⟨A2, c2, rfl, H1⟩
  replace H := H.app H1
  clear H1
  generalize hle : elemsF fs litTE = l at *
  refine ⟨_, rfl, ?_⟩
  refine WL.v (Ev.assign rfl) rfl (WL.nil (WQ.tn (WC.seq (WC.reg (WL.v (Ev.assign rfl) rfl (WL.nil (WQ.tn (WC.seq (WC.seq (WC.reg (WL.v (Ev.move rfl) rfl (WL.v (Ev.lensl Tryd.underlying22 rfl) rfl (WL.v (Ev.move rfl) rfl (WL.nil (WQ.tn (WC.block (WC.loop (γ := Nat) (fun j => [(4, .slice A2 (l).length c2), (5, .int .i64 (codN ((l).take j) : Nat)), (11, .slice A2 (l).length c2), (12, .int .i64 ((l).length : Nat)), (13, .int .i64 (j : Nat))]) (fun j w1 => j ≤ (l).length ∧ St w No w1 [.row 9 1 A2 (l).length c2 ((l).flatMap kStr.enc), .blk b1 (hdL h A fs.length c) 39 (0, 0)]) (fun j => (l).length - j) 0 (⟨Nat.zero_le _, H⟩) ⟨rfl, rfl, rfl, rfl, rfl, trivial⟩ ?_)))))))))))))))))
  rintro j w1 ⟨hj, H⟩
  refine WC.seq (WC.reg (WL.v (Ev.lssN rfl rfl) rfl (WL.nil (WQ.tn (WC.seq (WC.cond rfl (fun h1 => ?_) (fun h1 => ?_)))))))
  · simp only [bsimp] at h1
    obtain ⟨bk, off, hbk, _, hc⟩ := (H.rdC kStr 0 rfl).at h1
    cases hbk
    have hj1 := getx h1
    have hxs := hel.2 _ (List.getElem_mem h1)
    have hcn := codN_le ((l).take j)
    rw [List.length_take] at hcn
    refine WC.skip (WQ.tn (WC.seq (WC.block (WC.seq (WC.reg (WL.v (Ev.idx Tryd.underlying22 sz9 rfl rfl (by omega)) rfl (WL.v (Ev.load fl9 rfl (hc _ _ hj1 0 _ rfl)) rfl (WL.v (Ev.assign rfl) rfl (WL.nil (WQ.tn (WC.seq (WC.reg (WL.v (Ev.move rfl) rfl (WL.callS (vs := [_, _]) rfl cl45 rfl H (lex_Alike _ _ (Nat.le_trans hxs (by decide)) (by unfold Sml; decide) _) fun w1 H L => (WL.nil (WQ.tn (WC.cond rfl (fun h2 => ?_) (fun h2 => ?_))))))))))))))))))
    · have h2 : alike l[j] litChunked = true := h2
      refine WC.reg (WL.v (Ev.move rfl) rfl (WL.v (Ev.addN (b := 1) rfl rfl (by omega)) rfl (WL.v (Ev.assign rfl) rfl (WL.nil (WQ.blk (WQ.tn (WC.reg (WL.v (Ev.addN (b := 1) rfl rfl (by omega)) rfl (WL.v (Ev.move rfl) rfl (WL.nil ?_))))))))))
      exact WQ.again (j + 1) (⟨by omega, H⟩) ⟨rfl, (by rw [codN_succ h1, if_pos h2]; rfl), rfl, rfl, rfl, trivial⟩ (by first | omega | (dsimp only; omega))
    have h2f : ¬ alike l[j] litChunked = true := by
      have h9 : alike l[j] litChunked = false := h2
      rw [h9]; simp
    refine WC.skip (WQ.blk (WQ.tn (WC.reg (WL.v (Ev.addN (b := 1) rfl rfl (by omega)) rfl (WL.v (Ev.move rfl) rfl (WL.nil ?_))))))
    exact WQ.again (j + 1) (⟨by omega, H⟩) ⟨rfl, (by rw [codN_succ h1, if_neg h2f]; rfl), rfl, rfl, rfl, trivial⟩ (by first | omega | (dsimp only; omega))
  try simp only [bsimp] at h1
  refine WC.exit (WQ.tn_exit (WQ.loop_exit (WQ.blk_here rfl (WQ.tn (WC.seq ?_)))))
  obtain rfl : j = (l).length := by omega
  rw [List.take_length]
  have hcl := codN_le (l)
  obtain ⟨bl, ol, rfl, _, hcq⟩ := (H.rdC kStr 0 rfl).at hp
  have hjl := getx (xs := l) (j := (l).length - 1) (by omega)
  have hlx := hel.2 _ (List.getElem_mem (l := l) (n := l.length - 1) (by omega))
  refine WC.reg (WL.v (Ev.move rfl) rfl (WL.v (Ev.eqN (b := 1) rfl rfl) rfl (WL.v (Ev.move rfl) rfl (WL.g (Met.yes rfl rfl) (fun hg => Ev.move rfl) rfl (WL.g (Met.yes rfl rfl) (fun hg => Ev.move rfl) rfl (WL.g (Met.yes rfl rfl) (fun hg => Ev.lensl Tryd.underlying22 ((evG.un rfl).ev hg)) rfl (WL.g (Met.yes rfl rfl) (fun hg => Ev.subN (b := 1) ((evG.un rfl).ev hg) rfl (by omega) (by omega)) rfl (WL.g (Met.yes rfl rfl) (fun hg => Ev.idx Tryd.underlying22 sz9 ((evG.un rfl).ev hg) ((evG.un rfl).ev hg) (by omega)) rfl (WL.g (Met.yes rfl rfl) (fun hg => Ev.load fl9 ((evG.un rfl).ev hg) (hcq _ _ hjl 0 _ rfl)) rfl (WL.gcallS (vs := [_, _]) (Met.yes rfl rfl) (fun hg => (evs_cons ((evG.un rfl).ev hg) (evs_cons rfl rfl))) cl45 rfl H (fun hg => by exact lex_Alike _ litChunked (Nat.le_trans hlx (by decide)) (by unfold Sml; decide) _) fun w1 H L => (WL.v (Ev.and rfl rfl rfl) rfl (WL.v (Ev.assign rfl) rfl (WL.nil ?_)))))))))))))
  refine WQ.tn (WC.seq (WC.reg (WL.v (Ev.move rfl) rfl (WL.v (Ev.move rfl) rfl (WL.g (Met.yes rfl rfl) (fun hg => Ev.move rfl) rfl (WL.g (Met.yes rfl rfl) (fun hg => Ev.lensl Tryd.underlying22 ((evG.un rfl).ev hg)) rfl (WL.g (Met.yes rfl rfl) (fun hg => Ev.eqN (b := 1) ((evG.un rfl).ev hg) rfl) rfl (WL.v (Ev.and rfl rfl rfl) rfl (WL.v (Ev.move rfl) rfl (WL.v (Ev.assign rfl) rfl (WL.v (Ev.assign rfl) rfl (WL.nil (WQ.tn (WC.ret (WQ.ret2 rfl rfl rfl (⟨?_, H.done⟩))))))))))))))))
  unfold codP
  rw [hle, codLast_eq hp]
set_option maxRecDepth 20000 in
set_option maxHeartbeats 2000000 in
theorem fr_coding0 (h : Hd) (A : Option Addr) (c : Nat) (fs : List Fld) (G : Nat → Prop) (hx : Okh fs) (hp : elemsF fs litTE = []) (w : World) (R : Rd kFd G w A c fs) :
    Calls Tryd.prog 33 #[hdV h A fs.length c] w fun e w' => e = .returned (.tuple #[.bool (codP fs).1, .bool (codP fs).2]) ∧ St w No w' [] := by
  refine calls_of Tryd.func33 rfl Tryd.ntmps33 (by rfl) (K0 := [(0, _)]) ⟨rfl, trivial⟩ ?_
  have H := St.init w
  refine WC.seq (WC.reg (WL.box (t := 39) (cs := [_, _, _, _, _, _]) rfl rfl H rfl fun b1 w1 hb1 H L => (WL.v (Ev.assign rfl) rfl (WL.v (Ev.assign rfl) rfl (WL.nil (WQ.tn (WC.seq (WC.reg (WL.v (Ev.fieldAddr fa39_5 rfl) rfl (WL.v (Ev.load fl37 rfl (H.cell 0 rfl rfl)) rfl (WL.call (vs := [_, _]) rfl cl44 rfl (fd_Elements A c fs _ hx litTE (by unfold Sml; decide) _ (R.st H)) ?_)))))))))))
  rintro _ w1 ⟨A2, c2, rfl, H1⟩
  replace H := H.app H1
  clear H1
  generalize hle : elemsF fs litTE = l at *
  refine ⟨_, rfl, ?_⟩
  refine WL.v (Ev.assign rfl) rfl (WL.nil (WQ.tn (WC.seq (WC.reg (WL.v (Ev.assign rfl) rfl (WL.nil (WQ.tn (WC.seq (WC.seq (WC.reg (WL.v (Ev.move rfl) rfl (WL.v (Ev.lensl Tryd.underlying22 rfl) rfl (WL.v (Ev.move rfl) rfl (WL.nil (WQ.tn (WC.block (WC.loop (γ := Nat) (fun j => [(4, .slice A2 l.length c2), (5, .int .i64 ((0 : Nat) : Int)), (11, .slice A2 l.length c2), (12, .int .i64 (l.length : Nat)), (13, .int .i64 (j : Nat))]) (fun j w1 => j ≤ l.length ∧ St w No w1 [.row 9 1 A2 (l).length c2 ((l).flatMap kStr.enc), .blk b1 (hdL h A fs.length c) 39 (0, 0)]) (fun j => l.length - j) 0 (⟨Nat.zero_le _, H⟩) ⟨rfl, rfl, rfl, rfl, rfl, trivial⟩ ?_)))))))))))))))))
  rintro j w1 ⟨hj, H⟩
  refine WC.seq (WC.reg (WL.v (Ev.lssN rfl rfl) rfl (WL.nil (WQ.tn (WC.seq (WC.cond rfl (fun h1 => ?_) (fun h1 => ?_)))))))
  · simp only [bsimp] at h1
    exfalso; simp [hp] at h1
  try simp only [bsimp] at h1
  refine WC.exit (WQ.tn_exit (WQ.loop_exit (WQ.blk_here rfl (WQ.tn (WC.seq ?_)))))
  obtain rfl : j = 0 := by rw [hp] at hj; simpa using hj
  refine WC.reg (WL.v (Ev.move rfl) rfl (WL.v (Ev.eqN (b := 1) rfl rfl) rfl (WL.v (Ev.move rfl) rfl (WL.off ⟨_, _, rfl, rfl, rfl⟩ rfl (WL.off ⟨_, _, rfl, rfl, rfl⟩ rfl (WL.off ⟨_, _, rfl, rfl, rfl⟩ rfl (WL.off ⟨_, _, rfl, rfl, rfl⟩ rfl (WL.off ⟨_, _, rfl, rfl, rfl⟩ rfl (WL.off ⟨_, _, rfl, rfl, rfl⟩ rfl (WL.off ⟨_, _, rfl, rfl, rfl⟩ rfl (WL.v (Ev.pick rfl rfl rfl) rfl (WL.v (Ev.assign rfl) rfl (WL.nil (WQ.tn (WC.seq (WC.reg (WL.v (Ev.move rfl) rfl (WL.v (Ev.move rfl) rfl (WL.off ⟨_, _, rfl, rfl, rfl⟩ rfl (WL.off ⟨_, _, rfl, rfl, rfl⟩ rfl (WL.off ⟨_, _, rfl, rfl, rfl⟩ rfl (WL.v (Ev.pick rfl rfl rfl) rfl (WL.v (Ev.move rfl) rfl (WL.v (Ev.assign rfl) rfl (WL.v (Ev.assign rfl) rfl (WL.nil ?_))))))))))))))))))))))))))
  refine WQ.tn (WC.ret (WQ.ret2 rfl rfl rfl (⟨?_, H.done⟩)))
  unfold codP
  rw [hle, hp]
  rfl
theorem fr_coding (h : Hd) (A : Option Addr) (c : Nat) (fs : List Fld) (G : Nat → Prop) (hx : Okh fs) (w : World) (R : Rd kFd G w A c fs) : Calls Tryd.prog 33 #[hdV h A fs.length c] w fun e w' => e = .returned (.tuple #[.bool (codP fs).1, .bool (codP fs).2]) ∧ St w No w' [] := by
  rcases Nat.eq_zero_or_pos (elemsF fs litTE).length with hz | hp
  · exact fr_coding0 h A c fs G hx (List.eq_nil_of_length_eq_zero hz) w R
  · exact fr_coding1 h A c fs G hx hp w R
theorem lenPs_drop {fs : List Fld} {j : Nat} (h : j < fs.length) : lenPs (fs.drop j) = (if alike fs[j].1 litCL = true then splitC 44 fs[j].2 else []) ++ lenPs (fs.drop (j + 1)) := by
  unfold lenPs
  rw [List.drop_eq_getElem_cons h]
  by_cases ha : alike fs[j].1 litCL = true
  · rw [if_pos ha, List.filter_cons_of_pos (by simpa using ha), List.flatMap_cons]
  · rw [if_neg ha, List.filter_cons_of_neg (by simpa using ha)]; rfl
theorem lenG_bad {n : Int} {b : Bool} {p : Bs} {ps : List Bs} (h : (decP (trim p) 15).2 = false ∨ (b = false ∧ (decP (trim p) 15).1 ≠ n)) : lenG n b (p :: ps) = none := by rw [lenG, if_pos h]
theorem lenG_on {n : Int} {b : Bool} {p : Bs} {ps : List Bs} (h : ¬ ((decP (trim p) 15).2 = false ∨ (b = false ∧ (decP (trim p) 15).1 ≠ n))) : lenG n b (p :: ps) = lenG (decP (trim p) 15).1 false ps := by rw [lenG, if_neg h]
set_option maxRecDepth 20000 in
set_option maxHeartbeats 1000000 in
theorem fr_length (h : Hd) (A : Option Addr) (c : Nat) (fs : List Fld) (G : Nat → Prop) (hx : Okh fs) (w : World) (R : Rd kFd G w A c fs) :
    Calls Tryd.prog 34 #[hdV h A fs.length c] w fun e w' => e = .returned (.tuple #[.int .i64 (lenP fs).1, .bool (lenP fs).2]) ∧ St w No w' [] := by
  have hfl := hx.1
  refine calls_of Tryd.func34 rfl Tryd.ntmps34 (by rfl) (K0 := [(0, _)]) ⟨rfl, trivial⟩ ?_
  have H := St.init w
  refine WC.seq (WC.reg (WL.box (t := 39) (cs := [_, _, _, _, _, _]) rfl rfl H rfl fun b1 w1 hb1 H L => (WL.v (Ev.assign rfl) rfl (WL.v (Ev.assign rfl) rfl (WL.nil (WQ.tn (WC.seq (WC.reg (WL.v (Ev.assign rfl) rfl (WL.v (Ev.assign rfl) rfl (WL.nil (WQ.tn (WC.seq (WC.seq (WC.reg (WL.v (Ev.fieldAddr fa39_5 rfl) rfl (WL.v (Ev.load fl37 rfl (H.cell 0 rfl rfl)) rfl (WL.v (Ev.lensl Tryd.underlying37 rfl) rfl (WL.v (Ev.move rfl) rfl (WL.nil (WQ.tn (WC.block (WC.loop (γ := Nat × Int × Bool) (fun ⟨j, n, b⟩ => [(4, .int .i64 n), (5, .bool b), (13, .slice A fs.length c), (14, .int .i64 (fs.length : Nat)), (15, .int .i64 (j : Nat))]) (fun ⟨j, n, b⟩ w1 => j ≤ fs.length ∧ lenG 0 true (lenPs fs) = lenG n b (lenPs (fs.drop j)) ∧ St w No w1 [.blk b1 (hdL h A fs.length c) 39 (0, 0)]) (fun ⟨j, n, b⟩ => fs.length - j) (0, 0, true) (⟨Nat.zero_le _, rfl, H⟩) ⟨rfl, rfl, rfl, rfl, rfl, trivial⟩ ?_)))))))))))))))))))))))
  rintro ⟨j, n, b⟩ w1 ⟨hj, hI, H⟩
  refine WC.seq (WC.reg (WL.v (Ev.lssN rfl rfl) rfl (WL.nil (WQ.tn (WC.seq (WC.cond rfl (fun h1 => ?_) (fun h1 => ?_)))))))
  · simp only [bsimp] at h1
    obtain ⟨bk, off, rfl, hG, hc⟩ := R.at h1
    have hj1 := getx h1
    have hxf := hx.2 _ (List.getElem_mem h1)
    refine WC.skip (WQ.tn (WC.seq (WC.block (WC.seq (WC.reg (WL.v (Ev.idx Tryd.underlying37 sz79 rfl rfl (by omega)) rfl (WL.v (Ev.loadA (vs := [_, _]) ag79 sz79 rfl (H.olds (rdCells hc hj1 0 rfl))) rfl (WL.alloc z79 rfl H rfl fun b2 w1 hb2 H L => (WL.store (i := 0) (vs := [_, _]) rfl rfl rfl sz79 rfl H rfl rfl fun w1 H L => (WL.nil (WQ.tn (WC.seq (WC.seq (WC.reg (WL.v (Ev.fieldAddr fa79_0 rfl) rfl (WL.v (Ev.load fl9 rfl (H.cell 0 rfl rfl)) rfl (WL.callS (vs := [_, _]) rfl cl45 rfl H (lex_Alike _ litCL (Nat.le_trans hxf.1 (by decide)) (by unfold Sml; decide) _) fun w1 H L => (WL.v (Ev.not rfl) rfl (WL.nil ?_)))))))))))))))))))
    refine WQ.tn (WC.cond rfl (fun h2 => ?_) (fun h2 => ?_))
    · have h2 : alike fs[j].1 litCL = false := by simpa using h2
      refine WC.exit (WQ.tn_exit (WQ.blk_here rfl (WQ.tn (WC.reg (WL.v (Ev.addN (b := 1) rfl rfl (by omega)) rfl (WL.v (Ev.move rfl) rfl (WL.nil ?_)))))))
      exact WQ.again ((j + 1, n, b)) (⟨by omega, by rw [hI, lenPs_drop h1, if_neg (by rw [h2]; simp)]; rfl, H.tail⟩) ⟨rfl, rfl, rfl, rfl, rfl, trivial⟩ (by first | omega | (dsimp only; omega))
    have h2 : alike fs[j].1 litCL = true := by simpa using h2
    refine WC.skip (WQ.tn (WC.seq (WC.reg (WL.v (Ev.fieldAddr fa79_1 rfl) rfl (WL.v (Ev.load fl9 rfl (H.cell 0 rfl rfl)) rfl (WL.call (vs := [_, _]) rfl cl46 rfl (lb_Split fs[j].2 44 (by omega) _) ?_))))))
    rintro _ w1 ⟨bq, rfl, H1⟩
    replace H := (H.app H1).sub (List.Sublist.cons_cons _ (List.Sublist.cons _ (List.Sublist.cons_cons _ (List.nil_sublist _))))
    have hsl := splitC_len 44 fs[j].2
    have hss := splitC_sml 44 fs[j].2
    rw [lenPs_drop h1, if_pos h2] at hI
    generalize splitC 44 fs[j].2 = ps at *
    refine ⟨_, rfl, ?_⟩
    refine WL.v (Ev.lensl Tryd.underlying22 rfl) rfl (WL.v (Ev.move rfl) rfl (WL.nil (WQ.tn (WC.block (WC.loop (γ := Nat × Int × Bool) (fun ⟨q, n, b⟩ => [(4, .int .i64 n), (5, .bool b), (13, .slice (some ⟨bk, off, none⟩) fs.length c), (14, .int .i64 (fs.length : Nat)), (15, .int .i64 (j : Nat)), (25, .slice (some ⟨bq, 0, none⟩) ps.length ps.length), (26, .int .i64 (ps.length : Nat)), (27, .int .i64 (q : Nat))]) (fun ⟨q, n, b⟩ w1 => q ≤ ps.length ∧ lenG 0 true (lenPs fs) = lenG n b (ps.drop q ++ lenPs (fs.drop (j + 1))) ∧ St w No w1 [.row 9 1 (some ⟨bq, 0, none⟩) ps.length ps.length (ps.flatMap kStr.enc), .blk b1 (hdL h (some ⟨bk, off, none⟩) fs.length c) 39 (0, 0)]) (fun ⟨q, n, b⟩ => ps.length - q) (0, n, b) (⟨Nat.zero_le _, hI, H⟩) ⟨rfl, rfl, rfl, rfl, rfl, rfl, rfl, rfl, trivial⟩ ?_)))))
    rintro ⟨q, n, b⟩ w1 ⟨hq, hJ, H⟩
    refine WC.seq (WC.reg (WL.v (Ev.lssN rfl rfl) rfl (WL.nil (WQ.tn (WC.seq (WC.cond rfl (fun h4 => ?_) (fun h4 => ?_)))))))
    · simp only [bsimp] at h4
      obtain ⟨bq2, oq2, hbq, _, hcq⟩ := (H.rdC kStr 0 rfl).at h4
      cases hbq
      have hjq := getx h4
      have hxp := Nat.le_trans (hss _ (List.getElem_mem h4)) hxf.2
      rw [List.drop_eq_getElem_cons h4, List.cons_append] at hJ
      refine WC.skip (WQ.tn (WC.seq (WC.block (WC.seq (WC.reg (WL.v (Ev.idx Tryd.underlying22 sz9 rfl rfl (by omega)) rfl (WL.v (Ev.load fl9 rfl (hcq _ _ hjq 0 _ rfl)) rfl (WL.v (Ev.assign rfl) rfl (WL.nil (WQ.tn (WC.seq (WC.reg (WL.v (Ev.move rfl) rfl (WL.callS (vs := [_]) rfl cl47 rfl H (lx_Trim _ (Nat.le_trans hxp (by decide)) _) fun w1 H L => (WL.callS (vs := [_, _]) rfl cl41 rfl H (lx_Decimal _ (Nat.le_trans (Nat.le_trans (trim_length _) hxp) (by decide)) 15 (by unfold I64; omega) _) fun w1 H L => (WL.v (Ev.move rfl) rfl (WL.v (Ev.extract rfl rfl) rfl (WL.v (Ev.extract rfl rfl) rfl (WL.v (Ev.assign rfl) rfl (WL.v (Ev.assign rfl) rfl (WL.nil ?_)))))))))))))))))))))
      refine WQ.tn (WC.seq (WC.seq (WC.reg (WL.v (Ev.move rfl) rfl (WL.v (Ev.not rfl) rfl (WL.v (Ev.move rfl) rfl (WL.g (Met.no rfl rfl) (fun hg => Ev.move rfl) rfl (WL.g (Met.no rfl rfl) (fun hg => Ev.not ((evG.un rfl).ev hg)) rfl (WL.g (Met.no rfl rfl) (fun hg => Ev.move ((evG.un rfl).ev hg)) rfl (WL.g (Met.gyes rfl rfl) (fun hg => Ev.move rfl) rfl (WL.g (Met.gyes rfl rfl) (fun hg => Ev.move rfl) rfl (WL.g (Met.gyes rfl rfl) (fun hg => Ev.nei ((evG.un rfl).ev hg) ((evG.un rfl).ev hg)) rfl (WL.g (Met.no rfl rfl) (fun hg => Ev.and ((evG.un rfl).ev hg) ((evG.nest rfl).ev hg) rfl) rfl (WL.v (Ev.or rfl rfl rfl) rfl (WL.nil ?_)))))))))))))))
      refine WQ.tn (WC.cond rfl (fun h5 => ?_) (fun h5 => ?_))
      · simp only [bsimp] at h5
        rw [lenG_bad (by rcases h5 with h | ⟨h, h'⟩; exact .inl h; exact .inr ⟨h, h'⟩)] at hJ
        refine WC.seq (WC.reg (WL.v (Ev.assign rfl) rfl (WL.v (Ev.assign rfl) rfl (WL.nil (WQ.tn (WC.ret (WQ.tn_ret (WQ.blk_ret (WQ.tn_ret (WQ.loop_ret (WQ.blk_ret (WQ.blk_ret (WQ.tn_ret (WQ.loop_ret (WQ.blk_ret (WQ.tn_ret (WQ.ret2 rfl rfl rfl ?_)))))))))))))))))
        exact ⟨by unfold lenP; rw [hJ], H.done⟩
      simp only [bsimp] at h5
      rw [lenG_on (by rintro (h | ⟨h, h'⟩); rw [h] at h5; simp at h5; rw [h] at h5; simp at h5; exact h' h5.2)] at hJ
      refine WC.skip (WQ.tn (WC.reg (WL.v (Ev.move rfl) rfl (WL.v (Ev.assign rfl) rfl (WL.v (Ev.assign rfl) rfl (WL.nil (WQ.blk (WQ.tn (WC.reg (WL.v (Ev.addN (b := 1) rfl rfl (by omega)) rfl (WL.v (Ev.move rfl) rfl (WL.nil ?_))))))))))))
      exact WQ.again ((q + 1, (decP (trim ps[q]) 15).1, false)) (⟨by omega, hJ, H⟩) ⟨rfl, rfl, rfl, rfl, rfl, rfl, rfl, rfl, trivial⟩ (by first | omega | (dsimp only; omega))
    try simp only [bsimp] at h4
    refine WC.exit (WQ.tn_exit (WQ.loop_exit (WQ.blk_here rfl (WQ.blk (WQ.tn (WC.reg (WL.v (Ev.addN (b := 1) rfl rfl (by omega)) rfl (WL.v (Ev.move rfl) rfl (WL.nil ?_)))))))))
    rw [List.drop_eq_nil_of_le (by omega)] at hJ
    exact WQ.again ((j + 1, n, b)) (⟨by omega, hJ, H.tail⟩) ⟨rfl, rfl, rfl, rfl, rfl, trivial⟩ (by first | omega | (dsimp only; omega))
  try simp only [bsimp] at h1
  refine WC.exit (WQ.tn_exit (WQ.loop_exit (WQ.blk_here rfl (WQ.tn (WC.seq (WC.reg (WL.v (Ev.move rfl) rfl (WL.v (Ev.assign rfl) rfl (WL.v (Ev.assign rfl) rfl (WL.nil (WQ.tn (WC.ret (WQ.ret2 rfl rfl rfl ?_)))))))))))))
  rw [List.drop_eq_nil_of_le (by omega)] at hI
  exact ⟨by unfold lenP; rw [hI]; rfl, H.done⟩
end Go.Proofs.YtodappgiadelaaaDoor
