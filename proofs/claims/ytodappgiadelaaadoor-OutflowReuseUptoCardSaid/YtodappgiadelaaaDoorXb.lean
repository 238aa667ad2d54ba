/- The walks of functions: what each comes to. -/
import Derived.Test.YtodappgiadelaaaDoorXa
import Derived.Test.YtodappgiadelaaaDoorProg
set_option linter.unusedVariables false
set_option linter.unusedSimpArgs false
namespace Go.Proofs.YtodappgiadelaaaDoor
open Go.RowKit Go.BK
theorem cl49 : callB Tryd.prog 49 = true := by kernel_rfl
theorem cl63 : callB Tryd.prog 63 = true := by kernel_rfl
theorem cl44 : callB Tryd.prog 44 = true := by kernel_rfl
theorem cl48 : callB Tryd.prog 48 = true := by kernel_rfl
theorem fd_Has1 (x e : Bs) (hx : Sml x.length) (he : Sml e.length) (B : Nat) (w : World) (hB : w.cell? ⟨B, 0, none⟩ = some (str e)) :
    Calls Tryd.prog 49 #[str x, .pointer (some ⟨B, 0, none⟩)] w fun r w' => r = .returned (.bool (alike x e)) ∧ St w No w' [] := by
  refine calls_of Tryd.func49 rfl Tryd.ntmps49 (by rfl) (K0 := [(0, _), (1, _)]) ⟨rfl, rfl, trivial⟩ ?_
  have H := St.init w
  refine WC.seq (WC.reg (WL.v (Ev.assign rfl) rfl (WL.nil (WQ.tn (WC.seq (WC.reg (WL.v (Ev.move rfl) rfl (WL.v (Ev.load fl9 rfl (H.old hB)) rfl (WL.callS (vs := [_, _]) rfl cl45 rfl H (lex_Alike _ _ hx he _) fun w1 H L => (WL.v (Ev.assign rfl) rfl (WL.nil (WQ.tn (WC.ret (WQ.ret1 rfl rfl ?_))))))))))))))
  exact ⟨rfl, H⟩
theorem fd_IndexFunc (A : Option Addr) (c : Nat) (xs : List Bs) (G : Nat → Prop) (hl : xs.length ≤ 1099513724928) (hs : ∀ x ∈ xs, x.length ≤ 1048576) (e : Bs) (he : Sml e.length) (B : Nat) (w : World) (hB : w.cell? ⟨B, 0, none⟩ = some (str e)) (R : Rd kStr G w A c xs) :
    Calls Tryd.prog 63 #[.slice A xs.length c, .func (.func 49) #[] #[.pointer (some ⟨B, 0, none⟩)]] w fun r w' => ∃ i : Int, r = .returned (.int .i64 i) ∧ (0 ≤ i ↔ xs.any (fun x => alike x e) = true) ∧ St w No w' [] := by
  refine calls_of Tryd.func63 rfl Tryd.ntmps63 (by rfl) (K0 := [(0, _), (1, _)]) ⟨rfl, rfl, trivial⟩ ?_
  have H := St.init w
  refine WC.seq (WC.reg (WL.v (Ev.assign rfl) rfl (WL.nil (WQ.tn (WC.seq (WC.seq (WC.reg (WL.v (Ev.move rfl) rfl (WL.v (Ev.lensl Tryd.underlying22 rfl) rfl (WL.v (Ev.move rfl) rfl (WL.nil (WQ.tn (WC.block (WC.loop (γ := Nat) (fun j => [(0, .slice A xs.length c), (1, .func (.func 49) #[] #[.pointer (some ⟨B, 0, none⟩)]), (7, .int .i64 (xs.length : Nat)), (8, .int .i64 (j : Nat))]) (fun j w1 => j ≤ xs.length ∧ (xs.take j).any (fun x => alike x e) = false ∧ St w No w1 []) (fun j => xs.length - j) 0 (⟨Nat.zero_le _, rfl, H⟩) ⟨rfl, rfl, rfl, rfl, trivial⟩ ?_))))))))))))))
  rintro j w1 ⟨hj, ha, H⟩
  refine WC.seq (WC.reg (WL.v (Ev.lssN rfl rfl) rfl (WL.nil (WQ.tn (WC.seq (WC.cond rfl (fun h1 => ?_) (fun h1 => ?_)))))))
  · simp only [bsimp] at h1
    obtain ⟨bk, off, rfl, hG, hc⟩ := R.at h1
    have hj1 := getx h1
    have hxs := hs _ (List.getElem_mem h1)
    refine WC.skip (WQ.tn (WC.seq (WC.block (WC.seq (WC.reg (WL.v (Ev.move rfl) rfl (WL.v (Ev.assign rfl) rfl (WL.nil (WQ.tn (WC.seq (WC.reg (WL.v (Ev.move rfl) rfl (WL.v (Ev.move rfl) rfl (WL.v (Ev.move rfl) rfl (WL.v (Ev.idx Tryd.underlying22 sz9 rfl rfl (by omega)) rfl (WL.v (Ev.load fl9 rfl (H.old (hc _ _ hj1 0 _ rfl))) rfl (WL.callv (vs := [_]) (first := []) (caps := [_]) rfl rfl cl49 rfl (fd_Has1 _ e (Nat.le_trans hxs (by decide)) he B _ (H.old hB)) ?_)))))))))))))))))
    rintro _ w1 ⟨rfl, H1⟩
    replace H := H.ext H1.gr
    refine ⟨_, rfl, ?_⟩
    refine WL.nil (WQ.tn (WC.cond rfl (fun h2 => ?_) (fun h2 => ?_)))
    · try simp only [bsimp] at h2
      refine WC.seq (WC.reg (WL.v (Ev.move rfl) rfl (WL.v (Ev.assign rfl) rfl (WL.nil (WQ.tn (WC.ret (WQ.blk_ret (WQ.tn_ret (WQ.loop_ret (WQ.blk_ret (WQ.tn_ret (WQ.ret1 rfl rfl ?_))))))))))))
      exact ⟨_, rfl, ⟨fun _ => List.any_eq_true.2 ⟨_, List.getElem_mem h1, h2⟩, fun _ => by omega⟩, H⟩
    try simp only [bsimp] at h2
    refine WC.skip (WQ.blk (WQ.tn (WC.reg (WL.v (Ev.addN (b := 1) rfl rfl (by omega)) rfl (WL.v (Ev.move rfl) rfl (WL.nil ?_))))))
    exact WQ.again (j + 1) (⟨by omega, by rw [take_succ_get h1, List.any_append, ha]; simp [h2], H⟩) ⟨rfl, rfl, rfl, rfl, trivial⟩ (by first | omega | (dsimp only; omega))
  try simp only [bsimp] at h1
  refine WC.exit (WQ.tn_exit (WQ.loop_exit (WQ.blk_here rfl (WQ.tn (WC.seq (WC.reg (WL.v (Ev.assign rfl) rfl (WL.nil (WQ.tn (WC.ret (WQ.ret1 rfl rfl ?_)))))))))))
  obtain rfl : j = xs.length := by omega
  rw [List.take_length] at ha
  exact ⟨_, rfl, ⟨fun h => by omega, fun h => by rw [ha] at h; cases h⟩, H⟩
theorem fd_ContainsFunc (A : Option Addr) (c : Nat) (xs : List Bs) (G : Nat → Prop) (hl : xs.length ≤ 1099513724928) (hs : ∀ x ∈ xs, x.length ≤ 1048576) (e : Bs) (he : Sml e.length) (B : Nat) (w : World) (hB : w.cell? ⟨B, 0, none⟩ = some (str e)) (R : Rd kStr G w A c xs) :
    Calls Tryd.prog 48 #[.slice A xs.length c, .func (.func 49) #[] #[.pointer (some ⟨B, 0, none⟩)]] w fun r w' => r = .returned (.bool (xs.any fun x => alike x e)) ∧ St w No w' [] := by
  refine calls_of Tryd.func48 rfl Tryd.ntmps48 (by rfl) (K0 := [(0, _), (1, _)]) ⟨rfl, rfl, trivial⟩ ?_
  have H := St.init w
  refine WC.seq (WC.reg (WL.v (Ev.assign rfl) rfl (WL.nil (WQ.tn (WC.seq (WC.reg (WL.v (Ev.move rfl) rfl (WL.v (Ev.move rfl) rfl (WL.call (vs := [_, _]) rfl cl63 rfl (fd_IndexFunc A c xs _ hl hs e he B _ hB R) ?_)))))))))
  rintro _ w1 ⟨i, rfl, hi, H1⟩
  replace H := H.ext H1.gr
  refine ⟨_, rfl, ?_⟩
  refine WL.v (Ev.geq rfl rfl) rfl (WL.v (Ev.assign rfl) rfl (WL.nil (WQ.tn (WC.ret (WQ.ret1 rfl rfl (⟨?_, H⟩))))))
  congr 2
  rw [Bool.eq_iff_iff, decide_eq_true_eq]
  exact hi
theorem fd_Has (A : Option Addr) (c : Nat) (xs : List Fld) (G : Nat → Prop) (hx : Okh xs) (nm : Bs) (hn : Sml nm.length) (e : Bs) (he : Sml e.length) (w : World) (R : Rd kFd G w A c xs) :
    Calls Tryd.prog 35 #[.slice A xs.length c, str nm, str e] w fun r w' => r = .returned (.bool (hasF xs nm e)) ∧ St w No w' [] := by
  refine calls_of Tryd.func35 rfl Tryd.ntmps35 (by rfl) (K0 := [(0, _), (1, _), (2, _)]) ⟨rfl, rfl, rfl, trivial⟩ ?_
  have H := St.init w
  refine WC.seq (WC.reg (WL.box (t := 9) (cs := [_]) rfl rfl H rfl fun b1 w1 hb1 H L => (WL.v (Ev.assign rfl) rfl (WL.nil (WQ.tn (WC.seq (WC.reg (WL.v (Ev.move rfl) rfl (WL.v (Ev.move rfl) rfl (WL.call (vs := [_, _]) rfl cl44 rfl (fd_Elements A c xs _ hx nm hn _ (R.st H)) ?_))))))))))
  rintro _ w1 ⟨A2, c2, rfl, H1⟩
  replace H := H.app H1
  refine ⟨_, rfl, ?_⟩
  refine WL.v (Ev.makeFunc (vs := #[]) (us := #[_]) rfl rfl) rfl (WL.callS (vs := [_, _]) rfl cl48 rfl H (fd_ContainsFunc A2 c2 (elemsF xs nm) _ (elemsF_okh hx nm).1 (elemsF_okh hx nm).2 e he b1 _ (H.cell 1 rfl (o := 0) rfl) (H.rdC kStr 0 rfl)) fun w1 H L => (WL.v (Ev.assign rfl) rfl (WL.nil (WQ.tn (WC.ret (WQ.ret1 rfl rfl ?_))))))
  exact ⟨rfl, H.done⟩
end Go.Proofs.YtodappgiadelaaaDoor
