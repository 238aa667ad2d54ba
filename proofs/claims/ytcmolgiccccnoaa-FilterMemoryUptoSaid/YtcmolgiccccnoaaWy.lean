/- The walks of functions: what each comes to. -/
import Derived.Test.YtcmolgiccccnoaaWu
import Derived.Test.YtcmolgiccccnoaaProg
set_option linter.unusedVariables false
set_option linter.unusedSimpArgs false
namespace Go.Proofs.Ytcmolgiccccnoaa
open Go.RowKit Go.BK
theorem fa86_3 : fldB Try.prog 86 3 4 = true := by kernel_rfl
theorem cl29 : callB Try.prog 29 = true := by kernel_rfl
theorem fa42_0 : fldB Try.prog 42 0 0 = true := by kernel_rfl
theorem rS_Bk {c : Nat} {Al : Option Addr} {cl : Nat} {Ab : Option Addr} {cb : Nat} {s dr seen s' dr' seen' : Int} {xs ys : List Fx} (h : xs.map (·.b) = ys.map (·.b)) : Bk (rS c Al cl Ab cb s dr seen xs) = Bk (rS c Al cl Ab cb s' dr' seen' ys) := by
  have e : ∀ zs : List Fx, (bksR zs).flatMap Chunk.blocks = zs.map (·.b) := fun zs => by
    induction zs with
    | nil => rfl
    | cons z zs ih => show z.b :: (bksR zs).flatMap Chunk.blocks = _; rw [ih]; rfl
  funext b
  unfold Bk rS
  simp only [List.flatMap_cons, e, h]
  rfl
@[reducible] def verY (b : Nat) : Chunk := .blk b [.bool false, .int .i64 0, .slice none 0 0, str [], .slice none 0 0] 42 (0, 0)
def ReqR (w w' : World) (base : Held) (c : Nat) (Al : Option Addr) (cl : Nat) (Ab : Option Addr) (cb : Nat) (seen s dr now size : Int) (m : Bs) (xs : List Fx) (l : List Fld) (e : Ending) : Prop :=
  (inS seen now → ∃ dr' Af cf Ap cp, e = .returned (.tuple #[.agg #[.bool (oStop (runF now size m xs s l)), .int .i64 (oSt (runF now size m xs s l)), .slice Af (oF (runF now size m xs s l)).length cf, str (oB (runF now size m xs s l)), .slice Ap (oP (runF now size m xs s l)).length cp], .int .i64 0]) ∧
      St w (Bk base) w' (rowF Af cf (oF (runF now size m xs s l)) :: rowF Ap cp (oP (runF now size m xs s l)) :: rS c Al cl Ab cb (runF now size m xs s l).2.1 dr' now (runF now size m xs s l).1)) ∧
  (¬ inS seen now → e = .returned (.tuple #[.agg #[.bool false, .int .i64 0, .slice none 0 0, str [], .slice none 0 0], .int .i64 20]) ∧ St w (Bk base) w' (rS c Al cl Ab cb s dr seen xs))
theorem oneF_fb (x : Fx) (pre post : List Fx) (s now size : Int) (m : Bs) (l : List Fld) : (pre ++ (oneF x s now size m l).1 :: post).map (fun x => (x.f, x.b)) = (pre ++ x :: post).map (fun x => (x.f, x.b)) := by
  rw [List.map_append, List.map_append, List.map_cons, List.map_cons, (oneF_f x s now size m l).1, (oneF_f x s now size m l).2]
theorem fb_f {xs ys : List Fx} (h : xs.map (fun x => (x.f, x.b)) = ys.map (fun x => (x.f, x.b))) : xs.map (·.f) = ys.map (·.f) := by
  have := congrArg (List.map Prod.fst) h
  simpa [List.map_map, Function.comp_def] using this
theorem fb_b {xs ys : List Fx} (h : xs.map (fun x => (x.f, x.b)) = ys.map (fun x => (x.f, x.b))) : xs.map (·.b) = ys.map (·.b) := by
  have := congrArg (List.map Prod.snd) h
  simpa [List.map_map, Function.comp_def] using this
theorem Rd.andLt {α : Type} {k : Kd α} {G : Nat → Prop} {w : World} {A : Option Addr} {c : Nat} {xs : List α} (h : Rd k G w A c xs) : Rd k (fun b => G b ∧ b < w.heap.size) w A c xs :=
  ⟨h.1, fun hp => by
    obtain ⟨b, o, h1, h2, h3⟩ := h.2 hp
    obtain ⟨b', o', h1', h2', _⟩ := h.lt.2 hp
    rw [h1] at h1'
    cases h1'
    exact ⟨b, o, h1, ⟨h2, h2'⟩, h3⟩⟩
theorem Bk.lt {w0 w : World} {S : Nat → Prop} {σ : Held} (H : St w0 S w σ) {b : Nat} (h : Bk σ b) : b < w.heap.size := by
  obtain ⟨c, hc, hcb⟩ := List.mem_flatMap.1 h
  exact H.lt hc hcb
set_option maxRecDepth 20000 in
set_option maxHeartbeats 1000000 in
theorem r6_Request (c : Nat) (Al : Option Addr) (cl : Nat) (Ab : Option Addr) (cb : Nat) (s dr seen : Int) (xs : List Fx) (hxs : ∀ x ∈ xs, okFx x) (hlen : Sml xs.length) (GL : Nat → Prop) (now size : Int) (hnow : I64 now) (m : Bs) (A : Option Addr) (c1 : Nat) (l : List Fld) (G : Nat → Prop) (hl : OkfN xs.length l) (w : World) (RL : Rd kFl GL w Al cl (xs.map (·.f))) (hGL : ∀ b, GL b → ¬ Bk (rS c Al cl Ab cb s dr seen xs) b) (R : Rd kFd G w A c1 l) (hG : ∀ b, G b → ¬ Bk (rS c Al cl Ab cb s dr seen xs) b) (H : St w (Bk (rS c Al cl Ab cb s dr seen xs)) w (rS c Al cl Ab cb s dr seen xs)) :
    Calls Try.prog 17 #[.pointer (some ⟨c, 0, none⟩), .int .i64 now, str m, .slice A l.length c1, .int .i64 size] w fun e w' => ReqR w w' (rS c Al cl Ab cb s dr seen xs) c Al cl Ab cb seen s dr now size m xs l e := by
  have hlen' := hlen.le
  have hllen := hl.okf.len
  refine calls_of Try.func17 rfl Try.ntmps17 (by rfl) (K0 := [(0, _), (1, _), (2, _), (3, _), (4, _)]) ⟨rfl, rfl, rfl, rfl, rfl, trivial⟩ (WC.seq (WC.reg (WL.alloc z42 rfl H rfl fun b1 w1 hb1 H L => (WL.v (Ev.assign rfl) rfl (WL.nil (WQ.tn (WC.seq (WC.seq (WC.reg (WL.v (Ev.move rfl) rfl (WL.v (Ev.move rfl) rfl (WL.v (Ev.nilCheck rfl) rfl (WL.v (Ev.fieldAddr fa86_3 rfl) rfl (WL.v (Ev.load fl3 rfl (H.cell 1 rfl rfl)) rfl (WL.v (Ev.lss rfl rfl) rfl (WL.v (Ev.move rfl) rfl (WL.g (Met.no rfl rfl) (fun hg => Ev.move rfl) rfl (WL.g (Met.no rfl rfl) (fun hg => Ev.gtr ((evG.un rfl).ev hg) rfl) rfl (WL.v (Ev.or rfl rfl rfl) rfl (WL.nil ?_))))))))))))))))))))
  refine WQ.tn (WC.cond rfl (fun h0 => ?_) (fun h0 => ?_))
  · try simp only [bsimp] at h0
    refine WC.seq (WC.reg (WL.v (Ev.build (vs := [_, _, _, _, _]) (ps := []) pl42 z42 rfl rfl) rfl (WL.store (i := 0) (vs := [_, _, _, _, _]) rfl rfl rfl sz42 rfl H rfl rfl fun w1 H L => (WL.v (Ev.assign rfl) rfl (WL.nil (WQ.tn (WC.ret (WQ.tn_ret (WQ.retC2 (vs := [_, _, _, _, _]) rfl rfl rfl ag42 sz42 (H.cells 0 rfl rfl) ?_)))))))))
    exact ⟨fun hh => absurd hh (fun hh => by unfold inS at hh; omega), fun _ => ⟨rfl, H.tail⟩⟩
  simp only [bsimp] at h0
  have hin : inS seen now := by unfold inS; omega
  refine WC.skip (WQ.tn (WC.seq (WC.reg (WL.v (Ev.move rfl) rfl (WL.v (Ev.move rfl) rfl (WL.v (Ev.nilCheck rfl) rfl (WL.v (Ev.fieldAddr fa86_3 rfl) rfl (WL.store (i := 1) (vs := [_]) rfl rfl rfl sz3 rfl H rfl rfl fun w1 H L => (WL.nil (WQ.tn (WC.seq (WC.seq (WC.reg (WL.v (Ev.assign rfl) rfl (WL.nil (WQ.tn (WC.block (WC.loop (γ := Nat × List Fx × List Fx × Int × Int × List Fld × Option Addr × Nat) (fun ⟨j, pre, post, s1, dr1, l1, A1, c2⟩ => [(0, .pointer (some ⟨c, 0, none⟩)), (1, .int .i64 now), (2, str m), (3, .slice A1 l1.length c2), (4, .int .i64 size), (10, .pointer (some ⟨b1, 0, none⟩)), (12, .int .i64 (j : Nat))]) (fun ⟨j, pre, post, s1, dr1, l1, A1, c2⟩ w1 => pre.length = j ∧ (pre ++ post).length = xs.length ∧ runF now size m xs s l = (pre ++ (runF now size m post s1 l1).1, (runF now size m post s1 l1).2) ∧ (∀ x ∈ post, okFx x) ∧ OkfN post.length l1 ∧ (pre ++ post).map (fun x => (x.f, x.b)) = xs.map (fun x => (x.f, x.b)) ∧ (∃ G', (∀ b, G' b → ¬ Bk (rS c Al cl Ab cb s dr seen xs) b) ∧ Rd kFd G' w1 A1 c2 l1) ∧ St w (Bk (rS c Al cl Ab cb s dr seen xs)) w1 (verY b1 :: rS c Al cl Ab cb s1 dr1 now (pre ++ post))) (fun ⟨j, pre, post, s1, dr1, l1, A1, c2⟩ => post.length) (0, [], xs, s, dr, l, A, c1) (⟨rfl, rfl, rfl, hxs, hl, rfl, ⟨G, hG, R.gr H.gr hG⟩, H⟩) ⟨rfl, rfl, rfl, rfl, rfl, rfl, rfl, trivial⟩ ?_))))))))))))))))))
  rintro ⟨j, pre, post, s1, dr1, l1, A1, c2⟩ w1 ⟨hj, hpl, hrun, hpo, hlo, hmf, ⟨G1, hG1, R1⟩, H⟩
  refine WC.seq (WC.seq (WC.reg (WL.v (Ev.move rfl) rfl (WL.v (Ev.move rfl) rfl (WL.v (Ev.nilCheck rfl) rfl (WL.v (Ev.fieldAddr fa86_0 rfl) rfl (WL.v (Ev.load fl22 rfl (H.cell 1 rfl rfl)) rfl (WL.v (Ev.lensl Try.underlying22 rfl) rfl (WL.v (Ev.lssN rfl rfl) rfl (WL.nil (WQ.tn (WC.cond rfl (fun h2 => ?_) (fun h2 => ?_)))))))))))))
  · simp only [bsimp] at h2
    obtain ⟨x, post, rfl⟩ : ∃ x r, post = x :: r := by
      cases post with
      | nil => simp at hpl h2; omega
      | cons x r => exact ⟨x, r, rfl⟩
    subst hj
    refine WC.skip (WQ.tn (WC.seq (WC.block (WC.seq (WC.reg (WL.v (Ev.move rfl) rfl (WL.v (Ev.move rfl) rfl (WL.v (Ev.move rfl) rfl (WL.v (Ev.move rfl) rfl (WL.v (Ev.move rfl) rfl (WL.v (Ev.move rfl) rfl ?_)))))))))))
    have hBk : Bk (rS c Al cl Ab cb s1 dr1 now (pre ++ x :: post)) = Bk (rS c Al cl Ab cb s dr seen xs) := rS_Bk (fb_b hmf)
    have HQ2 := H.perm (σ' := rS c Al cl Ab cb s1 dr1 now (pre ++ x :: post) ++ [verY b1]) (List.perm_append_comm (l₁ := rS c Al cl Ab cb s1 dr1 now (pre ++ x :: post)) (l₂ := [_]))
    have HQ := HQ2.sub (List.sublist_append_left _ _)
    have RL1 := RL.gr H.gr hGL
    rw [← fb_f hmf] at RL1
    refine WL.call (vs := [_, _, _, _, _, _]) rfl cl29 rfl (r6_one pre post x (hpo x (by simp)) c Al cl Ab cb s1 dr1 now _ now size hnow m A1 c2 l1 _ hlo.okf _ RL1 (by rw [hBk]; exact hGL) R1 (by rw [hBk]; exact hG1) HQ.local) ?_
    rintro _ w1 ⟨dr2, Af, cf, A2, n2, c3, rfl, H1, hgo⟩
    have hBl : ∀ b, Bk (rS c Al cl Ab cb s dr seen xs) b → b < _ := fun b hb => Bk.lt HQ (hBk ▸ hb)
    replace H := (HQ2.frame H1).perm (σ' := verY b1 :: rowF Af cf (stF (oneF x s1 now size m l1).2.2.1) :: rS c Al cl Ab cb (oneF x s1 now size m l1).2.1 dr2 now (pre ++ (oneF x s1 now size m l1).1 :: post)) (by classical (rw [List.perm_iff_count]; intro q; simp only [List.count_append, List.count_cons, List.count_nil, bksR, List.map_append, List.map_cons, List.map_nil, List.flatMap_append, List.flatMap_cons, litSlow, litFault]; omega))
    refine ⟨_, rfl, ?_⟩
    refine WL.v (Ev.move rfl) rfl (WL.v (Ev.extract rfl rfl) rfl (WL.v (Ev.extract rfl rfl) rfl (WL.alloc z42 rfl H rfl fun b2 w1 hb2 H L => ?_)))
    have LA := L
    refine WL.store (i := 0) (vs := [_, _, _, _, _]) rfl rfl rfl sz42 rfl H rfl rfl fun w1 H L => ?_
    have LB := L
    refine WL.v (Ev.assign rfl) rfl (WL.nil (WQ.tn (WC.seq (WC.seq (WC.reg (WL.v (Ev.fieldAddr fa42_0 rfl) rfl (WL.v (Ev.load fl4 rfl (H.cell 0 rfl rfl)) rfl (WL.nil (WQ.tn (WC.cond rfl (fun h3 => ?_) (fun h3 => ?_)))))))))))
    · obtain ⟨q, hq⟩ := Option.isSome_iff_exists.1 h3
      refine WC.seq (WC.reg (WL.v (Ev.loadA (vs := [_, _, _, _, _]) ag42 sz42 rfl (H.cells 0 rfl rfl)) rfl (WL.store (i := 1) (vs := [_, _, _, _, _]) rfl rfl rfl sz42 rfl H rfl rfl fun w1 H L => (WL.v (Ev.assign rfl) rfl (WL.nil (WQ.tn (WC.ret (WQ.tn_ret (WQ.blk_ret (WQ.tn_ret (WQ.loop_ret (WQ.blk_ret (WQ.tn_ret (WQ.retC2 (vs := [_, _, _, _, _]) rfl rfl rfl ag42 sz42 (H.cells 1 rfl rfl) (⟨fun _ => ?_, fun hh => absurd hin hh⟩)))))))))))))))
      rw [hq] at H ⊢
      rw [hrun, runF_some hq]
      exact ⟨dr2, Af, cf, none, 0, rfl, ((H.sub (σ' := rowF Af cf q.2.1 :: rS c Al cl Ab cb (oneF x s1 now size m l1).2.1 dr2 now (pre ++ (oneF x s1 now size m l1).1 :: post)) (List.Sublist.cons _ (List.Sublist.cons _ (List.Sublist.refl _)))).nilrow 54 2).perm (List.Perm.swap _ _ _)⟩
    have hq : (oneF x s1 now size m l1).2.2.1 = none := by simpa using h3
    obtain ⟨rfl, G2, hG2, R2⟩ := hgo hq
    have R3 := Rd.gr (Rd.ext (Rd.andLt R2) LA) LB (fun b hb e => by have := hb.2; omega)
    refine WC.skip (WQ.tn (WC.reg (WL.v (Ev.move rfl) rfl (WL.v (Ev.assign rfl) rfl (WL.nil (WQ.blk (WQ.tn (WC.reg (WL.v (Ev.move rfl) rfl (WL.v (Ev.addN (b := 1) rfl rfl (by omega)) rfl (WL.v (Ev.assign rfl) rfl (WL.nil ?_))))))))))))
    exact WQ.again ((pre.length + 1, pre ++ [(oneF x s1 now size m l1).1], post, (oneF x s1 now size m l1).2.1, dr2, (oneF x s1 now size m l1).2.2.2, A2, c3)) (⟨by simp, by simp at hpl ⊢; omega, by rw [hrun, runF_none hq]; simp, fun y hy => hpo y (by simp [hy]), oneF_ok (hpo x (by simp)) (by simpa using hlo) _ _ _ _, by rw [List.append_assoc]; exact (oneF_fb x pre post s1 now size m l1).trans hmf, ⟨_, fun b hb hb2 => (hG2 b hb.1).elim (fun h => hG1 b h hb2) (fun h => by have := hBl b hb2; omega), R3⟩, by rw [List.append_assoc]; exact H.sub (List.Sublist.cons _ (List.Sublist.cons_cons _ (List.Sublist.cons _ (List.Sublist.refl _))))⟩) ⟨rfl, rfl, rfl, rfl, rfl, rfl, rfl, trivial⟩ (by simp)
  try simp only [bsimp] at h2
  refine WC.exit (WQ.tn_exit (WQ.loop_exit (WQ.blk_here rfl (WQ.tn (WC.seq (WC.reg (WL.buildSlice0 Try.underlying32 sz54 H rfl fun b3 w1 hb3 H L => (WL.v (Ev.move rfl) rfl (WL.appendRd (i := 0) (k := kFd) Try.underlying32 sz54 by54 z54 rfl rfl rfl (R1.ext L) H rfl (by omega) (by have := hlo.okf.len; omega) rfl fun A1 c1 w1 H L => ?_)))))))))
  rw [Nat.zero_add, List.nil_append] at H
  rw [Nat.zero_add]
  refine WL.v (Ev.build (vs := [_, _, _, _, _]) (ps := [(_, _)]) pl42 z42 rfl rfl) rfl (WL.store (i := 1) (vs := [_, _, _, _, _]) rfl rfl rfl sz42 rfl H rfl rfl fun w1 H L => (WL.v (Ev.assign rfl) rfl (WL.nil (WQ.tn (WC.ret (WQ.retC2 (vs := [_, _, _, _, _]) rfl rfl rfl ag42 sz42 (H.cells 1 rfl rfl) ?_))))))
  obtain rfl : post = [] := by
    cases post with
    | nil => rfl
    | cons x r => simp at hpl h2; omega
  simp only [runF, List.append_nil] at hrun H
  refine ⟨fun _ => ?_, fun hh => absurd hin hh⟩
  rw [hrun]
  exact ⟨dr1, none, 0, A1, c1, rfl, (H.sub (σ' := rowF A1 c1 l1 :: rS c Al cl Ab cb s1 dr1 now pre) (List.Sublist.cons_cons _ (List.Sublist.cons _ (List.Sublist.refl _)))).nilrow 54 2⟩
end Go.Proofs.Ytcmolgiccccnoaa
