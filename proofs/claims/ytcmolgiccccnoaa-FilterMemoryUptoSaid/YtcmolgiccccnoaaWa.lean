/- The walks of functions: what each comes to. -/
import Derived.Test.YtcmolgiccccnoaaWz
import Derived.Test.YtcmolgiccccnoaaProg
set_option linter.unusedVariables false
set_option linter.unusedSimpArgs false
namespace Go.Proofs.Ytcmolgiccccnoaa
open Go.RowKit Go.BK
theorem pl29 : plOf Try.prog 29 = some [(0, 1), (1, 1), (2, 1), (3, 1), (4, 1), (5, 1)] := by kernel_rfl
theorem cl11 : callB Try.prog 11 = true := by kernel_rfl
theorem cl16 : callB Try.prog 16 = true := by kernel_rfl
theorem cl14 : callB Try.prog 14 = true := by kernel_rfl
theorem fa38_0 : fldB Try.prog 38 0 0 = true := by kernel_rfl
theorem fl4 : flatB Try.prog 4 = true := by kernel_rfl
theorem fa38_4 : fldB Try.prog 38 4 4 = true := by kernel_rfl
theorem fa38_1 : fldB Try.prog 38 1 1 = true := by kernel_rfl
section
variable {w w' : World} {base : Held} {c d : Nat} {A : Option Addr} {cap : Nat} {seen s dr now size : Int} {m : Bs} {xs : List Fx} {l : List Fld} {e : Ending}
theorem ReqP.go (h : ReqP w w' base c d A cap seen s dr now size m xs l e) (hin : inS seen now) {xs' : List Fx} {s' : Int} {l' : List Fld} (hr : runF now size m xs s l = (xs', s', none, l')) :
    ∃ dr' A' c', e = .returned (.tuple #[.agg #[.bool false, .int .i64 0, .slice none 0 0, str [], .slice A' l'.length c'], .int .i64 0]) ∧ St w (Bk base) w' (rowF A' c' l' :: chS c d A cap now s' dr' xs') := by
  obtain ⟨dr', h1, _⟩ := h.1 hin
  rw [hr] at h1
  obtain ⟨A', c', h2, h3⟩ := h1 rfl
  exact ⟨dr', A', c', h2, h3⟩
theorem ReqP.stop (h : ReqP w w' base c d A cap seen s dr now size m xs l e) (hin : inS seen now) {xs' : List Fx} {s' st : Int} {fs l' : List Fld} {bd : Bs} (hr : runF now size m xs s l = (xs', s', some (st, fs, bd), l')) :
    ∃ dr' Af cf, e = .returned (.tuple #[.agg #[.bool true, .int .i64 st, .slice Af fs.length cf, str bd, .slice none 0 0], .int .i64 0]) ∧ St w (Bk base) w' (rowF Af cf fs :: chS c d A cap now s' dr' xs') := by
  obtain ⟨dr', _, h1⟩ := h.1 hin
  rw [hr] at h1
  obtain ⟨A', c', h2, h3⟩ := h1 _ rfl
  exact ⟨dr', A', c', h2, h3⟩
end
def litGET : Bs := ([71, 69, 84] : Bs)
def an1 : Flt := ⟨4, ([88, 45, 75] : Bs), ([115] : Bs), 0, 0, 0⟩
def an2 : Flt := ⟨1, ([88, 45, 65] : Bs), ([49] : Bs), 0, 0, 0⟩
def an3 : Flt := ⟨8, ([83, 101, 114, 118, 101, 114] : Bs), ([98] : Bs), 0, 0, 0⟩
def anL : List Fld := [(([120, 45, 107] : Bs), ([115] : Bs))]
def anP : List Fld := [(([88, 45, 65] : Bs), ([49] : Bs))]
def anS : List Fld := [(([83, 101, 114, 118, 101, 114] : Bs), ([98] : Bs))]
theorem an_ok : ∀ f ∈ [an1, an2, an3], okFl f := by
  intro f hf
  simp only [List.mem_cons, List.not_mem_nil, or_false] at hf
  rcases hf with rfl | rfl | rfl
  all_goals exact ⟨by decide, by decide, by unfold Sml; decide, by unfold Sml; decide, fun h => absurd h (by decide)⟩
theorem an_xs {xs : List Fx} (h : NewOk [an1, an2, an3] 3 xs) : ∃ p q r, xs = [newFx an1 p, newFx an2 q, newFx an3 r] := by
  obtain ⟨h1, h2⟩ := h
  match xs, h1, h2 with
  | [⟨f1, b1, s1⟩, ⟨f2, b2, s2⟩, ⟨f3, b3, s3⟩], h1, h2 =>
    simp at h1
    obtain ⟨rfl, rfl, rfl⟩ := h1
    have e1 := h2 _ (List.mem_cons_self ..)
    have e2 := h2 ⟨an2, b2, s2⟩ (by simp)
    have e3 := h2 ⟨an3, b3, s3⟩ (by simp)
    simp only at e1 e2 e3
    subst e1; subst e2; subst e3
    exact ⟨b1, b2, b3, rfl⟩
  | [], h1, _ => simp at h1
  | [_], h1, _ => simp at h1
  | [_, _], h1, _ => simp at h1
  | _ :: _ :: _ :: _ :: _, h1, _ => simp at h1
theorem an_run1 (p q r : Nat) (s : Int) : runF 0 0 litGET [newFx an1 p, newFx an2 q, newFx an3 r] s anL = ([newFx an1 p, newFx an2 q, newFx an3 r], s, none, anP) := by kernel_rfl
theorem an_run2 (p q r : Nat) (s : Int) : runF 0 0 litGET [newFx an1 p, newFx an2 q, newFx an3 r] s [] = ([newFx an1 p, newFx an2 q, newFx an3 r], s, some (401, [(litWww, litToken)], litNoEntry), []) := by kernel_rfl
theorem an_back (p q r : Nat) : backL [] [newFx an1 p, newFx an2 q, newFx an3 r].reverse = anS := by kernel_rfl
theorem okFx_new {f : Flt} (h : okFl f) (b : Nat) : okFx (newFx f b) := ⟨h, fun h3 => newB_ok (h.lim h3)⟩
theorem an_okx (p q r : Nat) : ∀ x ∈ [newFx an1 p, newFx an2 q, newFx an3 r], okFx x := by
  intro x hx
  simp only [List.mem_cons, List.not_mem_nil, or_false] at hx
  rcases hx with rfl | rfl | rfl
  all_goals exact okFx_new (an_ok _ (by simp)) _
theorem no_Bk (σ : Held) : ∀ b, No b → ¬ Bk σ b := fun _ h => h.elim
theorem an_okl : OkfN 3 anL := ⟨by unfold Sml; decide, fun x hx => by
  obtain rfl := List.mem_singleton.1 hx
  exact ⟨by unfold Sml; decide, by unfold Sml; decide⟩⟩
theorem ok_nil (n : Nat) (h : Sml n) : OkfN n [] := ⟨h.mono (by simp), by simp⟩
theorem St.notBk {w0 w : World} {S : Nat → Prop} {σ : Held} {b : Nat} {cs : List Value} {t : TypeId} {fz : Nat × Nat} (H : St w0 S w (.blk b cs t fz :: σ)) : ¬ Bk σ b := fun h => by
  have := H.nd
  rw [List.flatMap_cons, List.nodup_append] at this
  exact this.2.2 b (by simp [Chunk.blocks]) b h rfl
set_option maxRecDepth 20000 in
set_option maxHeartbeats 1000000 in
theorem lw_anchor (w : World) :
    Calls Try.prog 9 #[] w fun e w' => e = .returned (.bool true) ∧ St w No w' [] := by
  refine calls_of Try.func9 rfl Try.ntmps9 (by rfl) (K0 := []) trivial ?_
  have H := St.init w
  refine WC.seq (WC.reg (WL.v (Ev.assign rfl) rfl (WL.nil (WQ.tn (WC.seq (WC.reg (WL.v (Ev.build (vs := [_, _, _, _, _, _]) (ps := [(_, _), (_, _), (_, _)]) pl29 z29 rfl rfl) rfl (WL.v (Ev.build (vs := [_, _, _, _, _, _]) (ps := [(_, _), (_, _), (_, _)]) pl29 z29 rfl rfl) rfl (WL.v (Ev.build (vs := [_, _, _, _, _, _]) (ps := [(_, _), (_, _), (_, _)]) pl29 z29 rfl rfl) rfl (WL.buildSlice (vs := [_, _, _, _, _, _, _, _, _, _, _, _, _, _, _, _, _, _]) (ps := [(_, _), (_, _), (_, _)]) Try.underlying22 sz29 z29 rfl (by omega) (by omega) rfl rfl H rfl fun b1 w1 hb1 H L => (WL.call (vs := [_, _]) rfl cl11 rfl (fl_New (some ⟨b1, 0, none⟩) 3 [an1, an2, an3] _ (by unfold Sml; decide) an_ok 1 _ (H.rdB kFl 0 rfl [an1, an2, an3] ⟨[], rfl⟩ (by decide))) ?_)))))))))))
  rintro _ w1 ⟨c, d, A, cap, xs, rfl, hN, H1⟩
  obtain ⟨p, q, r, rfl⟩ := an_xs hN
  replace H := (H.app H1).sub (List.sublist_append_left _ _)
  refine ⟨_, rfl, ?_⟩
  refine WL.v (Ev.assign rfl) rfl (WL.nil (WQ.tn (WC.seq (WC.seq (WC.reg (WL.v (Ev.move rfl) rfl (WL.v (Ev.eqnil Try.underlying26 rfl rfl) rfl (WL.nil (WQ.tn (WC.cond rfl (fun h0 => ?_) (fun h0 => ?_)))))))))))
  · exact absurd h0 (by simp)
  try simp only [bsimp] at h0
  refine WC.skip (WQ.tn (WC.seq (WC.reg (WL.v (Ev.move rfl) rfl (WL.v (Ev.build (vs := [_, _]) (ps := [(_, _), (_, _)]) pl54 z54 rfl rfl) rfl (WL.buildSlice (vs := [_, _]) (ps := [(_, _)]) Try.underlying32 sz54 z54 rfl (by omega) (by omega) rfl rfl H rfl fun b2 w1 hb2 H L => ?_))))))
  have HQ2 := H.perm (σ' := chS c d A cap 0 (w64 1) 0 [newFx an1 p, newFx an2 q, newFx an3 r] ++ [_]) (List.perm_append_comm (l₁ := chS c d A cap 0 (w64 1) 0 [newFx an1 p, newFx an2 q, newFx an3 r]) (l₂ := [_]))
  have HQ := HQ2.sub (List.sublist_append_left _ _)
  have HB2 := St.notBk H
  refine WL.call (vs := [_, _, _, _, _]) rfl cl16 rfl (fl_Request c d A cap 0 (w64 1) 0 [newFx an1 p, newFx an2 q, newFx an3 r] (an_okx p q r) (by unfold Sml; simp) 0 0 (by unfold I64; omega) litGET (some ⟨b2, 0, none⟩) 1 anL _ an_okl _ (H.rdB kFd 0 rfl anL ⟨[], rfl⟩ (by decide)) (fun b hb => by rw [hb]; exact HB2) HQ.local) ?_
  rintro _ w1 hp
  obtain ⟨dr1, A1, c1, rfl, H1⟩ := hp.go (by unfold inS; omega) (an_run1 p q r _)
  replace H := (HQ2.frame H1).sub (List.sublist_append_left _ _)
  refine ⟨_, rfl, ?_⟩
  refine WL.v (Ev.move rfl) rfl (WL.v (Ev.extract rfl rfl) rfl (WL.v (Ev.extract rfl rfl) rfl (WL.alloc z38 rfl H rfl fun b3 w1 hb3 H L => (WL.store (i := 0) (vs := [_, _, _, _, _]) rfl rfl rfl sz38 rfl H rfl rfl fun w1 H L => (WL.v (Ev.assign rfl) rfl (WL.nil (WQ.tn (WC.seq ?_))))))))
  have HQ2 := H.perm (σ' := chS c d A cap 0 (w64 1) dr1 [newFx an1 p, newFx an2 q, newFx an3 r] ++ [_, _]) (List.perm_append_comm (l₁ := chS c d A cap 0 (w64 1) dr1 [newFx an1 p, newFx an2 q, newFx an3 r]) (l₂ := [_, _]))
  have HQ := HQ2.sub (List.sublist_append_left _ _)
  refine WC.reg (WL.v (Ev.move rfl) rfl (WL.call (vs := [_, _, _, _, _]) rfl cl16 rfl (fl_Request c d A cap 0 (w64 1) dr1 [newFx an1 p, newFx an2 q, newFx an3 r] (an_okx p q r) (by unfold Sml; simp) 0 0 (by unfold I64; omega) litGET none 0 [] No (ok_nil _ (by unfold Sml; simp)) _ (Rd.nil _ _ _ _ _) (no_Bk _) HQ.local) ?_))
  rintro _ w1 hp
  obtain ⟨dr2, A2, c2, rfl, H1⟩ := hp.stop (by unfold inS; omega) (an_run2 p q r _)
  replace H := HQ2.frame H1
  refine ⟨_, rfl, ?_⟩
  refine WL.v (Ev.move rfl) rfl (WL.v (Ev.extract rfl rfl) rfl (WL.v (Ev.extract rfl rfl) rfl (WL.alloc z38 rfl H rfl fun b4 w1 hb4 H L => (WL.store (i := 0) (vs := [_, _, _, _, _]) rfl rfl rfl sz38 rfl H rfl rfl fun w1 H L => (WL.v (Ev.assign rfl) rfl (WL.nil (WQ.tn (WC.seq ?_))))))))
  obtain ⟨ys, hys⟩ := of_list (an_okx p q r)
  have hyl : ys.length = 3 := by simpa using (congrArg List.length hys).symm
  have RX := (H.rd (kFx d) 3 rfl).1
  rw [hys] at RX
  have hresp := fl_Response c d A cap ys _ (by rw [hyl]; unfold Sml; decide) none 0 [] No (by rw [hyl]; exact ok_nil _ (by unfold Sml; decide)) _ (by rw [hyl]; exact H.cell 2 rfl (o := 0) rfl) (Rd.of RX) (Rd.nil _ _ _ _ _)
  rw [← hys, an_back p q r] at hresp
  refine WC.reg (WL.v (Ev.move rfl) rfl (WL.call (vs := [_, _]) rfl cl14 rfl (hresp) ?_))
  rintro _ w1 ⟨A3, c3, rfl, H1⟩
  replace H := H.app H1
  refine ⟨_, rfl, ?_⟩
  refine WL.v (Ev.assign rfl) rfl (WL.nil (WQ.tn (WC.seq ?_)))
  have RP := (H.rd kFd 7 (xs := anP) rfl).1
  obtain ⟨p1, o1, rfl, _, hcP⟩ := RP.at (j := 0) (by decide)
  have RS := (H.rd kFd 0 (xs := anS) rfl).1
  obtain ⟨p3, o3, rfl, _, hcS⟩ := RS.at (j := 0) (by decide)
  refine WC.reg (WL.v (Ev.move rfl) rfl (WL.v (Ev.eqi rfl rfl) rfl (WL.v (Ev.move rfl) rfl (WL.g (Met.yes rfl rfl) (fun hg => Ev.move rfl) rfl (WL.g (Met.yes rfl rfl) (fun hg => Ev.eqi ((evG.un rfl).ev hg) rfl) rfl (WL.v (Ev.and rfl rfl rfl) rfl (WL.v (Ev.move rfl) rfl (WL.g (Met.yes rfl rfl) (fun hg => Ev.fieldAddr fa38_0 rfl) rfl (WL.g (Met.yes rfl rfl) (fun hg => Ev.load fl4 ((evG.un rfl).ev hg) (H.cell 6 rfl rfl)) rfl (WL.g (Met.yes rfl rfl) (fun hg => Ev.not ((evG.un rfl).ev hg)) rfl (WL.v (Ev.and rfl rfl rfl) rfl (WL.v (Ev.move rfl) rfl (WL.g (Met.yes rfl rfl) (fun hg => Ev.fieldAddr fa38_4 rfl) rfl (WL.g (Met.yes rfl rfl) (fun hg => Ev.load fl32 ((evG.un rfl).ev hg) (H.cell 6 rfl rfl)) rfl (WL.g (Met.yes rfl rfl) (fun hg => Ev.lensl Try.underlying32 ((evG.un rfl).ev hg)) rfl (WL.g (Met.yes rfl rfl) (fun hg => Ev.eqN (b := 1) ((evG.un rfl).ev hg) rfl) rfl (WL.v (Ev.and rfl rfl rfl) rfl (WL.v (Ev.move rfl) rfl (WL.g (Met.yes rfl rfl) (fun hg => Ev.fieldAddr fa38_4 rfl) rfl (WL.g (Met.yes rfl rfl) (fun hg => Ev.load fl32 ((evG.un rfl).ev hg) (H.cell 6 rfl rfl)) rfl (WL.g (Met.yes rfl rfl) (fun hg => Ev.idx Try.underlying32 sz54 ((evG.un rfl).ev hg) rfl (by decide)) rfl (WL.g (Met.yes rfl rfl) (fun hg => Ev.fieldAddr fa54_0 ((evG.un rfl).ev hg)) rfl (WL.g (Met.yes rfl rfl) (fun hg => Ev.load fl9 ((evG.un rfl).ev hg) (hcP 0 _ rfl 0 _ rfl)) rfl (WL.g (Met.yes rfl rfl) (fun hg => Ev.eqs ((evG.un rfl).ev hg) rfl) rfl (WL.v (Ev.and rfl rfl rfl) rfl (WL.v (Ev.move rfl) rfl (WL.g (Met.yes rfl rfl) (fun hg => Ev.fieldAddr fa38_0 rfl) rfl (WL.g (Met.yes rfl rfl) (fun hg => Ev.load fl4 ((evG.un rfl).ev hg) (H.cell 1 rfl rfl)) rfl (WL.v (Ev.and rfl rfl rfl) rfl (WL.v (Ev.move rfl) rfl (WL.g (Met.yes rfl rfl) (fun hg => Ev.fieldAddr fa38_1 rfl) rfl (WL.g (Met.yes rfl rfl) (fun hg => Ev.load fl3 ((evG.un rfl).ev hg) (H.cell 1 rfl rfl)) rfl (WL.g (Met.yes rfl rfl) (fun hg => Ev.eqi ((evG.un rfl).ev hg) rfl) rfl (WL.v (Ev.and rfl rfl rfl) rfl (WL.v (Ev.move rfl) rfl (WL.g (Met.yes rfl rfl) (fun hg => Ev.move rfl) rfl (WL.g (Met.yes rfl rfl) (fun hg => Ev.lensl Try.underlying32 ((evG.un rfl).ev hg)) rfl (WL.g (Met.yes rfl rfl) (fun hg => Ev.eqN (b := 1) ((evG.un rfl).ev hg) rfl) rfl (WL.v (Ev.and rfl rfl rfl) rfl (WL.v (Ev.move rfl) rfl (WL.g (Met.yes rfl rfl) (fun hg => Ev.move rfl) rfl (WL.g (Met.yes rfl rfl) (fun hg => Ev.idx Try.underlying32 sz54 ((evG.un rfl).ev hg) rfl (by decide)) rfl (WL.g (Met.yes rfl rfl) (fun hg => Ev.fieldAddr fa54_1 ((evG.un rfl).ev hg)) rfl (WL.g (Met.yes rfl rfl) (fun hg => Ev.load fl9 ((evG.un rfl).ev hg) (hcS 0 _ rfl 1 _ rfl)) rfl (WL.g (Met.yes rfl rfl) (fun hg => Ev.eqs ((evG.un rfl).ev hg) rfl) rfl (WL.v (Ev.and rfl rfl rfl) rfl (WL.v (Ev.assign rfl) rfl (WL.nil ?_))))))))))))))))))))))))))))))))))))))))))))))))
  refine WQ.tn (WC.ret (WQ.ret1 rfl rfl ?_))
  exact ⟨rfl, H.done⟩
end Go.Proofs.Ytcmolgiccccnoaa
