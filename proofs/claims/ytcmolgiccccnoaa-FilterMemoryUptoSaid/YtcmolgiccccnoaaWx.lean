/- The walks of functions: what each comes to. -/
import Derived.Test.YtcmolgiccccnoaaWt
import Derived.Test.YtcmolgiccccnoaaProg
set_option linter.unusedVariables false
set_option linter.unusedSimpArgs false
namespace Go.Proofs.Ytcmolgiccccnoaa
open Go.RowKit Go.BK
theorem cl22 : callB Try.prog 22 = true := by kernel_rfl
theorem right_no {fs : List Flt} {j : Nat} (h : j < fs.length) (hr : rightF fs[j] = false) : fs.all rightF = false := all_no h hr
theorem lw_right (A : Option Addr) (c : Nat) (fs : List Flt) (G : Nat → Prop) (hl : Sml fs.length) (hs : ∀ f ∈ fs, Sml f.name.length ∧ Sml f.value.length) (w : World) (R : Rd kFl G w A c fs) :
    Calls Try.prog 10 #[.slice A fs.length c] w fun e w' => e = .returned (.bool (fs.all rightF)) ∧ St w No w' [] := by
  have hlen := hl.le
  refine calls_of Try.func10 rfl Try.ntmps10 (by rfl) (K0 := [(0, _)]) ⟨rfl, trivial⟩ ?_
  have H := St.init w
  refine WC.seq (WC.reg (WL.v (Ev.assign rfl) rfl (WL.nil (WQ.tn (WC.seq (WC.seq (WC.reg (WL.v (Ev.move rfl) rfl (WL.v (Ev.lensl Try.underlying22 rfl) rfl (WL.v (Ev.move rfl) rfl (WL.nil (WQ.tn (WC.block (WC.loop (γ := Nat) (fun j => [(5, .slice A fs.length c), (6, .int .i64 (fs.length : Nat)), (7, .int .i64 (j : Nat))]) (fun j w1 => j ≤ fs.length ∧ (fs.take j).all rightF = true ∧ St w No w1 []) (fun j => fs.length - j) 0 (⟨Nat.zero_le _, rfl, H⟩) ⟨rfl, rfl, rfl, trivial⟩ ?_))))))))))))))
  rintro j w1 ⟨hj, ha, H⟩
  refine WC.seq (WC.reg (WL.v (Ev.lssN rfl rfl) rfl (WL.nil (WQ.tn (WC.seq (WC.cond rfl (fun h1 => ?_) (fun h1 => ?_)))))))
  · simp only [bsimp] at h1
    obtain ⟨bk, off, rfl, hG, hc⟩ := R.at h1
    have hj1 := getx h1
    refine WC.skip (WQ.tn (WC.seq (WC.block (WC.seq (WC.reg (WL.v (Ev.idx Try.underlying22 sz29 rfl rfl (by omega)) rfl (WL.v (Ev.loadA (vs := [_, _, _, _, _, _]) ag29 sz29 rfl (H.olds (rdCells hc hj1 0 rfl))) rfl (WL.alloc z29 rfl H rfl fun b1 w1 hb1 H L => (WL.store (i := 0) (vs := [_, _, _, _, _, _]) rfl rfl rfl sz29 rfl H rfl rfl fun w1 H L => (WL.nil (WQ.tn (WC.seq (WC.reg (WL.v (Ev.loadA (vs := [_, _, _, _, _, _]) ag29 sz29 rfl (H.cells 0 rfl rfl)) rfl (WL.callS (vs := [_]) rfl cl22 rfl H (r14_Filter fs[j] (hs _ (List.getElem_mem h1)).1 (hs _ (List.getElem_mem h1)).2 _) fun w1 H L => (WL.v (Ev.not rfl) rfl (WL.nil ?_)))))))))))))))))
    refine WQ.tn (WC.cond rfl (fun h2 => ?_) (fun h2 => ?_))
    · try simp only [bsimp] at h2
      refine WC.seq (WC.reg (WL.v (Ev.assign rfl) rfl (WL.nil (WQ.tn (WC.ret (WQ.blk_ret (WQ.tn_ret (WQ.loop_ret (WQ.blk_ret (WQ.tn_ret (WQ.ret1 rfl rfl ?_)))))))))))
      exact ⟨by rw [right_no h1 h2], H.done⟩
    try simp only [bsimp] at h2
    refine WC.skip (WQ.blk (WQ.tn (WC.reg (WL.v (Ev.addN (b := 1) rfl rfl (by omega)) rfl (WL.v (Ev.move rfl) rfl (WL.nil ?_))))))
    exact WQ.again (j + 1) (⟨by omega, all_take_succ h1 ha h2, H.tail⟩) ⟨rfl, rfl, rfl, trivial⟩ (by first | omega | (dsimp only; omega))
  try simp only [bsimp] at h1
  refine WC.exit (WQ.tn_exit (WQ.loop_exit (WQ.blk_here rfl (WQ.tn (WC.seq (WC.reg (WL.v (Ev.assign rfl) rfl (WL.nil (WQ.tn (WC.ret (WQ.ret1 rfl rfl ?_)))))))))))
  obtain rfl : j = fs.length := by omega
  rw [List.take_length] at ha
  exact ⟨by rw [ha], H⟩
theorem okFl_right {f : Flt} (h : rightF f = true) (h1 : Sml f.name.length) (h2 : Sml f.value.length) : okFl f := by
  have hk : f.kind = 1 ∨ f.kind = 8 ∨ f.kind = 2 ∨ f.kind = 3 ∨ f.kind = 4 ∨ f.kind = 5 ∨ f.kind = 6 ∨ f.kind = 7 := by
    unfold rightF at h
    split at h
    · omega
    · repeat' split at h
      all_goals first | omega | cases h
  refine ⟨by omega, by omega, h1, h2, fun h3 => ?_⟩
  unfold rightF at h
  rw [if_neg (by omega), if_neg (by omega), if_pos h3] at h
  simp only [bsimp] at h
  exact h.2
theorem new_okx {fs : List Flt} {xs : List Fx} (h : NewOk fs fs.length xs) (hok : ∀ f ∈ fs, okFl f) : ∀ x ∈ xs, okFx x := by
  intro x hx
  have hm : x.f ∈ fs := by
    have h1 := h.1
    rw [List.take_length] at h1
    rw [← h1]; exact List.mem_map.2 ⟨x, hx, rfl⟩
  refine ⟨hok _ hm, fun h3 => ?_⟩
  rw [h.2 x hx]
  exact newB_ok ((hok _ hm).lim h3)
theorem new_len {fs : List Flt} {xs : List Fx} (h : NewOk fs fs.length xs) : xs.length = fs.length := h.len (Nat.le_refl _)
/-- What a verdict says. -/
def oStop (r : List Fx × Int × Stp × List Fld) : Bool := r.2.2.1.isSome
def oSt (r : List Fx × Int × Stp × List Fld) : Int := match r.2.2.1 with | none => 0 | some t => t.1
def oF (r : List Fx × Int × Stp × List Fld) : List Fld := match r.2.2.1 with | none => [] | some t => t.2.1
def oB (r : List Fx × Int × Stp × List Fld) : Bs := match r.2.2.1 with | none => [] | some t => t.2.2
def oP (r : List Fx × Int × Stp × List Fld) : List Fld := match r.2.2.1 with | none => r.2.2.2 | some _ => []
theorem ReqP.any {w w' : World} {base : Held} {c d : Nat} {A : Option Addr} {cap : Nat} {seen s dr now size : Int} {m : Bs} {xs : List Fx} {l : List Fld} {e : Ending} (h : ReqP w w' base c d A cap seen s dr now size m xs l e) (hin : inS seen now) :
    ∃ dr' Af cf Ap cp, e = .returned (.tuple #[.agg #[.bool (oStop (runF now size m xs s l)), .int .i64 (oSt (runF now size m xs s l)), .slice Af (oF (runF now size m xs s l)).length cf, str (oB (runF now size m xs s l)), .slice Ap (oP (runF now size m xs s l)).length cp], .int .i64 0]) ∧
      St w (Bk base) w' (rowF Af cf (oF (runF now size m xs s l)) :: rowF Ap cp (oP (runF now size m xs s l)) :: chS c d A cap now (runF now size m xs s l).2.1 dr' (runF now size m xs s l).1) := by
  obtain ⟨dr', h1, h2⟩ := h.1 hin
  unfold oStop oSt oF oB oP
  cases hr : (runF now size m xs s l).2.2.1 with
  | none =>
    obtain ⟨A', c', h3, h4⟩ := h1 hr
    exact ⟨dr', none, 0, A', c', h3, h4.nilrow 54 2⟩
  | some t =>
    obtain ⟨A', c', h3, h4⟩ := h2 t hr
    exact ⟨dr', A', c', none, 0, h3, (h4.nilrow 54 2).perm (List.Perm.swap _ _ _)⟩
section
variable {w0 w : World} {S : Nat → Prop} {σ1 σ2 : Held}
theorem St.oldBk (H : St w0 No w (σ1 ++ σ2)) : ∀ b, b < w0.heap.size → ¬ Bk σ1 b := fun b hb h => by
  obtain ⟨c, hc, hcb⟩ := List.mem_flatMap.1 h
  have := (H.mem (List.mem_append_left _ hc) hcb).resolve_left (fun h => h)
  omega
theorem St.rowBk {c : Chunk} (H : St w0 S w (σ1 ++ σ2)) (hc : c ∈ σ2) : ∀ b, b ∈ c.blocks → ¬ Bk σ1 b := fun b hb h => by
  obtain ⟨d, hd, hdb⟩ := List.mem_flatMap.1 h
  exact Held.apart H.nd hd hc hdb hb
theorem St.rdC {α : Type} (k : Kd α) {σ : Held} {A : Option Addr} {c e n : Nat} {xs : List α} (H : St w0 S w σ) (i : Nat) (hσ : σ[i]? = some (.row e k.sz A n c (xs.flatMap k.enc))) : Rd k (fun b => b ∈ (Chunk.row e k.sz A n c (xs.flatMap k.enc)).blocks) w A c xs := by
  have h := (H.rd k i hσ).1
  refine ⟨h.1, fun hp => ?_⟩
  obtain ⟨b, o, h1, _, h3⟩ := h.2 hp
  exact ⟨b, o, h1, by subst h1; simp [Chunk.blocks], h3⟩
end
/-- Like filters in like states. -/
def Alk (xs ys : List Fx) : Prop := xs.map (fun x => (x.f, x.s)) = ys.map (fun x => (x.f, x.s))
theorem oneF_alk {x y : Fx} (h1 : x.f = y.f) (h2 : x.s = y.s) (s now size : Int) (m : Bs) (l : List Fld) : (oneF x s now size m l).2 = (oneF y s now size m l).2 := by
  obtain ⟨f, b, t⟩ := x
  obtain ⟨f', b', t'⟩ := y
  simp only at h1 h2
  subst h1; subst h2
  unfold oneF
  repeat' split
  all_goals rfl
theorem runF_alk (now size : Int) (m : Bs) : ∀ (xs ys : List Fx) (s : Int) (l : List Fld), Alk xs ys → (runF now size m xs s l).2 = (runF now size m ys s l).2
  | [], [], _, _, _ => rfl
  | [], _ :: _, _, _, h => by simp [Alk] at h
  | _ :: _, [], _, _, h => by simp [Alk] at h
  | x :: xs, y :: ys, s, l, h => by
    have h' : (x.f = y.f ∧ x.s = y.s) ∧ Alk xs ys := by simpa [Alk] using h
    have h1 := oneF_alk h'.1.1 h'.1.2 s now size m l
    cases hx : (oneF x s now size m l).2.2.1 with
    | none =>
      have hy : (oneF y s now size m l).2.2.1 = none := by rw [← h1]; exact hx
      rw [runF_none hx, runF_none hy, h1]
      exact runF_alk now size m xs ys _ _ h'.2
    | some t =>
      have hy : (oneF y s now size m l).2.2.1 = some t := by rw [← h1]; exact hx
      rw [runF_some hx, runF_some hy, h1]
theorem runF_app (now size : Int) (m : Bs) : ∀ (xs ys : List Fx) (s : Int) (l : List Fld), (runF now size m (xs ++ ys) s l).2 = if (runF now size m xs s l).2.2.1.isSome then (runF now size m xs s l).2 else (runF now size m ys (runF now size m xs s l).2.1 (runF now size m xs s l).2.2.2).2
  | [], ys, s, l => by simp [runF]
  | x :: xs, ys, s, l => by
    cases hx : (oneF x s now size m l).2.2.1 with
    | none =>
      rw [List.cons_append, runF_none hx, runF_none hx]
      exact runF_app now size m xs ys _ _
    | some t => rw [List.cons_append, runF_some hx, runF_some hx]; simp
theorem runF_dice (now size : Int) (m : Bs) : ∀ (xs : List Fx) (s : Int) (l : List Fld), (∀ x ∈ xs, x.f.kind ≠ 7) → (runF now size m xs s l).2.1 = s
  | [], _, _, _ => rfl
  | x :: xs, s, l, h => by
    have h1 : (oneF x s now size m l).2.1 = s := by
      have := h x (by simp)
      unfold oneF
      repeat' split
      all_goals first | rfl | contradiction
    cases hx : (oneF x s now size m l).2.2.1 with
    | none => rw [runF_none hx, h1]; exact runF_dice now size m xs s _ (fun y hy => h y (by simp [hy]))
    | some t => rw [runF_some hx, h1]
theorem runF_okn (now size : Int) (m : Bs) (n : Nat) : ∀ (xs : List Fx) (s : Int) (l : List Fld), (∀ x ∈ xs, okFx x) → OkfN (xs.length + n) l → OkfN n (runF now size m xs s l).2.2.2
  | [], _, _, _, h => by simpa [runF] using h
  | x :: xs, s, l, hx, h => by
    have h' : OkfN ((xs.length + n) + 1) l := by rw [show xs.length + n + 1 = (x :: xs).length + n by simp; omega]; exact h
    cases hq : (oneF x s now size m l).2.2.1 with
    | none => rw [runF_none hq]; exact runF_okn now size m n xs _ _ (fun y hy => hx y (by simp [hy])) (oneF_ok (hx x (by simp)) h' s now size m)
    | some t => rw [runF_some hq]; show OkfN n l; exact ⟨h'.1.mono (by omega), h'.2⟩
theorem new_alk {fs gs : List Flt} {xs ys zs : List Fx} (h1 : NewOk fs fs.length xs) (h2 : NewOk gs gs.length ys) (h3 : NewOk (fs ++ gs) (fs ++ gs).length zs) : Alk zs (xs ++ ys) := by
  have key : ∀ {fs : List Flt} {xs : List Fx}, NewOk fs fs.length xs → xs.map (fun x => (x.f, x.s)) = fs.map (fun f => (f, newB f.n f.m f.k 0)) := by
    intro fs xs h
    have e := h.1
    rw [List.take_length] at e
    rw [← e, List.map_map]
    exact List.map_congr_left fun x hx => by simp [h.2 x hx]
  unfold Alk
  rw [List.map_append, key h1, key h2, key h3, List.map_append]
end Go.Proofs.Ytcmolgiccccnoaa
