/- The walks of functions: what each comes to. -/
import Derived.Test.YtcmolgiccccnoaaWi
import Derived.Test.YtcmolgiccccnoaaProg
set_option linter.unusedVariables false
set_option linter.unusedSimpArgs false
namespace Go.Proofs.Ytcmolgiccccnoaa
open Go.RowKit Go.BK
theorem fa42_1 : fldB Try.prog 42 1 1 = true := by kernel_rfl
theorem fa42_3 : fldB Try.prog 42 3 3 = true := by kernel_rfl
theorem fa42_4 : fldB Try.prog 42 4 4 = true := by kernel_rfl
def Alq (x y : Fx) : Prop := x.f = y.f ∧ (x.f.kind = 3 → x.s = y.s)
def AlqL : List Fx → List Fx → Prop
  | [], [] => True
  | x :: xs, y :: ys => Alq x y ∧ AlqL xs ys
  | _, _ => False
theorem oneF_alq {x y : Fx} (h : Alq x y) (s now size : Int) (m : Bs) (l : List Fld) : (oneF x s now size m l).2 = (oneF y s now size m l).2 ∧ Alq (oneF x s now size m l).1 (oneF y s now size m l).1 := by
  obtain ⟨f, b, t⟩ := x
  obtain ⟨f', b', t'⟩ := y
  obtain ⟨h1, h2⟩ := h
  simp only at h1 h2
  subst h1
  unfold oneF
  by_cases h3 : f.kind = 3
  · obtain rfl := h2 h3
    simp only [h3]
    exact ⟨rfl, rfl, fun _ => rfl⟩
  · simp only [if_neg h3]
    repeat' split
    all_goals exact ⟨rfl, rfl, fun h => absurd h h3⟩
theorem runF_alq (now size : Int) (m : Bs) : ∀ (xs ys : List Fx) (s : Int) (l : List Fld), AlqL xs ys → (runF now size m xs s l).2 = (runF now size m ys s l).2 ∧ AlqL (runF now size m xs s l).1 (runF now size m ys s l).1
  | [], [], _, _, _ => ⟨rfl, trivial⟩
  | x :: xs, y :: ys, s, l, h => by
    obtain ⟨e, ha⟩ := oneF_alq h.1 s now size m l
    cases hq : (oneF x s now size m l).2.2.1 with
    | none =>
      have hq' : (oneF y s now size m l).2.2.1 = none := by rw [← e]; exact hq
      rw [runF_none hq, runF_none hq', ← e]
      obtain ⟨i1, i2⟩ := runF_alq now size m xs ys (oneF x s now size m l).2.1 (oneF x s now size m l).2.2.2 h.2
      exact ⟨i1, ha, i2⟩
    | some t =>
      have hq' : (oneF y s now size m l).2.2.1 = some t := by rw [← e]; exact hq
      rw [runF_some hq, runF_some hq', ← e]
      exact ⟨rfl, ha, h.2⟩
  | [], _ :: _, _, _, h => h.elim
  | _ :: _, [], _, _, h => h.elim
theorem AlqL.f : ∀ {xs ys : List Fx}, AlqL xs ys → xs.map (·.f) = ys.map (·.f)
  | [], [], _ => rfl
  | x :: xs, y :: ys, h => by rw [List.map_cons, List.map_cons, h.1.1, AlqL.f h.2]
  | [], _ :: _, h => h.elim
  | _ :: _, [], h => h.elim
theorem AlqL.len {xs ys : List Fx} (h : AlqL xs ys) : xs.length = ys.length := by
  have := congrArg List.length h.f
  simpa using this
theorem backL_f : ∀ (xs ys : List Fx) (l : List Fld), xs.map (·.f) = ys.map (·.f) → backL l xs = backL l ys
  | [], [], _, _ => rfl
  | x :: xs, y :: ys, l, h => by
    rw [List.map_cons, List.map_cons] at h
    injection h with h1 h2
    have e : backR l x = backR l y := by unfold backR; rw [h1]
    show backL (backR l x) xs = backL (backR l y) ys
    rw [e]; exact backL_f xs ys _ h2
  | [], _ :: _, _, h => by simp at h
  | _ :: _, [], _, h => by simp at h
theorem backL_alq {xs ys : List Fx} (h : AlqL xs ys) (l : List Fld) : backL l xs.reverse = backL l ys.reverse :=
  backL_f _ _ l (by rw [List.map_reverse, List.map_reverse, h.f])
theorem runF_okx (now size : Int) (m : Bs) : ∀ (xs : List Fx) (s : Int) (l : List Fld), (∀ x ∈ xs, okFx x) → ∀ x ∈ (runF now size m xs s l).1, okFx x
  | [], _, _, _, x, hx => by simp [runF] at hx
  | y :: ys, s, l, h, x, hx => by
    cases hq : (oneF y s now size m l).2.2.1 with
    | none =>
      rw [runF_none hq] at hx
      rcases List.mem_cons.1 hx with rfl | hx
      · exact oneF_okx (h y (by simp)) _ _ _ _ _
      · exact runF_okx now size m ys _ _ (fun z hz => h z (by simp [hz])) x hx
    | some t =>
      rw [runF_some hq] at hx
      rcases List.mem_cons.1 hx with rfl | hx
      · exact oneF_okx (h y (by simp)) _ _ _ _ _
      · exact h x (by simp [hx])
theorem runF_len (now size : Int) (m : Bs) : ∀ (xs : List Fx) (s : Int) (l : List Fld), (runF now size m xs s l).1.map (·.f) = xs.map (·.f)
  | [], _, _ => rfl
  | y :: ys, s, l => by
    cases hq : (oneF y s now size m l).2.2.1 with
    | none => rw [runF_none hq, List.map_cons, List.map_cons, runF_len now size m ys, (oneF_f y s now size m l).1]
    | some t => rw [runF_some hq, List.map_cons, List.map_cons, (oneF_f y s now size m l).1]
/-- What a request comes to, at whatever time. -/
def rq (seen now size : Int) (m : Bs) (xs : List Fx) (s : Int) (l : List Fld) : List Fx × Int × Stp × List Fld := if inS seen now then runF now size m xs s l else (xs, s, none, [])
def rqT (seen now : Int) : Int := if inS seen now then now else seen
def rqE (seen now : Int) : Int := if inS seen now then 0 else 20
theorem rq_alq {xs ys : List Fx} (h : AlqL xs ys) (seen now size : Int) (m : Bs) (s : Int) (l : List Fld) : (rq seen now size m xs s l).2 = (rq seen now size m ys s l).2 ∧ AlqL (rq seen now size m xs s l).1 (rq seen now size m ys s l).1 := by
  unfold rq
  split
  · exact runF_alq now size m xs ys s l h
  · exact ⟨rfl, h⟩
theorem rq_okx {xs : List Fx} (h : ∀ x ∈ xs, okFx x) (seen now size : Int) (m : Bs) (s : Int) (l : List Fld) : ∀ x ∈ (rq seen now size m xs s l).1, okFx x := by
  unfold rq
  split
  · exact runF_okx now size m xs s l h
  · exact h
theorem rq_f (seen now size : Int) (m : Bs) (xs : List Fx) (s : Int) (l : List Fld) : (rq seen now size m xs s l).1.map (·.f) = xs.map (·.f) := by
  unfold rq
  split
  · exact runF_len now size m xs s l
  · rfl
theorem rq_len (seen now size : Int) (m : Bs) (xs : List Fx) (s : Int) (l : List Fld) : (rq seen now size m xs s l).1.length = xs.length := by
  have := congrArg List.length (rq_f seen now size m xs s l)
  simpa using this
section
variable {w w' : World} {base : Held} {c d : Nat} {A : Option Addr} {cap : Nat} {seen s dr now size : Int} {m : Bs} {xs : List Fx} {l : List Fld} {e : Ending}
theorem ReqP.all (h : ReqP w w' base c d A cap seen s dr now size m xs l e) :
    ∃ dr' Af cf Ap cp, e = .returned (.tuple #[.agg #[.bool (oStop (rq seen now size m xs s l)), .int .i64 (oSt (rq seen now size m xs s l)), .slice Af (oF (rq seen now size m xs s l)).length cf, str (oB (rq seen now size m xs s l)), .slice Ap (oP (rq seen now size m xs s l)).length cp], .int .i64 (rqE seen now)]) ∧
      St w (Bk base) w' (rowF Af cf (oF (rq seen now size m xs s l)) :: rowF Ap cp (oP (rq seen now size m xs s l)) :: chS c d A cap (rqT seen now) (rq seen now size m xs s l).2.1 dr' (rq seen now size m xs s l).1) := by
  by_cases hin : inS seen now
  · obtain ⟨dr', Af, cf, Ap, cp, h1, h2⟩ := h.any hin
    unfold rq rqE rqT
    rw [if_pos hin, if_pos hin, if_pos hin]
    exact ⟨dr', Af, cf, Ap, cp, h1, h2⟩
  · obtain ⟨h1, h2⟩ := h.2 hin
    unfold rq rqE rqT
    rw [if_neg hin, if_neg hin, if_neg hin]
    exact ⟨dr, none, 0, none, 0, h1, (h2.nilrow 54 2).nilrow 54 2⟩
theorem ReqR.all {Al Ab : Option Addr} {cl cb : Nat} (h : ReqR w w' base c Al cl Ab cb seen s dr now size m xs l e) :
    ∃ dr' Af cf Ap cp, e = .returned (.tuple #[.agg #[.bool (oStop (rq seen now size m xs s l)), .int .i64 (oSt (rq seen now size m xs s l)), .slice Af (oF (rq seen now size m xs s l)).length cf, str (oB (rq seen now size m xs s l)), .slice Ap (oP (rq seen now size m xs s l)).length cp], .int .i64 (rqE seen now)]) ∧
      St w (Bk base) w' (rowF Af cf (oF (rq seen now size m xs s l)) :: rowF Ap cp (oP (rq seen now size m xs s l)) :: rS c Al cl Ab cb (rq seen now size m xs s l).2.1 dr' (rqT seen now) (rq seen now size m xs s l).1) := by
  by_cases hin : inS seen now
  · obtain ⟨dr', Af, cf, Ap, cp, h1, h2⟩ := h.1 hin
    unfold rq rqE rqT
    rw [if_pos hin, if_pos hin, if_pos hin]
    exact ⟨dr', Af, cf, Ap, cp, h1, h2⟩
  · obtain ⟨h1, h2⟩ := h.2 hin
    unfold rq rqE rqT
    rw [if_neg hin, if_neg hin, if_neg hin]
    exact ⟨dr, none, 0, none, 0, h1, (h2.nilrow 54 2).nilrow 54 2⟩
end
theorem newR_okx {fs : List Flt} {xs : List Fx} (h : NewOkR fs fs.length xs) (hok : ∀ f ∈ fs, okFl f) : ∀ x ∈ xs, okFx x := by
  intro x hx
  have hm : x.f ∈ fs := by
    have h1 := h.1
    rw [List.take_length] at h1
    rw [← h1]; exact List.mem_map.2 ⟨x, hx, rfl⟩
  refine ⟨hok _ hm, fun h3 => ?_⟩
  have hg := (hok _ hm).lim h3
  rw [h.2 x hx]
  unfold newR
  rw [if_pos hg]
  exact newB_ok hg
theorem new_alq {fs : List Flt} {xs ys : List Fx} (h : NewOk fs fs.length xs) (h' : NewOkR fs fs.length ys) (hok : ∀ f ∈ fs, okFl f) : AlqL xs ys := by
  have e1 := h.1
  have e2 := h'.1
  rw [List.take_length] at e1 e2
  have hf : xs.map (·.f) = ys.map (·.f) := e1.trans e2.symm
  have h1 := h.2
  have h2 := h'.2
  have hk : ∀ x ∈ xs, okFl x.f := fun x hx => hok _ (by rw [← e1]; exact List.mem_map.2 ⟨x, hx, rfl⟩)
  clear e1 e2 h h' hok
  induction xs generalizing ys with
  | nil =>
    cases ys with
    | nil => trivial
    | cons y ys => simp at hf
  | cons x xs ih =>
    cases ys with
    | nil => simp at hf
    | cons y ys =>
      rw [List.map_cons, List.map_cons] at hf
      injection hf with hf1 hf2
      refine ⟨⟨hf1, fun h3 => ?_⟩, ih hf2 (fun z hz => h1 z (by simp [hz])) (fun z hz => h2 z (by simp [hz])) (fun z hz => hk z (by simp [hz]))⟩
      have hg := (hk x (by simp)).lim h3
      rw [h1 x (by simp), h2 y (by simp)]
      unfold newR
      rw [← hf1, if_pos hg]
theorem lw_same (s1 : Bool) (n1 : Int) (A1 : Option Addr) (f1 : List Fld) (c1 : Nat) (t1 : Bs) (B1 : Option Addr) (p1 : List Fld) (d1 : Nat) (s2 : Bool) (n2 : Int) (A2 : Option Addr) (f2 : List Fld) (c2 : Nat) (t2 : Bs) (B2 : Option Addr) (p2 : List Fld) (d2 : Nat) (G1 G2 K1 K2 : Nat → Prop) (hf : Sml f1.length) (hp : Sml p1.length) (w : World) (R1 : Rd kFd G1 w A1 c1 f1) (R2 : Rd kFd G2 w A2 c2 f2) (T1 : Rd kFd K1 w B1 d1 p1) (T2 : Rd kFd K2 w B2 d2 p2) :
    Calls Try.prog 18 #[.agg #[.bool s1, .int .i64 n1, .slice A1 f1.length c1, str t1, .slice B1 p1.length d1], .agg #[.bool s2, .int .i64 n2, .slice A2 f2.length c2, str t2, .slice B2 p2.length d2]] w fun e w' => e = .returned (.bool ((((decide (s1 = s2) && decide (n1 = n2)) && decide (t1 = t2)) && decide (f1 = f2)) && decide (p1 = p2))) ∧ St w No w' [] := by
  refine calls_of Try.func18 rfl Try.ntmps18 (by rfl) (K0 := [(0, _), (1, _)]) ⟨rfl, rfl, trivial⟩ ?_
  have H := St.init w
  refine WC.seq (WC.reg (WL.box (t := 38) (cs := [_, _, _, _, _]) rfl rfl H rfl fun b1 w1 hb1 H L => (WL.box (t := 42) (cs := [_, _, _, _, _]) rfl rfl H rfl fun b2 w1 hb2 H L => (WL.v (Ev.assign rfl) rfl (WL.nil (WQ.tn (WC.seq (WC.reg (WL.v (Ev.fieldAddr fa38_0 rfl) rfl (WL.v (Ev.load fl4 rfl (H.cell 1 rfl rfl)) rfl (WL.v (Ev.fieldAddr fa42_0 rfl) rfl (WL.v (Ev.load fl4 rfl (H.cell 0 rfl rfl)) rfl (WL.v (Ev.eqb Try.underlying4 rfl rfl) rfl (WL.v (Ev.move rfl) rfl (WL.g (Met.yes rfl rfl) (fun hg => Ev.fieldAddr fa38_1 rfl) rfl (WL.g (Met.yes rfl rfl) (fun hg => Ev.load fl3 ((evG.un rfl).ev hg) (H.cell 1 rfl rfl)) rfl (WL.g (Met.yes rfl rfl) (fun hg => Ev.fieldAddr fa42_1 rfl) rfl (WL.g (Met.yes rfl rfl) (fun hg => Ev.load fl3 ((evG.un rfl).ev hg) (H.cell 0 rfl rfl)) rfl (WL.g (Met.yes rfl rfl) (fun hg => Ev.eqi ((evG.un rfl).ev hg) ((evG.un rfl).ev hg)) rfl (WL.v (Ev.and rfl rfl rfl) rfl (WL.v (Ev.move rfl) rfl (WL.g (Met.yes rfl rfl) (fun hg => Ev.fieldAddr fa38_3 rfl) rfl (WL.g (Met.yes rfl rfl) (fun hg => Ev.load fl9 ((evG.un rfl).ev hg) (H.cell 1 rfl rfl)) rfl (WL.g (Met.yes rfl rfl) (fun hg => Ev.fieldAddr fa42_3 rfl) rfl (WL.g (Met.yes rfl rfl) (fun hg => Ev.load fl9 ((evG.un rfl).ev hg) (H.cell 0 rfl rfl)) rfl (WL.g (Met.yes rfl rfl) (fun hg => Ev.eqs ((evG.un rfl).ev hg) ((evG.un rfl).ev hg)) rfl (WL.v (Ev.and rfl rfl rfl) rfl (WL.v (Ev.move rfl) rfl (WL.g (Met.yes rfl rfl) (fun hg => Ev.fieldAddr fa38_2 rfl) rfl (WL.g (Met.yes rfl rfl) (fun hg => Ev.load fl32 ((evG.un rfl).ev hg) (H.cell 1 rfl rfl)) rfl (WL.g (Met.yes rfl rfl) (fun hg => Ev.fieldAddr fa42_2 rfl) rfl (WL.g (Met.yes rfl rfl) (fun hg => Ev.load fl32 ((evG.un rfl).ev hg) (H.cell 0 rfl rfl)) rfl (WL.gcallS (vs := [_, _]) (Met.yes rfl rfl) (fun hg => (evs_cons ((evG.un rfl).ev hg) (evs_cons ((evG.un rfl).ev hg) rfl))) cl13 rfl H (fun hg => ref07_Same A1 c1 f1 _ A2 c2 f2 _ hf _ (R1.st H) (R2.st H)) fun w1 H L => (WL.v (Ev.and rfl rfl rfl) rfl (WL.v (Ev.move rfl) rfl (WL.g (Met.yes rfl rfl) (fun hg => Ev.fieldAddr fa38_4 rfl) rfl (WL.g (Met.yes rfl rfl) (fun hg => Ev.load fl32 ((evG.un rfl).ev hg) (H.cell 1 rfl rfl)) rfl (WL.g (Met.yes rfl rfl) (fun hg => Ev.fieldAddr fa42_4 rfl) rfl (WL.g (Met.yes rfl rfl) (fun hg => Ev.load fl32 ((evG.un rfl).ev hg) (H.cell 0 rfl rfl)) rfl (WL.gcallS (vs := [_, _]) (Met.yes rfl rfl) (fun hg => (evs_cons ((evG.un rfl).ev hg) (evs_cons ((evG.un rfl).ev hg) rfl))) cl13 rfl H (fun hg => ref07_Same B1 d1 p1 _ B2 d2 p2 _ hp _ (T1.st H) (T2.st H)) fun w1 H L => (WL.v (Ev.and rfl rfl rfl) rfl (WL.v (Ev.assign rfl) rfl (WL.nil ?_)))))))))))))))))))))))))))))))))))))))))))
  refine WQ.tn (WC.ret (WQ.ret1 rfl rfl ?_))
  exact ⟨rfl, H.done⟩
end Go.Proofs.Ytcmolgiccccnoaa
