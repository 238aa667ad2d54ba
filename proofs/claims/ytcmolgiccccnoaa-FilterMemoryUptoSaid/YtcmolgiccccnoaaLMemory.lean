/- The walks of functions: what each comes to. -/
import Derived.Test.YtcmolgiccccnoaaWel
import Derived.Test.YtcmolgiccccnoaaSet
import Derived.Test.YtcmolgiccccnoaaProg
set_option linter.unusedVariables false
set_option linter.unusedSimpArgs false
namespace Go.Proofs.Ytcmolgiccccnoaa
open Go.RowKit Go.BK
theorem cl12 : callB Try.prog 12 = true := by kernel_rfl
theorem sz34 : szOk Try.prog 34 5 := by unfold szOk; kernel_rfl
theorem ag34 : aggB Try.prog 34 = true := by kernel_rfl
theorem z34 : zOk Try.prog 34 (.agg #[.int .i64 0, str [], .slice none 0 0, .int .i64 0, .bool false]) := by unfold zOk; kernel_rfl
theorem fa34_4 : fldB Try.prog 34 4 4 = true := by kernel_rfl
theorem cl15 : callB Try.prog 15 = true := by kernel_rfl
theorem cl17 : callB Try.prog 17 = true := by kernel_rfl
theorem cl18 : callB Try.prog 18 = true := by kernel_rfl
def litSpare : Bs := ([115, 112, 97, 114, 101] : Bs)
def litRoom : Bs := ([114, 111, 111, 109] : Bs)
def litMore : Bs := ([109, 111, 114, 101] : Bs)
def roomL : List Fld := [(litSpare, []), (litRoom, [])]
structure Tri where
  A : Option Addr
  n : Nat
  c : Nat
  vs : List Value
def kT : Kd Tri := ⟨1, fun t => [.slice t.A t.n t.c], fun _ => rfl, by omega, fun x v hv => by simp at hv; subst hv; rfl⟩
@[reducible] def rowT (t : Tri) : Chunk := .row 54 2 t.A t.n t.c t.vs
theorem split_at {α : Type} {ts : List α} {i : Nat} (h : i < ts.length) : ∃ pre t post, ts = pre ++ t :: post ∧ pre.length = i :=
  ⟨ts.take i, ts[i], ts.drop (i + 1), by rw [← List.drop_eq_getElem_cons h, List.take_append_drop], by rw [List.length_take]; omega⟩
theorem splice_kT (pre post : List Tri) (t t' : Tri) : splice ((pre ++ t :: post).flatMap kT.enc) (pre.length * 1) [.slice t'.A t'.n t'.c] = (pre ++ t' :: post).flatMap kT.enc := by
  have e : ∀ l : List Tri, (l.flatMap kT.enc).length = l.length * 1 := fun l => flat_len kT l
  unfold splice
  rw [List.flatMap_append, List.flatMap_append, List.flatMap_cons, List.flatMap_cons]
  rw [List.take_append_of_le_length (by rw [e]; exact Nat.le_refl _), List.take_of_length_le (by rw [e]; exact Nat.le_refl _), List.drop_append]
  rw [List.drop_eq_nil_of_le (by rw [e]; simp), e]
  simp only [List.length_cons, List.length_nil, List.nil_append, List.append_assoc]
  rw [show pre.length * 1 + (0 + 1) - pre.length * 1 = 1 by omega]
  rfl
theorem take_37 {fs : List Flt} {j : Nat} (h : j < fs.length) (h1 : ∀ f ∈ fs.take j, f.kind ≠ 3 ∧ f.kind ≠ 7) (h2 : fs[j].kind ≠ 3 ∧ fs[j].kind ≠ 7) : ∀ f ∈ fs.take (j + 1), f.kind ≠ 3 ∧ f.kind ≠ 7 := by
  rw [take_succ_get h]
  intro f hf
  rcases List.mem_append.1 hf with hf | hf
  · exact h1 f hf
  · obtain rfl := List.mem_singleton.1 hf; exact h2
theorem oneF_37 {x : Fx} (h : x.f.kind ≠ 3 ∧ x.f.kind ≠ 7) (s now size : Int) (m : Bs) (l : List Fld) : (oneF x s now size m l).1 = x ∧ (oneF x s now size m l).2.1 = s := by
  unfold oneF
  rw [if_neg h.1, if_neg h.2]
  repeat' split
  all_goals exact ⟨rfl, rfl⟩
theorem runF_37 (now size : Int) (m : Bs) : ∀ (xs : List Fx) (s : Int) (l : List Fld), (∀ x ∈ xs, x.f.kind ≠ 3 ∧ x.f.kind ≠ 7) → (runF now size m xs s l).1 = xs ∧ (runF now size m xs s l).2.1 = s
  | [], _, _, _ => ⟨rfl, rfl⟩
  | x :: xs, s, l, h => by
    obtain ⟨e1, e2⟩ := oneF_37 (h x (by simp)) s now size m l
    cases hq : (oneF x s now size m l).2.2.1 with
    | none =>
      rw [runF_none hq, e1, e2]
      obtain ⟨i1, i2⟩ := runF_37 now size m xs s (oneF x s now size m l).2.2.2 (fun y hy => h y (by simp [hy]))
      rw [i1]; exact ⟨rfl, i2⟩
    | some t => rw [runF_some hq, e1, e2]; exact ⟨rfl, rfl⟩
theorem rq_37 {xs : List Fx} (h : ∀ x ∈ xs, x.f.kind ≠ 3 ∧ x.f.kind ≠ 7) (seen now size : Int) (m : Bs) (s : Int) (l : List Fld) : (rq seen now size m xs s l).1 = xs ∧ (rq seen now size m xs s l).2.1 = s := by
  unfold rq
  split
  · exact runF_37 now size m xs s l h
  · exact ⟨rfl, rfl⟩
theorem new_37 {fs : List Flt} {xs : List Fx} (hN : NewOk fs fs.length xs) (h : ∀ f ∈ fs, f.kind ≠ 3 ∧ f.kind ≠ 7) : ∀ x ∈ xs, x.f.kind ≠ 3 ∧ x.f.kind ≠ 7 := fun x hx => h _ (by
  have h1 := hN.1
  rw [List.take_length] at h1
  rw [← h1]; exact List.mem_map.2 ⟨x, hx, rfl⟩)
theorem lw_sameT (s : Bool) (n : Int) (f p : List Fld) (t : Bs) (A1 : Option Addr) (c1 : Nat) (B1 : Option Addr) (d1 : Nat) (A2 : Option Addr) (c2 : Nat) (B2 : Option Addr) (d2 : Nat) (G1 G2 K1 K2 : Nat → Prop) (hf : Sml f.length) (hp : Sml p.length) (w : World) (R1 : Rd kFd G1 w A1 c1 f) (R2 : Rd kFd G2 w A2 c2 f) (T1 : Rd kFd K1 w B1 d1 p) (T2 : Rd kFd K2 w B2 d2 p) :
    Calls Try.prog 18 #[.agg #[.bool s, .int .i64 n, .slice A1 f.length c1, str t, .slice B1 p.length d1], .agg #[.bool s, .int .i64 n, .slice A2 f.length c2, str t, .slice B2 p.length d2]] w fun e w' => e = .returned (.bool true) ∧ St w No w' [] := by
  refine (lw_same s n A1 f c1 t B1 p d1 s n A2 f c2 t B2 p d2 G1 G2 K1 K2 hf hp w R1 R2 T1 T2).mono ?_
  rintro e w' ⟨rfl, H⟩
  exact ⟨by simp, H⟩
set_option maxRecDepth 20000 in
set_option maxHeartbeats 4000000 in
theorem lw_Memory (Al : Option Addr) (e1 : Nat) (ls : List Flt) (A : Option Addr) (c : Nat) (x : List Fld) (hll : Sml ls.length) (hsl : ∀ f ∈ ls, Sml f.name.length ∧ Sml f.value.length) (hx : OkfN ls.length x) (w : World) (RL : Rd kFl (fun _ => True) w Al e1 ls) (RX : Rd kFd (fun _ => True) w A c x) :
    Calls Try.prog 6 #[.slice Al ls.length e1, .slice A x.length c] w fun e w' => e = .returned (.bool true) ∧ St w No w' [] := by
  have hll' := hll.le
  have hxl := hx.okf.len
  refine calls_of Try.func6 rfl Try.ntmps6 (by rfl) (K0 := [(0, _), (1, _)]) ⟨rfl, rfl, trivial⟩ ?_
  have H := St.init w
  refine WC.seq (WC.reg (WL.v (Ev.assign rfl) rfl (WL.nil (WQ.tn (WC.seq (WC.seq (WC.reg (WL.callS (vs := []) rfl cl9 rfl H (lw_anchor _) fun w1 H L => (WL.v (Ev.not rfl) rfl (WL.nil (WQ.tn (WC.cond rfl (fun h0 => ?_) (fun h0 => ?_)))))))))))))
  · exact absurd h0 (by simp)
  try simp only [bsimp] at h0
  refine WC.skip (WQ.tn (WC.seq (WC.seq (WC.reg (WL.v (Ev.move rfl) rfl (WL.callS (vs := [_]) rfl cl10 rfl H (lw_right _ _ _ _ hll hsl _ (RL.st H)) fun w1 H L => (WL.v (Ev.not rfl) rfl (WL.nil (WQ.tn (WC.cond rfl (fun h1 => ?_) (fun h1 => ?_)))))))))))
  · try simp only [bsimp] at h1
    refine WC.seq (WC.reg (WL.v (Ev.assign rfl) rfl (WL.nil (WQ.tn (WC.ret (WQ.tn_ret (WQ.ret1 rfl rfl ?_)))))))
    exact ⟨rfl, H⟩
  simp only [bsimp] at h1
  have hokl : ∀ f ∈ ls, okFl f := fun f hf => okFl_right (List.all_eq_true.1 h1 f hf) (hsl f hf).1 (hsl f hf).2
  refine WC.skip (WQ.tn (WC.seq (WC.seq (WC.reg (WL.v (Ev.move rfl) rfl (WL.v (Ev.lensl Try.underlying22 rfl) rfl (WL.v (Ev.move rfl) rfl (WL.nil (WQ.tn (WC.block (WC.loop (γ := Nat) (fun j => [(0, .slice Al ls.length e1), (1, .slice A x.length c), (27, .slice Al ls.length e1), (28, .int .i64 (ls.length : Nat)), (29, .int .i64 (j : Nat))]) (fun j w1 => j ≤ ls.length ∧ (∀ f ∈ ls.take j, f.kind ≠ 3 ∧ f.kind ≠ 7) ∧ St w No w1 []) (fun j => ls.length - j) 0 (⟨Nat.zero_le _, fun f hf => by simp at hf, H⟩) ⟨rfl, rfl, rfl, rfl, rfl, trivial⟩ ?_)))))))))))
  rintro j w1 ⟨hj, hs7, H⟩
  refine WC.seq (WC.reg (WL.v (Ev.lssN rfl rfl) rfl (WL.nil (WQ.tn (WC.seq (WC.cond rfl (fun h3 => ?_) (fun h3 => ?_)))))))
  · simp only [bsimp] at h3
    obtain ⟨bq, oq, rfl, hG, hc⟩ := RL.at h3
    have hj1 := getx h3
    refine WC.skip (WQ.tn (WC.seq (WC.block (WC.seq (WC.reg (WL.v (Ev.idx Try.underlying22 sz29 rfl rfl (by omega)) rfl (WL.v (Ev.loadA (vs := [_, _, _, _, _, _]) ag29 sz29 rfl (H.olds (rdCells hc hj1 0 rfl))) rfl (WL.alloc z29 rfl H rfl fun b6 w1 hb6 H L => (WL.store (i := 0) (vs := [_, _, _, _, _, _]) rfl rfl rfl sz29 rfl H rfl rfl fun w1 H L => (WL.nil (WQ.tn (WC.seq (WC.reg (WL.v (Ev.fieldAddr fa29_0 rfl) rfl (WL.v (Ev.load fl3 rfl (H.cell 0 rfl rfl)) rfl (WL.v (Ev.eqi rfl rfl) rfl (WL.v (Ev.move rfl) rfl (WL.g (Met.no rfl rfl) (fun hg => Ev.fieldAddr fa29_0 rfl) rfl (WL.g (Met.no rfl rfl) (fun hg => Ev.load fl3 ((evG.un rfl).ev hg) (H.cell 0 rfl rfl)) rfl (WL.g (Met.no rfl rfl) (fun hg => Ev.eqi ((evG.un rfl).ev hg) rfl) rfl (WL.v (Ev.or rfl rfl rfl) rfl (WL.nil ?_))))))))))))))))))))))
    refine WQ.tn (WC.cond rfl (fun h4 => ?_) (fun h4 => ?_))
    · try simp only [bsimp] at h4
      refine WC.seq (WC.reg (WL.v (Ev.assign rfl) rfl (WL.nil (WQ.tn (WC.ret (WQ.blk_ret (WQ.tn_ret (WQ.loop_ret (WQ.blk_ret (WQ.tn_ret (WQ.ret1 rfl rfl ?_)))))))))))
      exact ⟨rfl, H.done⟩
    try simp only [bsimp] at h4
    refine WC.skip (WQ.blk (WQ.tn (WC.reg (WL.v (Ev.addN (b := 1) rfl rfl (by omega)) rfl (WL.v (Ev.move rfl) rfl (WL.nil ?_))))))
    exact WQ.again (j + 1) (⟨by omega, take_37 h3 hs7 ⟨by omega, by omega⟩, H.tail⟩) ⟨rfl, rfl, rfl, rfl, rfl, trivial⟩ (by first | omega | (dsimp only; omega))
  simp only [bsimp] at h3
  obtain rfl : j = ls.length := by omega
  rw [List.take_length] at hs7
  refine WC.exit (WQ.tn_exit (WQ.loop_exit (WQ.blk_here rfl (WQ.tn (WC.seq (WC.reg (WL.buildSlice0 Try.underlying22 sz29 H rfl fun bn w1 hbn H L => (WL.v (Ev.move rfl) rfl (WL.appendRd (i := 0) (k := kFl) Try.underlying22 sz29 by29 z29 rfl rfl rfl (RL.st H) H rfl (by omega) (by omega) rfl fun A1 c1 w1 H L => ?_)))))))))
  rw [Nat.zero_add, List.nil_append] at H
  rw [Nat.zero_add]
  refine WL.call (vs := [_, _]) rfl cl11 rfl (fl_New _ _ ls _ hll hokl 0 _ (St.rdC kFl H 0 rfl)) ?_
  rintro _ w1 ⟨ca, da, Aa, pa, xa, rfl, hN, H1⟩
  replace H := H.tail.app H1
  replace H : St w No _ (chS ca da Aa pa 0 (w64 0) 0 xa ++ []) := H
  rw [List.append_nil] at H
  have hk37 := new_37 hN hs7
  refine ⟨_, rfl, ?_⟩
  refine WL.v (Ev.assign rfl) rfl (WL.nil (WQ.tn (WC.seq (WC.seq (WC.reg (WL.v (Ev.move rfl) rfl (WL.v (Ev.eqnil Try.underlying26 rfl rfl) rfl (WL.nil (WQ.tn (WC.cond rfl (fun h5 => ?_) (fun h5 => ?_)))))))))))
  · exact absurd h5 (by simp)
  try simp only [bsimp] at h5
  refine WC.skip (WQ.tn (WC.seq (WC.reg (WL.buildSlice0 Try.underlying32 sz54 H rfl fun b8 w1 hb8 H L => (WL.v (Ev.move rfl) rfl (WL.appendRd (i := 0) (k := kFd) Try.underlying32 sz54 by54 z54 rfl rfl rfl (RX.st H) H rfl (by omega) (by omega) rfl fun A1 c1 w1 H L => ?_))))))
  rw [Nat.zero_add, List.nil_append] at H
  rw [Nat.zero_add]
  refine WL.v (Ev.build (vs := [_, _]) (ps := [(_, _)]) pl54 z54 rfl rfl) rfl (WL.v (Ev.build (vs := [_, _]) (ps := [(_, _)]) pl54 z54 rfl rfl) rfl (WL.buildSlice (vs := [_, _, _, _]) (ps := [(_, _), (_, _)]) Try.underlying32 sz54 z54 rfl (by omega) (by omega) rfl rfl H rfl fun b9 w1 hb9 H L => (WL.append (i := 1) (news := [_, _, _, _]) Try.underlying32 sz54 by54 z54 rfl (by omega) rfl rfl H rfl rfl (H.cells 0 rfl rfl) (by exact allOne_mem rfl) (by omega) (by omega) rfl fun A1 c1 w1 H L LA LB => ?_)))
  replace H := H.tail
  have er1 : (x ++ roomL).length = x.length + 2 := by simp [roomL]
  have er2 : (x ++ roomL).flatMap kFd.enc = x.flatMap kFd.enc ++ [str litSpare, str [], str litRoom, str []] := by rw [List.flatMap_append]; rfl
  replace H : St w No w1 (.row 54 2 A1 (x ++ roomL).length c1 ((x ++ roomL).flatMap kFd.enc) :: chS ca da Aa pa 0 (w64 0) 0 xa) := by rw [er1, er2]; exact H
  obtain ⟨g8, rfl⟩ := H.rowAt 0 rfl (by omega)
  obtain ⟨c8, rfl⟩ : ∃ c8, c8 = c1 := ⟨c1, rfl⟩
  refine WL.v (Ev.assign rfl) rfl (WL.nil (WQ.tn (WC.seq ?_)))
  have hcap : x.length ≤ c8 := by
    have h9 := (St.rdC kFd H 0 rfl).1
    rw [List.length_append] at h9; omega
  refine WC.reg (WL.v (Ev.move rfl) rfl (WL.v (Ev.move rfl) rfl (WL.v (Ev.lensl Try.underlying32 rfl) rfl (WL.v (Ev.preSl Try.underlying32 sz54 rfl rfl hcap) rfl (WL.v (Ev.assign rfl) rfl (WL.nil (WQ.tn (WC.seq (WC.reg (WL.v (Ev.move rfl) rfl (WL.v (Ev.move rfl) rfl ?_)))))))))))
  replace H : St w No _ (.row 54 2 (some ⟨g8, 0, none⟩) (x ++ roomL).length c8 ((x ++ roomL).flatMap kFd.enc) :: chS ca da Aa pa 0 (w64 0) 0 xa) := H
  have HQ2 := H.perm (σ' := chS ca da Aa pa 0 (w64 0) 0 xa ++ [.row 54 2 (some ⟨g8, 0, none⟩) (x ++ roomL).length c8 ((x ++ roomL).flatMap kFd.enc)]) (by classical (rw [List.perm_iff_count]; intro q; simp only [List.count_append, List.count_cons, List.count_nil, chS, rS, bks, List.flatMap_append, List.flatMap_cons]; omega))
  have HQ := HQ2.sub (List.sublist_append_left _ _)
  refine WL.call (vs := [_, _, _, _, _]) rfl cl16 rfl (fl_Request ca da Aa pa 0 (w64 0) 0 xa (new_okx hN hokl) (by rw [new_len hN]; exact hll) 0 0 (by unfold I64; omega) litOptions (some ⟨g8, 0, none⟩) c8 x _ (by rw [new_len hN]; exact hx) _ (Rd.left (St.rdC kFd H 0 rfl)) (St.rowBk HQ2 (List.mem_cons_self ..)) HQ.local) ?_
  rintro _ w1 hp
  obtain ⟨dr1, Af, cf, Ap, cp, rfl, H1⟩ := hp.all
  rw [show rqT 0 0 = 0 from rfl, (rq_37 hk37 0 0 0 litOptions (w64 0) x).1, (rq_37 hk37 0 0 0 litOptions (w64 0) x).2] at H1
  replace H := (HQ2.frame H1).perm (σ' := .row 54 2 (some ⟨g8, 0, none⟩) (x ++ roomL).length c8 ((x ++ roomL).flatMap kFd.enc) :: rowF Af cf (oF (rq 0 0 0 litOptions xa (w64 0) x)) :: rowF Ap cp (oP (rq 0 0 0 litOptions xa (w64 0) x)) :: chS ca da Aa pa 0 (w64 0) dr1 xa) (by classical (rw [List.perm_iff_count]; intro q; simp only [List.count_append, List.count_cons, List.count_nil, chS, rS, bks, List.flatMap_append, List.flatMap_cons]; omega))
  refine ⟨_, rfl, ?_⟩
  refine WL.v (Ev.move rfl) rfl (WL.v (Ev.extract rfl rfl) rfl (WL.v (Ev.extract rfl rfl) rfl (WL.alloc z38 rfl H rfl fun b10 w1 hb10 H L => (WL.store (i := 0) (vs := [_, _, _, _, _]) rfl rfl rfl sz38 rfl H rfl rfl fun w1 H L => (WL.v (Ev.assign rfl) rfl (WL.nil (WQ.tn (WC.seq (WC.reg (WL.v (Ev.move rfl) rfl (WL.v (Ev.move rfl) rfl ?_)))))))))))
  replace H : St w No _ (.blk b10 [.bool (oStop (rq 0 0 0 litOptions xa (w64 0) x)), .int .i64 (oSt (rq 0 0 0 litOptions xa (w64 0) x)), .slice Af (oF (rq 0 0 0 litOptions xa (w64 0) x)).length cf, str (oB (rq 0 0 0 litOptions xa (w64 0) x)), .slice Ap (oP (rq 0 0 0 litOptions xa (w64 0) x)).length cp] 38 (0, 0) :: .row 54 2 (some ⟨g8, 0, none⟩) (x ++ roomL).length c8 ((x ++ roomL).flatMap kFd.enc) :: rowF Af cf (oF (rq 0 0 0 litOptions xa (w64 0) x)) :: rowF Ap cp (oP (rq 0 0 0 litOptions xa (w64 0) x)) :: chS ca da Aa pa 0 (w64 0) dr1 xa) := H
  have HQ2 := H.perm (σ' := chS ca da Aa pa 0 (w64 0) dr1 xa ++ [.row 54 2 (some ⟨g8, 0, none⟩) (x ++ roomL).length c8 ((x ++ roomL).flatMap kFd.enc), .blk b10 [.bool (oStop (rq 0 0 0 litOptions xa (w64 0) x)), .int .i64 (oSt (rq 0 0 0 litOptions xa (w64 0) x)), .slice Af (oF (rq 0 0 0 litOptions xa (w64 0) x)).length cf, str (oB (rq 0 0 0 litOptions xa (w64 0) x)), .slice Ap (oP (rq 0 0 0 litOptions xa (w64 0) x)).length cp] 38 (0, 0), rowF Af cf (oF (rq 0 0 0 litOptions xa (w64 0) x)), rowF Ap cp (oP (rq 0 0 0 litOptions xa (w64 0) x))]) (by classical (rw [List.perm_iff_count]; intro q; simp only [List.count_append, List.count_cons, List.count_nil, chS, rS, bks, List.flatMap_append, List.flatMap_cons]; omega))
  have HQ := HQ2.sub (List.sublist_append_left _ _)
  refine WL.call (vs := [_, _, _, _, _]) rfl cl16 rfl (fl_Request ca da Aa pa 0 (w64 0) dr1 xa (new_okx hN hokl) (by rw [new_len hN]; exact hll) 0 0 (by unfold I64; omega) litOptions (some ⟨g8, 0, none⟩) c8 x _ (by rw [new_len hN]; exact hx) _ (Rd.left (St.rdC kFd H 1 rfl)) (St.rowBk HQ2 (List.mem_cons_self ..)) HQ.local) ?_
  rintro _ w1 hp
  obtain ⟨dr2, Bf, ef, Bp, ep, rfl, H1⟩ := hp.all
  rw [show rqT 0 0 = 0 from rfl, (rq_37 hk37 0 0 0 litOptions (w64 0) x).1, (rq_37 hk37 0 0 0 litOptions (w64 0) x).2] at H1
  replace H := (HQ2.frame H1).perm (σ' := .blk b10 [.bool (oStop (rq 0 0 0 litOptions xa (w64 0) x)), .int .i64 (oSt (rq 0 0 0 litOptions xa (w64 0) x)), .slice Af (oF (rq 0 0 0 litOptions xa (w64 0) x)).length cf, str (oB (rq 0 0 0 litOptions xa (w64 0) x)), .slice Ap (oP (rq 0 0 0 litOptions xa (w64 0) x)).length cp] 38 (0, 0) :: .row 54 2 (some ⟨g8, 0, none⟩) (x ++ roomL).length c8 ((x ++ roomL).flatMap kFd.enc) :: rowF Af cf (oF (rq 0 0 0 litOptions xa (w64 0) x)) :: rowF Ap cp (oP (rq 0 0 0 litOptions xa (w64 0) x)) :: rowF Bf ef (oF (rq 0 0 0 litOptions xa (w64 0) x)) :: rowF Bp ep (oP (rq 0 0 0 litOptions xa (w64 0) x)) :: chS ca da Aa pa 0 (w64 0) dr2 xa) (by classical (rw [List.perm_iff_count]; intro q; simp only [List.count_append, List.count_cons, List.count_nil, chS, rS, bks, List.flatMap_append, List.flatMap_cons]; omega))
  refine ⟨_, rfl, ?_⟩
  refine WL.v (Ev.move rfl) rfl (WL.v (Ev.extract rfl rfl) rfl (WL.v (Ev.extract rfl rfl) rfl (WL.alloc z38 rfl H rfl fun b12 w1 hb12 H L => (WL.store (i := 0) (vs := [_, _, _, _, _]) rfl rfl rfl sz38 rfl H rfl rfl fun w1 H L => (WL.v (Ev.assign rfl) rfl (WL.nil (WQ.tn (WC.seq (WC.reg (WL.v (Ev.move rfl) rfl (WL.v (Ev.move rfl) rfl ?_)))))))))))
  replace H : St w No _ (.blk b12 [.bool (oStop (rq 0 0 0 litOptions xa (w64 0) x)), .int .i64 (oSt (rq 0 0 0 litOptions xa (w64 0) x)), .slice Bf (oF (rq 0 0 0 litOptions xa (w64 0) x)).length ef, str (oB (rq 0 0 0 litOptions xa (w64 0) x)), .slice Bp (oP (rq 0 0 0 litOptions xa (w64 0) x)).length ep] 38 (0, 0) :: .blk b10 [.bool (oStop (rq 0 0 0 litOptions xa (w64 0) x)), .int .i64 (oSt (rq 0 0 0 litOptions xa (w64 0) x)), .slice Af (oF (rq 0 0 0 litOptions xa (w64 0) x)).length cf, str (oB (rq 0 0 0 litOptions xa (w64 0) x)), .slice Ap (oP (rq 0 0 0 litOptions xa (w64 0) x)).length cp] 38 (0, 0) :: .row 54 2 (some ⟨g8, 0, none⟩) (x ++ roomL).length c8 ((x ++ roomL).flatMap kFd.enc) :: rowF Af cf (oF (rq 0 0 0 litOptions xa (w64 0) x)) :: rowF Ap cp (oP (rq 0 0 0 litOptions xa (w64 0) x)) :: rowF Bf ef (oF (rq 0 0 0 litOptions xa (w64 0) x)) :: rowF Bp ep (oP (rq 0 0 0 litOptions xa (w64 0) x)) :: chS ca da Aa pa 0 (w64 0) dr2 xa) := H
  obtain ⟨os, hos⟩ := of_list (new_okx hN hokl)
  have hol : os.length = ls.length := by rw [← new_len hN, hos, List.length_map]
  have RXX := (H.rd (kFx da) 8 rfl).1
  rw [hos] at RXX
  have hresp := fl_Response ca da Aa pa os _ (by rw [hol]; exact hll) (some ⟨g8, 0, none⟩) c8 x _ (by rw [hol]; exact hx) _ (by rw [hol, ← new_len hN]; exact H.cell 7 rfl (o := 0) rfl) (Rd.of RXX) (Rd.left (St.rdC kFd H 2 rfl))
  rw [← hos] at hresp
  refine WL.call (vs := [_, _]) rfl cl14 rfl (hresp) ?_
  rintro _ w1 ⟨Ao, co, rfl, H1⟩
  replace H := H.app H1
  refine ⟨_, rfl, ?_⟩
  refine WL.v (Ev.move rfl) rfl (WL.v (Ev.move rfl) rfl ?_)
  obtain ⟨os, hos⟩ := of_list (new_okx hN hokl)
  have hol : os.length = ls.length := by rw [← new_len hN, hos, List.length_map]
  have RXX := (H.rd (kFx da) 9 rfl).1
  rw [hos] at RXX
  have hresp := fl_Response ca da Aa pa os _ (by rw [hol]; exact hll) (some ⟨g8, 0, none⟩) c8 x _ (by rw [hol]; exact hx) _ (by rw [hol, ← new_len hN]; exact H.cell 8 rfl (o := 0) rfl) (Rd.of RXX) (Rd.left (St.rdC kFd H 3 rfl))
  rw [← hos] at hresp
  refine WL.call (vs := [_, _]) rfl cl14 rfl (hresp) ?_
  rintro _ w1 ⟨Aq, cq, rfl, H1⟩
  replace H := H.app H1
  refine ⟨_, rfl, ?_⟩
  refine WL.v (Ev.assign rfl) rfl (WL.v (Ev.assign rfl) rfl (WL.nil (WQ.tn (WC.seq (WC.reg (WL.v (Ev.move rfl) rfl (WL.call (vs := [_, _]) rfl cl12 rfl (r6_New Al e1 ls _ hll 0 _ (RL.st H)) ?_)))))))
  rintro _ w1 ⟨cr, Ab, cb, ya, rfl, hR, H1⟩
  replace H := H.app H1
  refine ⟨_, rfl, ?_⟩
  refine WL.v (Ev.move rfl) rfl ?_
  replace H : St w No _ (rS cr Al e1 Ab cb (w64 0) 0 0 ya ++ (rowF Aq cq (backL x xa.reverse) :: rowF Ao co (backL x xa.reverse) :: .blk b12 [.bool (oStop (rq 0 0 0 litOptions xa (w64 0) x)), .int .i64 (oSt (rq 0 0 0 litOptions xa (w64 0) x)), .slice Bf (oF (rq 0 0 0 litOptions xa (w64 0) x)).length ef, str (oB (rq 0 0 0 litOptions xa (w64 0) x)), .slice Bp (oP (rq 0 0 0 litOptions xa (w64 0) x)).length ep] 38 (0, 0) :: .blk b10 [.bool (oStop (rq 0 0 0 litOptions xa (w64 0) x)), .int .i64 (oSt (rq 0 0 0 litOptions xa (w64 0) x)), .slice Af (oF (rq 0 0 0 litOptions xa (w64 0) x)).length cf, str (oB (rq 0 0 0 litOptions xa (w64 0) x)), .slice Ap (oP (rq 0 0 0 litOptions xa (w64 0) x)).length cp] 38 (0, 0) :: .row 54 2 (some ⟨g8, 0, none⟩) (x ++ roomL).length c8 ((x ++ roomL).flatMap kFd.enc) :: rowF Af cf (oF (rq 0 0 0 litOptions xa (w64 0) x)) :: rowF Ap cp (oP (rq 0 0 0 litOptions xa (w64 0) x)) :: rowF Bf ef (oF (rq 0 0 0 litOptions xa (w64 0) x)) :: rowF Bp ep (oP (rq 0 0 0 litOptions xa (w64 0) x)) :: chS ca da Aa pa 0 (w64 0) dr2 xa)) := H
  have HQ := H.sub (List.sublist_append_left _ _)
  have hyo := newR_okx hR hokl
  have hal := new_alq hN hR hokl
  have hyf : ya.map (·.f) = ls := by have := hR.1; rw [List.take_length] at this; exact this
  have hyl : ya.length = ls.length := by rw [← hyf, List.length_map]
  refine WL.call (vs := [_, _, _, _, _]) rfl cl17 rfl (r6_Request cr Al e1 Ab cb (w64 0) 0 0 ya hyo (by rw [hyl]; exact hll) _ 0 0 (by unfold I64; omega) litOptions A c x _ (by rw [hyl]; exact hx) _ (by rw [hyf]; exact RL.lt.st H) (St.oldBk H) (RX.lt.st H) (St.oldBk H) HQ.local) ?_
  rintro _ w1 hp
  obtain ⟨q1, q2, q3, q4, q5⟩ := o_eq' (congrArg Prod.snd (rq_alq hal 0 0 0 litOptions (w64 0) x).1)
  have hp2 := hp.all
  rw [← q1, ← q2, ← q3, ← q4, ← q5] at hp2
  obtain ⟨dq1, Wf, gf, Wp, gp, rfl, H1⟩ := hp2
  replace H := ((H.frame H1).perm (σ' := [.blk b12 [.bool (oStop (rq 0 0 0 litOptions xa (w64 0) x)), .int .i64 (oSt (rq 0 0 0 litOptions xa (w64 0) x)), .slice Bf (oF (rq 0 0 0 litOptions xa (w64 0) x)).length ef, str (oB (rq 0 0 0 litOptions xa (w64 0) x)), .slice Bp (oP (rq 0 0 0 litOptions xa (w64 0) x)).length ep] 38 (0, 0), .row 54 2 (some ⟨g8, 0, none⟩) (x ++ roomL).length c8 ((x ++ roomL).flatMap kFd.enc), rowF Bf ef (oF (rq 0 0 0 litOptions xa (w64 0) x)), rowF Bp ep (oP (rq 0 0 0 litOptions xa (w64 0) x)), rowF Aq cq (backL x xa.reverse), rowF Wf gf (oF (rq 0 0 0 litOptions xa (w64 0) x)), rowF Wp gp (oP (rq 0 0 0 litOptions xa (w64 0) x)), .blk b10 [.bool (oStop (rq 0 0 0 litOptions xa (w64 0) x)), .int .i64 (oSt (rq 0 0 0 litOptions xa (w64 0) x)), .slice Af (oF (rq 0 0 0 litOptions xa (w64 0) x)).length cf, str (oB (rq 0 0 0 litOptions xa (w64 0) x)), .slice Ap (oP (rq 0 0 0 litOptions xa (w64 0) x)).length cp] 38 (0, 0), rowF Af cf (oF (rq 0 0 0 litOptions xa (w64 0) x)), rowF Ap cp (oP (rq 0 0 0 litOptions xa (w64 0) x)), rowF Ao co (backL x xa.reverse)] ++ (rS cr Al e1 Ab cb (rq 0 0 0 litOptions ya (w64 0) x).2.1 dq1 (rqT 0 0) (rq 0 0 0 litOptions ya (w64 0) x).1 ++ chS ca da Aa pa 0 (w64 0) dr2 xa)) (by classical (rw [List.perm_iff_count]; intro q; simp only [List.count_append, List.count_cons, List.count_nil, chS, rS, bks, List.flatMap_append, List.flatMap_cons]; omega))).sub (List.sublist_append_left _ _)
  refine ⟨_, rfl, ?_⟩
  refine WL.v (Ev.move rfl) rfl (WL.v (Ev.extract rfl rfl) rfl (WL.v (Ev.extract rfl rfl) rfl (WL.alloc z42 rfl H rfl fun b16 w1 hb16 H L => (WL.store (i := 0) (vs := [_, _, _, _, _]) rfl rfl rfl sz42 rfl H rfl rfl fun w1 H L => (WL.v (Ev.assign rfl) rfl (WL.nil (WQ.tn (WC.seq (WC.seq ?_)))))))))
  obtain ⟨b7, o7, hA7, _, hc7⟩ := (St.rdC kFd H 2 rfl).at (j := x.length) (by simp [roomL])
  cases hA7
  have hj8 : (x ++ roomL)[x.length]? = some (litSpare, []) := by simp [roomL]
  have hj9 : (x ++ roomL)[x.length + 1]? = some (litRoom, []) := by rw [List.getElem?_append_right (by omega), show x.length + 1 - x.length = 1 by omega]; rfl
  refine WC.reg (WL.v (Ev.move rfl) rfl (WL.v (Ev.move rfl) rfl (WL.v (Ev.lensl Try.underlying32 rfl) rfl (WL.v (Ev.idx Try.underlying32 sz54 rfl rfl (by omega)) rfl (WL.v (Ev.fieldAddr fa54_0 rfl) rfl (WL.v (Ev.load fl9 rfl (hc7 _ _ hj8 0 _ rfl)) rfl (WL.v (Ev.nes rfl rfl) rfl (WL.v (Ev.move rfl) rfl (WL.g (Met.no rfl rfl) (fun hg => Ev.move rfl) rfl (WL.g (Met.no rfl rfl) (fun hg => Ev.move rfl) rfl (WL.g (Met.no rfl rfl) (fun hg => Ev.lensl Try.underlying32 ((evG.un rfl).ev hg)) rfl (WL.g (Met.no rfl rfl) (fun hg => Ev.addN (b := 1) ((evG.un rfl).ev hg) rfl (by omega)) rfl (WL.g (Met.no rfl rfl) (fun hg => Ev.idx Try.underlying32 sz54 ((evG.un rfl).ev hg) ((evG.un rfl).ev hg) (by omega)) rfl (WL.g (Met.no rfl rfl) (fun hg => Ev.fieldAddr fa54_0 ((evG.un rfl).ev hg)) rfl (WL.g (Met.no rfl rfl) (fun hg => Ev.load fl9 ((evG.un rfl).ev hg) (hc7 _ _ hj9 0 _ rfl)) rfl (WL.g (Met.no rfl rfl) (fun hg => Ev.nes ((evG.un rfl).ev hg) rfl) rfl (WL.v (Ev.or rfl rfl rfl) rfl (WL.v (Ev.move rfl) rfl (WL.g (Met.no rfl rfl) (fun hg => Ev.loadA (vs := [_, _, _, _, _]) ag38 sz38 rfl (H.cells 8 rfl rfl)) rfl (WL.g (Met.no rfl rfl) (fun hg => Ev.loadA (vs := [_, _, _, _, _]) ag42 sz42 rfl (H.cells 0 rfl rfl)) rfl (WL.gcallS (vs := [_, _]) (Met.no rfl rfl) (fun hg => (evs_cons ((evG.un rfl).ev hg) (evs_cons ((evG.un rfl).ev hg) rfl))) cl18 rfl H (fun hg => lw_same _ _ _ _ _ _ _ _ _ _ _ _ _ _ _ _ _ _ _ _ _ _ (rq_fl 0 0 0 litOptions xa (w64 0) x) (rq_pl (new_okx hN hokl) (by rw [new_len hN]; exact hx) 0 0 0 litOptions (w64 0)).1 _ (St.rdC kFd H 9 rfl) (St.rdC kFd H 6 rfl) (St.rdC kFd H 10 rfl) (St.rdC kFd H 7 rfl)) fun w1 H L => (WL.g (Met.no rfl rfl) (fun hg => Ev.not ((evG.un rfl).ev hg)) rfl (WL.v (Ev.or rfl rfl rfl) rfl (WL.v (Ev.move rfl) rfl (WL.g (Met.no rfl rfl) (fun hg => Ev.loadA (vs := [_, _, _, _, _]) ag38 sz38 rfl (H.cells 1 rfl rfl)) rfl (WL.g (Met.no rfl rfl) (fun hg => Ev.loadA (vs := [_, _, _, _, _]) ag42 sz42 rfl (H.cells 0 rfl rfl)) rfl (WL.gcallS (vs := [_, _]) (Met.no rfl rfl) (fun hg => (evs_cons ((evG.un rfl).ev hg) (evs_cons ((evG.un rfl).ev hg) rfl))) cl18 rfl H (fun hg => lw_same _ _ _ _ _ _ _ _ _ _ _ _ _ _ _ _ _ _ _ _ _ _ (rq_fl 0 0 0 litOptions xa (w64 0) x) (rq_pl (new_okx hN hokl) (by rw [new_len hN]; exact hx) 0 0 0 litOptions (w64 0)).1 _ (St.rdC kFd H 3 rfl) (St.rdC kFd H 6 rfl) (St.rdC kFd H 4 rfl) (St.rdC kFd H 7 rfl)) fun w1 H L => (WL.g (Met.no rfl rfl) (fun hg => Ev.not ((evG.un rfl).ev hg)) rfl (WL.v (Ev.or rfl rfl rfl) rfl (WL.nil ?_))))))))))))))))))))))))))))))
  refine WQ.tn (WC.cond rfl (fun h6 => ?_) (fun h6 => ?_))
  · exfalso
    simp [litSpare, litRoom] at h6
  try simp only [bsimp] at h6
  refine WC.skip (WQ.tn (WC.seq (WC.reg (WL.v (Ev.fieldAddr fa38_2 rfl) rfl (WL.v (Ev.load fl32 rfl (H.cell 8 rfl rfl)) rfl (WL.v (Ev.fieldAddr fa38_4 rfl) rfl (WL.v (Ev.load fl32 rfl (H.cell 8 rfl rfl)) rfl (WL.v (Ev.move rfl) rfl (WL.buildSlice (vs := [_, _, _]) (ps := [(_, _), (_, _), (_, _)]) Try.underlying56 sz32 z32 rfl (by omega) (by omega) rfl rfl H rfl fun b18 w1 hb18 H L => (WL.v (Ev.assign rfl) rfl (WL.nil (WQ.tn (WC.seq (WC.seq ?_))))))))))))))
  replace H := H.toRow 0 (m := 3) (k := 1) rfl rfl (by decide)
  replace H : St w No _ ([.row 32 1 (some ⟨b18, 0, none⟩) 3 3 ([.slice Af (oF (rq 0 0 0 litOptions xa (w64 0) x)).length cf, .slice Ap (oP (rq 0 0 0 litOptions xa (w64 0) x)).length cp, .slice Ao (backL x xa.reverse).length co]), .blk b16 [.bool (oStop (rq 0 0 0 litOptions xa (w64 0) x)), .int .i64 (oSt (rq 0 0 0 litOptions xa (w64 0) x)), .slice Wf (oF (rq 0 0 0 litOptions xa (w64 0) x)).length gf, str (oB (rq 0 0 0 litOptions xa (w64 0) x)), .slice Wp (oP (rq 0 0 0 litOptions xa (w64 0) x)).length gp] 42 (0, 0), .blk b12 [.bool (oStop (rq 0 0 0 litOptions xa (w64 0) x)), .int .i64 (oSt (rq 0 0 0 litOptions xa (w64 0) x)), .slice Bf (oF (rq 0 0 0 litOptions xa (w64 0) x)).length ef, str (oB (rq 0 0 0 litOptions xa (w64 0) x)), .slice Bp (oP (rq 0 0 0 litOptions xa (w64 0) x)).length ep] 38 (0, 0), .row 54 2 (some ⟨g8, 0, none⟩) (x ++ roomL).length c8 ((x ++ roomL).flatMap kFd.enc), rowF Bf ef (oF (rq 0 0 0 litOptions xa (w64 0) x)), rowF Bp ep (oP (rq 0 0 0 litOptions xa (w64 0) x)), rowF Aq cq (backL x xa.reverse), rowF Wf gf (oF (rq 0 0 0 litOptions xa (w64 0) x)), rowF Wp gp (oP (rq 0 0 0 litOptions xa (w64 0) x)), .blk b10 [.bool (oStop (rq 0 0 0 litOptions xa (w64 0) x)), .int .i64 (oSt (rq 0 0 0 litOptions xa (w64 0) x)), .slice Af (oF (rq 0 0 0 litOptions xa (w64 0) x)).length cf, str (oB (rq 0 0 0 litOptions xa (w64 0) x)), .slice Ap (oP (rq 0 0 0 litOptions xa (w64 0) x)).length cp] 38 (0, 0), rowF Af cf (oF (rq 0 0 0 litOptions xa (w64 0) x)), rowF Ap cp (oP (rq 0 0 0 litOptions xa (w64 0) x)), rowF Ao co (backL x xa.reverse)]) := H
  replace H := H.sub (σ' := [.row 32 1 (some ⟨b18, 0, none⟩) 3 3 ([.slice Af (oF (rq 0 0 0 litOptions xa (w64 0) x)).length cf, .slice Ap (oP (rq 0 0 0 litOptions xa (w64 0) x)).length cp, .slice Ao (backL x xa.reverse).length co]), .blk b16 [.bool (oStop (rq 0 0 0 litOptions xa (w64 0) x)), .int .i64 (oSt (rq 0 0 0 litOptions xa (w64 0) x)), .slice Wf (oF (rq 0 0 0 litOptions xa (w64 0) x)).length gf, str (oB (rq 0 0 0 litOptions xa (w64 0) x)), .slice Wp (oP (rq 0 0 0 litOptions xa (w64 0) x)).length gp] 42 (0, 0), .blk b12 [.bool (oStop (rq 0 0 0 litOptions xa (w64 0) x)), .int .i64 (oSt (rq 0 0 0 litOptions xa (w64 0) x)), .slice Bf (oF (rq 0 0 0 litOptions xa (w64 0) x)).length ef, str (oB (rq 0 0 0 litOptions xa (w64 0) x)), .slice Bp (oP (rq 0 0 0 litOptions xa (w64 0) x)).length ep] 38 (0, 0), .row 54 2 (some ⟨g8, 0, none⟩) (x ++ roomL).length c8 ((x ++ roomL).flatMap kFd.enc), rowF Bf ef (oF (rq 0 0 0 litOptions xa (w64 0) x)), rowF Bp ep (oP (rq 0 0 0 litOptions xa (w64 0) x)), rowF Aq cq (backL x xa.reverse), rowF Wf gf (oF (rq 0 0 0 litOptions xa (w64 0) x)), rowF Wp gp (oP (rq 0 0 0 litOptions xa (w64 0) x)), rowF Af cf (oF (rq 0 0 0 litOptions xa (w64 0) x)), rowF Ap cp (oP (rq 0 0 0 litOptions xa (w64 0) x)), rowF Ao co (backL x xa.reverse)]) (List.Sublist.cons_cons _ (List.Sublist.cons_cons _ (List.Sublist.cons_cons _ (List.Sublist.cons_cons _ (List.Sublist.cons_cons _ (List.Sublist.cons_cons _ (List.Sublist.cons_cons _ (List.Sublist.cons_cons _ (List.Sublist.cons_cons _ (List.Sublist.cons _ (List.Sublist.cons_cons _ (List.Sublist.cons_cons _ (List.Sublist.cons_cons _ (List.nil_sublist _))))))))))))))
  replace H : St w No _ (.row 32 1 (some ⟨b18, 0, none⟩) 3 3 ([.slice Af (oF (rq 0 0 0 litOptions xa (w64 0) x)).length cf, .slice Ap (oP (rq 0 0 0 litOptions xa (w64 0) x)).length cp, .slice Ao (backL x xa.reverse).length co]) :: .blk b16 [.bool (oStop (rq 0 0 0 litOptions xa (w64 0) x)), .int .i64 (oSt (rq 0 0 0 litOptions xa (w64 0) x)), .slice Wf (oF (rq 0 0 0 litOptions xa (w64 0) x)).length gf, str (oB (rq 0 0 0 litOptions xa (w64 0) x)), .slice Wp (oP (rq 0 0 0 litOptions xa (w64 0) x)).length gp] 42 (0, 0) :: .blk b12 [.bool (oStop (rq 0 0 0 litOptions xa (w64 0) x)), .int .i64 (oSt (rq 0 0 0 litOptions xa (w64 0) x)), .slice Bf (oF (rq 0 0 0 litOptions xa (w64 0) x)).length ef, str (oB (rq 0 0 0 litOptions xa (w64 0) x)), .slice Bp (oP (rq 0 0 0 litOptions xa (w64 0) x)).length ep] 38 (0, 0) :: .row 54 2 (some ⟨g8, 0, none⟩) (x ++ roomL).length c8 ((x ++ roomL).flatMap kFd.enc) :: rowF Bf ef (oF (rq 0 0 0 litOptions xa (w64 0) x)) :: rowF Bp ep (oP (rq 0 0 0 litOptions xa (w64 0) x)) :: rowF Aq cq (backL x xa.reverse) :: rowF Wf gf (oF (rq 0 0 0 litOptions xa (w64 0) x)) :: rowF Wp gp (oP (rq 0 0 0 litOptions xa (w64 0) x)) :: (([⟨Af, (oF (rq 0 0 0 litOptions xa (w64 0) x)).length, cf, (oF (rq 0 0 0 litOptions xa (w64 0) x)).flatMap kFd.enc⟩, ⟨Ap, (oP (rq 0 0 0 litOptions xa (w64 0) x)).length, cp, (oP (rq 0 0 0 litOptions xa (w64 0) x)).flatMap kFd.enc⟩, ⟨Ao, (backL x xa.reverse).length, co, (backL x xa.reverse).flatMap kFd.enc⟩] : List Tri).map rowT)) := H
  refine WC.reg (WL.v (Ev.move rfl) rfl (WL.v (Ev.lensl Try.underlying56 rfl) rfl (WL.v (Ev.move rfl) rfl (WL.nil (WQ.tn (WC.block (WC.loop (γ := Nat × List Tri) (fun ⟨i, ts⟩ => [(0, .slice Al ls.length e1), (1, .slice A x.length c), (8, .slice (some ⟨g8, 0, none⟩) (x.length + 2) c8), (9, .slice (some ⟨g8, 0, none⟩) x.length c8), (12, .pointer (some ⟨b12, 0, none⟩)), (15, .slice Aq (backL x xa.reverse).length cq), (16, .pointer (some ⟨b16, 0, none⟩)), (18, .slice (some ⟨b18, 0, none⟩) 3 3), (119, .slice (some ⟨b18, 0, none⟩) 3 3), (120, .int .i64 ((3 : Nat) : Int)), (121, .int .i64 (i : Nat))]) (fun ⟨i, ts⟩ w1 => i ≤ 3 ∧ ts.length = 3 ∧ (∀ t ∈ ts.drop i, Sml t.n) ∧ St w No w1 (.row 32 1 (some ⟨b18, 0, none⟩) 3 3 (ts.flatMap kT.enc) :: .blk b16 [.bool (oStop (rq 0 0 0 litOptions xa (w64 0) x)), .int .i64 (oSt (rq 0 0 0 litOptions xa (w64 0) x)), .slice Wf (oF (rq 0 0 0 litOptions xa (w64 0) x)).length gf, str (oB (rq 0 0 0 litOptions xa (w64 0) x)), .slice Wp (oP (rq 0 0 0 litOptions xa (w64 0) x)).length gp] 42 (0, 0) :: .blk b12 [.bool (oStop (rq 0 0 0 litOptions xa (w64 0) x)), .int .i64 (oSt (rq 0 0 0 litOptions xa (w64 0) x)), .slice Bf (oF (rq 0 0 0 litOptions xa (w64 0) x)).length ef, str (oB (rq 0 0 0 litOptions xa (w64 0) x)), .slice Bp (oP (rq 0 0 0 litOptions xa (w64 0) x)).length ep] 38 (0, 0) :: .row 54 2 (some ⟨g8, 0, none⟩) (x ++ roomL).length c8 ((x ++ roomL).flatMap kFd.enc) :: rowF Bf ef (oF (rq 0 0 0 litOptions xa (w64 0) x)) :: rowF Bp ep (oP (rq 0 0 0 litOptions xa (w64 0) x)) :: rowF Aq cq (backL x xa.reverse) :: rowF Wf gf (oF (rq 0 0 0 litOptions xa (w64 0) x)) :: rowF Wp gp (oP (rq 0 0 0 litOptions xa (w64 0) x)) :: ts.map rowT)) (fun ⟨i, ts⟩ => 3 - i) (0, [⟨Af, (oF (rq 0 0 0 litOptions xa (w64 0) x)).length, cf, (oF (rq 0 0 0 litOptions xa (w64 0) x)).flatMap kFd.enc⟩, ⟨Ap, (oP (rq 0 0 0 litOptions xa (w64 0) x)).length, cp, (oP (rq 0 0 0 litOptions xa (w64 0) x)).flatMap kFd.enc⟩, ⟨Ao, (backL x xa.reverse).length, co, (backL x xa.reverse).flatMap kFd.enc⟩]) (⟨by omega, rfl, fun t ht => by simp only [List.drop_zero, List.mem_cons, List.not_mem_nil, or_false] at ht; rcases ht with rfl | rfl | rfl; exact (rq_fl 0 0 0 litOptions xa (w64 0) x); exact (rq_pl (new_okx hN hokl) (by rw [new_len hN]; exact hx) 0 0 0 litOptions (w64 0)).1; exact (backL_okP xa x 0 (new_okx hN hokl) (by rw [new_len hN]; exact hx)).okf.1, H⟩) ⟨rfl, rfl, rfl, rfl, rfl, rfl, rfl, rfl, rfl, rfl, rfl, trivial⟩ ?_)))))))
  rintro ⟨i, ts⟩ w1 ⟨hi, htl, htb, H⟩
  refine WC.seq (WC.reg (WL.v (Ev.lssN rfl rfl) rfl (WL.nil (WQ.tn (WC.seq (WC.cond rfl (fun h8 => ?_) (fun h8 => ?_)))))))
  · simp only [bsimp] at h8
    obtain ⟨pre, t, post, rfl, hpi⟩ := split_at (ts := ts) (i := i) (by omega)
    subst hpi
    obtain ⟨A9, n9, c9, vs9⟩ := t
    have hb9 : Sml n9 := htb (⟨A9, n9, c9, vs9⟩ : Tri) (by simp)
    have hb9l := hb9.le
    refine WC.skip (WQ.tn (WC.seq (WC.block (WC.seq ?_))))
    obtain ⟨bT, oT, hAT, _, hcT⟩ := (St.rdC kT H 0 rfl).at (j := pre.length) (by simp)
    cases hAT
    have hjT : (pre ++ (⟨A9, n9, c9, vs9⟩ : Tri) :: post)[pre.length]? = some (⟨A9, n9, c9, vs9⟩ : Tri) := by simp
    refine WC.reg (WL.v (Ev.move rfl) rfl (WL.v (Ev.idx Try.underlying56 sz32 rfl rfl (by omega)) rfl (WL.v (Ev.load fl32 rfl (hcT _ _ hjT 0 _ rfl)) rfl (WL.v (Ev.assign rfl) rfl (WL.v (Ev.assign rfl) rfl (WL.nil (WQ.tn (WC.seq (WC.seq ?_)))))))))
    replace H := H.perm (σ' := .row 54 2 A9 n9 c9 vs9 :: .row 32 1 (some ⟨b18, 0, none⟩) 3 3 ((pre ++ (⟨A9, n9, c9, vs9⟩ : Tri) :: post).flatMap kT.enc) :: .blk b16 [.bool (oStop (rq 0 0 0 litOptions xa (w64 0) x)), .int .i64 (oSt (rq 0 0 0 litOptions xa (w64 0) x)), .slice Wf (oF (rq 0 0 0 litOptions xa (w64 0) x)).length gf, str (oB (rq 0 0 0 litOptions xa (w64 0) x)), .slice Wp (oP (rq 0 0 0 litOptions xa (w64 0) x)).length gp] 42 (0, 0) :: .blk b12 [.bool (oStop (rq 0 0 0 litOptions xa (w64 0) x)), .int .i64 (oSt (rq 0 0 0 litOptions xa (w64 0) x)), .slice Bf (oF (rq 0 0 0 litOptions xa (w64 0) x)).length ef, str (oB (rq 0 0 0 litOptions xa (w64 0) x)), .slice Bp (oP (rq 0 0 0 litOptions xa (w64 0) x)).length ep] 38 (0, 0) :: .row 54 2 (some ⟨g8, 0, none⟩) (x ++ roomL).length c8 ((x ++ roomL).flatMap kFd.enc) :: rowF Bf ef (oF (rq 0 0 0 litOptions xa (w64 0) x)) :: rowF Bp ep (oP (rq 0 0 0 litOptions xa (w64 0) x)) :: rowF Aq cq (backL x xa.reverse) :: rowF Wf gf (oF (rq 0 0 0 litOptions xa (w64 0) x)) :: rowF Wp gp (oP (rq 0 0 0 litOptions xa (w64 0) x)) :: (pre.map rowT ++ post.map rowT)) (by classical (rw [List.perm_iff_count]; intro q; simp only [List.count_append, List.count_cons, List.count_nil, List.map_append, List.map_cons, List.map_nil, rowT]; omega))
    refine WC.reg (WL.v (Ev.move rfl) rfl (WL.v (Ev.lensl Try.underlying32 rfl) rfl (WL.v (Ev.move rfl) rfl (WL.nil (WQ.tn (WC.block (WC.loop (γ := Nat × List Value) (fun ⟨q, vs⟩ => [(0, .slice Al ls.length e1), (1, .slice A x.length c), (8, .slice (some ⟨g8, 0, none⟩) (x.length + 2) c8), (9, .slice (some ⟨g8, 0, none⟩) x.length c8), (12, .pointer (some ⟨b12, 0, none⟩)), (15, .slice Aq (backL x xa.reverse).length cq), (16, .pointer (some ⟨b16, 0, none⟩)), (18, .slice (some ⟨b18, 0, none⟩) 3 3), (19, .int .i64 (pre.length : Nat)), (20, .slice A9 n9 c9), (119, .slice (some ⟨b18, 0, none⟩) 3 3), (120, .int .i64 ((3 : Nat) : Int)), (121, .int .i64 (pre.length : Nat)), (127, .int .i64 (n9 : Nat)), (128, .int .i64 (q : Nat))]) (fun ⟨q, vs⟩ w1 => q ≤ n9 ∧ St w No w1 (.row 54 2 A9 n9 c9 vs :: .row 32 1 (some ⟨b18, 0, none⟩) 3 3 ((pre ++ (⟨A9, n9, c9, vs9⟩ : Tri) :: post).flatMap kT.enc) :: .blk b16 [.bool (oStop (rq 0 0 0 litOptions xa (w64 0) x)), .int .i64 (oSt (rq 0 0 0 litOptions xa (w64 0) x)), .slice Wf (oF (rq 0 0 0 litOptions xa (w64 0) x)).length gf, str (oB (rq 0 0 0 litOptions xa (w64 0) x)), .slice Wp (oP (rq 0 0 0 litOptions xa (w64 0) x)).length gp] 42 (0, 0) :: .blk b12 [.bool (oStop (rq 0 0 0 litOptions xa (w64 0) x)), .int .i64 (oSt (rq 0 0 0 litOptions xa (w64 0) x)), .slice Bf (oF (rq 0 0 0 litOptions xa (w64 0) x)).length ef, str (oB (rq 0 0 0 litOptions xa (w64 0) x)), .slice Bp (oP (rq 0 0 0 litOptions xa (w64 0) x)).length ep] 38 (0, 0) :: .row 54 2 (some ⟨g8, 0, none⟩) (x ++ roomL).length c8 ((x ++ roomL).flatMap kFd.enc) :: rowF Bf ef (oF (rq 0 0 0 litOptions xa (w64 0) x)) :: rowF Bp ep (oP (rq 0 0 0 litOptions xa (w64 0) x)) :: rowF Aq cq (backL x xa.reverse) :: rowF Wf gf (oF (rq 0 0 0 litOptions xa (w64 0) x)) :: rowF Wp gp (oP (rq 0 0 0 litOptions xa (w64 0) x)) :: (pre.map rowT ++ post.map rowT))) (fun ⟨q, vs⟩ => n9 - q) (0, vs9) (⟨Nat.zero_le _, H⟩) ⟨rfl, rfl, rfl, rfl, rfl, rfl, rfl, rfl, rfl, rfl, rfl, rfl, rfl, rfl, rfl, trivial⟩ ?_)))))))
    rintro ⟨q, vs⟩ w1 ⟨hq, H⟩
    refine WC.seq (WC.reg (WL.v (Ev.lssN rfl rfl) rfl (WL.nil (WQ.tn (WC.seq (WC.cond rfl (fun h10 => ?_) (fun h10 => ?_)))))))
    · simp only [bsimp] at h10
      obtain ⟨g9, rfl⟩ := H.rowAt 0 rfl (by omega)
      refine WC.skip (WQ.tn (WC.seq (WC.block (WC.seq (WC.reg (WL.v (Ev.move rfl) rfl (WL.v (Ev.assign rfl) rfl (WL.nil (WQ.tn (WC.reg (WL.v (Ev.move rfl) rfl (WL.v (Ev.move rfl) rfl (WL.v (Ev.build (vs := [_, _]) (ps := [(_, _)]) pl54 z54 rfl rfl) rfl (WL.v (Ev.idx Try.underlying32 sz54 rfl rfl (by omega)) rfl (WL.storeRow (i := 0) (j := q) (vs := [_, _]) rfl rfl rfl sz54 rfl rfl H rfl h10 fun w1 H L => (WL.nil (WQ.blk (WQ.tn (WC.reg (WL.v (Ev.addN (b := 1) rfl rfl (by omega)) rfl (WL.v (Ev.move rfl) rfl (WL.nil ?_))))))))))))))))))))))
      exact WQ.again ((q + 1, _)) (⟨by omega, H⟩) ⟨rfl, rfl, rfl, rfl, rfl, rfl, rfl, rfl, rfl, rfl, rfl, rfl, rfl, rfl, rfl, trivial⟩ (by first | omega | (dsimp only; omega))
    try simp only [bsimp] at h10
    refine WC.exit (WQ.tn_exit (WQ.loop_exit (WQ.blk_here rfl (WQ.tn (WC.reg (WL.v (Ev.move rfl) rfl (WL.v (Ev.move rfl) rfl (WL.v (Ev.move rfl) rfl (WL.v (Ev.build (vs := [_, _]) (ps := [(_, _)]) pl54 z54 rfl rfl) rfl (WL.v (Ev.build (vs := [_, _]) (ps := [(_, _)]) pl54 z54 rfl rfl) rfl (WL.buildSlice (vs := [_, _, _, _]) (ps := [(_, _), (_, _)]) Try.underlying32 sz54 z54 rfl (by omega) (by omega) rfl rfl H rfl fun bm w1 hbm H L => (WL.append (i := 1) (news := [_, _, _, _]) Try.underlying32 sz54 by54 z54 rfl (by omega) rfl rfl H rfl rfl (H.cells 0 rfl rfl) (by exact allOne_mem rfl) (by omega) (by unfold Sml at hb9; omega) rfl fun A1 c1 w1 H L LA LB => ?_))))))))))))
    replace H := H.tail
    refine WL.v (Ev.idx Try.underlying56 sz32 rfl rfl (by omega)) rfl (WL.storeRow (i := 1) (j := pre.length) (vs := [_]) rfl rfl rfl sz32 rfl rfl H rfl h8 fun w1 H L => (WL.nil (WQ.blk (WQ.tn (WC.reg (WL.v (Ev.addN (b := 1) rfl rfl (by omega)) rfl (WL.v (Ev.move rfl) rfl (WL.nil ?_))))))))
    replace H : St w No _ (.row 54 2 A1 (n9 + 2) c1 (vs ++ [str litMore, str [], str litMore, str []]) :: .row 32 1 (some ⟨b18, 0, none⟩) 3 3 (splice ((pre ++ (⟨A9, n9, c9, vs9⟩ : Tri) :: post).flatMap kT.enc) (pre.length * 1) [.slice A1 (n9 + 2) c1]) :: .blk b16 [.bool (oStop (rq 0 0 0 litOptions xa (w64 0) x)), .int .i64 (oSt (rq 0 0 0 litOptions xa (w64 0) x)), .slice Wf (oF (rq 0 0 0 litOptions xa (w64 0) x)).length gf, str (oB (rq 0 0 0 litOptions xa (w64 0) x)), .slice Wp (oP (rq 0 0 0 litOptions xa (w64 0) x)).length gp] 42 (0, 0) :: .blk b12 [.bool (oStop (rq 0 0 0 litOptions xa (w64 0) x)), .int .i64 (oSt (rq 0 0 0 litOptions xa (w64 0) x)), .slice Bf (oF (rq 0 0 0 litOptions xa (w64 0) x)).length ef, str (oB (rq 0 0 0 litOptions xa (w64 0) x)), .slice Bp (oP (rq 0 0 0 litOptions xa (w64 0) x)).length ep] 38 (0, 0) :: .row 54 2 (some ⟨g8, 0, none⟩) (x ++ roomL).length c8 ((x ++ roomL).flatMap kFd.enc) :: rowF Bf ef (oF (rq 0 0 0 litOptions xa (w64 0) x)) :: rowF Bp ep (oP (rq 0 0 0 litOptions xa (w64 0) x)) :: rowF Aq cq (backL x xa.reverse) :: rowF Wf gf (oF (rq 0 0 0 litOptions xa (w64 0) x)) :: rowF Wp gp (oP (rq 0 0 0 litOptions xa (w64 0) x)) :: (pre.map rowT ++ post.map rowT)) := H
    rw [splice_kT pre post (⟨A9, n9, c9, vs9⟩ : Tri) (⟨A1, n9 + 2, c1, vs ++ [str litMore, str [], str litMore, str []]⟩ : Tri)] at H
    replace H := H.perm (σ' := .row 32 1 (some ⟨b18, 0, none⟩) 3 3 ((pre ++ (⟨A1, n9 + 2, c1, vs ++ [str litMore, str [], str litMore, str []]⟩ : Tri) :: post).flatMap kT.enc) :: .blk b16 [.bool (oStop (rq 0 0 0 litOptions xa (w64 0) x)), .int .i64 (oSt (rq 0 0 0 litOptions xa (w64 0) x)), .slice Wf (oF (rq 0 0 0 litOptions xa (w64 0) x)).length gf, str (oB (rq 0 0 0 litOptions xa (w64 0) x)), .slice Wp (oP (rq 0 0 0 litOptions xa (w64 0) x)).length gp] 42 (0, 0) :: .blk b12 [.bool (oStop (rq 0 0 0 litOptions xa (w64 0) x)), .int .i64 (oSt (rq 0 0 0 litOptions xa (w64 0) x)), .slice Bf (oF (rq 0 0 0 litOptions xa (w64 0) x)).length ef, str (oB (rq 0 0 0 litOptions xa (w64 0) x)), .slice Bp (oP (rq 0 0 0 litOptions xa (w64 0) x)).length ep] 38 (0, 0) :: .row 54 2 (some ⟨g8, 0, none⟩) (x ++ roomL).length c8 ((x ++ roomL).flatMap kFd.enc) :: rowF Bf ef (oF (rq 0 0 0 litOptions xa (w64 0) x)) :: rowF Bp ep (oP (rq 0 0 0 litOptions xa (w64 0) x)) :: rowF Aq cq (backL x xa.reverse) :: rowF Wf gf (oF (rq 0 0 0 litOptions xa (w64 0) x)) :: rowF Wp gp (oP (rq 0 0 0 litOptions xa (w64 0) x)) :: (pre ++ (⟨A1, n9 + 2, c1, vs ++ [str litMore, str [], str litMore, str []]⟩ : Tri) :: post).map rowT) (by classical (rw [List.perm_iff_count]; intro q; simp only [List.count_append, List.count_cons, List.count_nil, List.map_append, List.map_cons, List.map_nil, rowT]; omega))
    exact WQ.again ((pre.length + 1, pre ++ (⟨A1, n9 + 2, c1, vs ++ [str litMore, str [], str litMore, str []]⟩ : Tri) :: post)) (⟨by omega, by simp at htl ⊢; omega, fun t ht => htb t (by simp at ht ⊢; exact .inr ht), H⟩) ⟨rfl, rfl, rfl, rfl, rfl, rfl, rfl, rfl, rfl, rfl, rfl, trivial⟩ (by first | omega | (dsimp only; omega))
  try simp only [bsimp] at h8
  refine WC.exit (WQ.tn_exit (WQ.loop_exit (WQ.blk_here rfl (WQ.tn (WC.seq (WC.reg (WL.v (Ev.loadA (vs := [_, _, _, _, _]) ag38 sz38 rfl (H.cells 2 rfl rfl)) rfl (WL.v (Ev.loadA (vs := [_, _, _, _, _]) ag42 sz42 rfl (H.cells 1 rfl rfl)) rfl (WL.callS (vs := [_, _]) rfl cl18 rfl H (lw_sameT _ _ _ _ _ _ _ _ _ _ _ _ _ _ _ _ _ (rq_fl 0 0 0 litOptions xa (w64 0) x) (rq_pl (new_okx hN hokl) (by rw [new_len hN]; exact hx) 0 0 0 litOptions (w64 0)).1 _ (St.rdC kFd H 4 rfl) (St.rdC kFd H 7 rfl) (St.rdC kFd H 5 rfl) (St.rdC kFd H 8 rfl)) fun w1 H L => (WL.v (Ev.move rfl) rfl (WL.g (Met.yes rfl rfl) (fun hg => Ev.move rfl) rfl (WL.g (Met.yes rfl rfl) (fun hg => Ev.move rfl) rfl (WL.settle ⟨_, _, rfl, rfl, rfl⟩ (WL.call (vs := [.slice Al ls.length e1, .int .i64 0]) rfl cl12 rfl (r6_New Al e1 ls _ hll 0 _ (RL.st H)) ?_))))))))))))))
  rintro _ w1 ⟨cs, Ac, cc, yb, rfl, hS, H1⟩
  have hcs := H1.cell 0 rfl (o := 0) rfl
  replace H := H.ext H1.gr
  have hbf : yb.map (·.f) = ls := by have := hS.1; rw [List.take_length] at this; exact this
  have hbl : yb.length = ls.length := by rw [← hbf, List.length_map]
  refine ⟨_, rfl, ?_⟩
  refine WL.g (Met.yes rfl rfl) (fun hg => Ev.move rfl) rfl (WL.settle ⟨_, _, rfl, rfl, rfl⟩ (WL.call (vs := [.pointer (some ⟨cs, 0, none⟩), .slice A x.length c]) rfl cl15 rfl (r6_Response cs Al e1 yb (newR_okx hS hokl) (by rw [hbl]; exact hll) _ A c x _ (by rw [hbl]; exact hx) _ hcs (by rw [hbf]; exact RL.st H) (RX.st H)) ?_))
  rintro _ w1 ⟨Au, cu, rfl, H1⟩
  replace H := H.app H1
  refine ⟨_, rfl, ?_⟩
  refine WL.gcallS (vs := [_, _]) (Met.yes rfl rfl) (fun hg => (evs_cons ((evG.un rfl).ev hg) (evs_cons rfl rfl))) cl13 rfl H (fun hg => ref07_Same Aq cq (backL x xa.reverse) _ Au cu (backL x yb.reverse) _ (backL_okP xa x 0 (new_okx hN hokl) (by rw [new_len hN]; exact hx)).okf.1 _ (St.rdC kFd H 7 rfl) (St.rdC kFd H 0 rfl)) fun w1 H L => (WL.v (Ev.and rfl rfl rfl) rfl (WL.v (Ev.move rfl) rfl (WL.g (Met.yes rfl rfl) (fun hg => Ev.move rfl) rfl (WL.g (Met.yes rfl rfl) (fun hg => Ev.move rfl) rfl (WL.gcallS (vs := [_, _]) (Met.yes rfl rfl) (fun hg => (evs_cons ((evG.un rfl).ev hg) (evs_cons ((evG.un rfl).ev hg) rfl))) cl13 rfl H (fun hg => by have q := ref07_Same (some ⟨g8, 0, none⟩) c8 x _ A c x _ hx.okf.1 _ (Rd.left (St.rdC kFd H 4 rfl)) (RX.st H); exact q) fun w1 H L => ?_)))))
  obtain ⟨b9, o9, hA9, _, hc9⟩ := (St.rdC kFd H 4 rfl).at (j := x.length) (by simp [roomL])
  cases hA9
  refine WL.v (Ev.and rfl rfl rfl) rfl (WL.v (Ev.move rfl) rfl (WL.g (Met.yes rfl rfl) (fun hg => Ev.move rfl) rfl (WL.g (Met.yes rfl rfl) (fun hg => Ev.move rfl) rfl (WL.g (Met.yes rfl rfl) (fun hg => Ev.lensl Try.underlying32 ((evG.un rfl).ev hg)) rfl (WL.g (Met.yes rfl rfl) (fun hg => Ev.idx Try.underlying32 sz54 ((evG.un rfl).ev hg) ((evG.un rfl).ev hg) (by omega)) rfl (WL.g (Met.yes rfl rfl) (fun hg => Ev.fieldAddr fa54_0 ((evG.un rfl).ev hg)) rfl (WL.g (Met.yes rfl rfl) (fun hg => Ev.load fl9 ((evG.un rfl).ev hg) (hc9 _ _ hj8 0 _ rfl)) rfl (WL.g (Met.yes rfl rfl) (fun hg => Ev.eqs ((evG.un rfl).ev hg) rfl) rfl (WL.v (Ev.and rfl rfl rfl) rfl (WL.v (Ev.assign rfl) rfl (WL.nil ?_)))))))))))
  refine WQ.tn (WC.ret (WQ.ret1 rfl rfl (⟨congrArg (fun b => Ending.returned (.bool b)) ?_, H.done⟩)))
  rw [backL_alq (new_alq hN hS hokl) x]
  simp [litSpare]
end Go.Proofs.Ytcmolgiccccnoaa
