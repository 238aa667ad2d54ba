/- The walks of functions: what each comes to. -/
import Derived.Test.YtcmolgiccccnoaaWv
import Derived.Test.YtcmolgiccccnoaaProg
set_option linter.unusedVariables false
set_option linter.unusedSimpArgs false
namespace Go.Proofs.Ytcmolgiccccnoaa
open Go.RowKit Go.BK
theorem cl19 : callB Try.prog 19 = true := by kernel_rfl
theorem cl43 : callB Try.prog 43 = true := by kernel_rfl
theorem cl31 : callB Try.prog 31 = true := by kernel_rfl
theorem elemsF_yes {xs : List Fld} {nm : Bs} {j : Nat} (h : j < xs.length) (ha : alike xs[j].1 nm = true) : elemsF (xs.take (j + 1)) nm = elemsF (xs.take j) nm ++ elements xs[j].2 := by
  unfold elemsF; rw [filter_yes h ha, List.flatMap_append]; simp
theorem elemsF_no {xs : List Fld} {nm : Bs} {j : Nat} (h : j < xs.length) (ha : alike xs[j].1 nm = false) : elemsF (xs.take (j + 1)) nm = elemsF (xs.take j) nm := by
  unfold elemsF; rw [filter_no h ha]
theorem elemsF_le (xs : List Fld) (nm : Bs) (j : Nat) : (elemsF (xs.take j) nm).length ≤ (elemsF xs nm).length := by
  have h : (elemsF (xs.take j ++ xs.drop j) nm).length = (elemsF xs nm).length := by rw [List.take_append_drop]
  unfold elemsF at *
  rw [List.filter_append, List.flatMap_append, List.length_append] at h
  omega
theorem trimL_le (s : Bs) : (trimL s).length ≤ s.length := by
  unfold trimL
  induction s with
  | nil => simp
  | cons c s ih =>
    rw [List.dropWhile_cons]
    split
    · simp only [List.length_cons]; omega
    · simp
theorem trim_le (s : Bs) : (trim s).length ≤ s.length := by
  unfold trim
  rw [List.length_reverse]
  have h1 := trimL_le (trimL s).reverse
  rw [List.length_reverse] at h1
  exact Nat.le_trans h1 (trimL_le s)
theorem splitC_le (sep : UInt8) : ∀ (s : Bs), ∀ p ∈ splitC sep s, p.length ≤ s.length
  | [], p, hp => by simp [splitC] at hp; simp [hp]
  | c :: s, p, hp => by
    have ih := splitC_le sep s
    unfold splitC at hp
    split at hp
    · rcases List.mem_cons.1 hp with rfl | hp
      · simp
      · have := ih p hp; simp only [List.length_cons]; omega
    · split at hp
      · obtain rfl := List.mem_singleton.1 hp; simp
      · rename_i q r hq
        rcases List.mem_cons.1 hp with rfl | hp
        · have := ih q (by rw [hq]; simp); simp only [List.length_cons]; omega
        · have := ih p (by rw [hq]; simp [hp]); simp only [List.length_cons]; omega
theorem elements_le {s e : Bs} (h : e ∈ elements s) : e.length ≤ s.length := by
  have h1 := (List.mem_filter.1 h).1
  obtain ⟨p, hp, rfl⟩ := List.mem_map.1 h1
  exact Nat.le_trans (trim_le p) (splitC_le 44 s p hp)
theorem elemsF_sml {xs : List Fld} (hx : Okf xs) {nm e : Bs} (h : e ∈ elemsF xs nm) : Sml e.length := by
  obtain ⟨f, hf, he⟩ := List.mem_flatMap.1 h
  exact (hx.2 f (List.mem_filter.1 hf).1).2.mono (elements_le he)
theorem ref07_Elements (A : Option Addr) (c : Nat) (xs : List Fld) (G : Nat → Prop) (hx : Okf xs) (nm : Bs) (hn : Sml nm.length) (hE : Sml (elemsF xs nm).length) (w : World) (R : Rd kFd G w A c xs) :
    Calls Try.prog 31 #[.slice A xs.length c, str nm] w fun e w' => ∃ A' c', e = .returned (.slice A' (elemsF xs nm).length c') ∧ St w No w' [.row 9 1 A' (elemsF xs nm).length c' ((elemsF xs nm).flatMap kStr.enc)] := by
  have hlen := hx.len
  have hE2 := hE.le
  refine calls_of Try.func31 rfl Try.ntmps31 (by rfl) (K0 := [(0, _), (1, _)]) ⟨rfl, rfl, trivial⟩ ?_
  have H := (St.init w).nilrow 9 1
  refine WC.seq (WC.reg (WL.v (Ev.assign rfl) rfl (WL.nil (WQ.tn (WC.seq (WC.reg (WL.v (Ev.assign rfl) rfl (WL.nil (WQ.tn (WC.seq (WC.seq (WC.reg (WL.v (Ev.assign rfl) rfl (WL.nil (WQ.tn (WC.block (WC.loop (γ := Nat × List Bs × Option Addr × Nat) (fun ⟨j, o, A2, c2⟩ => [(0, .slice A xs.length c), (1, str nm), (5, .slice A2 o.length c2), (6, .int .i64 (j : Nat))]) (fun ⟨j, o, A2, c2⟩ w1 => j ≤ xs.length ∧ o = elemsF (xs.take j) nm ∧ St w No w1 [.row 9 1 A2 o.length c2 (o.flatMap kStr.enc)]) (fun ⟨j, o, A2, c2⟩ => xs.length - j) (0, [], none, 0) (⟨Nat.zero_le _, rfl, H⟩) ⟨rfl, rfl, rfl, rfl, trivial⟩ ?_)))))))))))))))))
  rintro ⟨j, o, A2, c2⟩ w1 ⟨hj, ho, H⟩
  refine WC.seq (WC.seq (WC.reg (WL.v (Ev.move rfl) rfl (WL.v (Ev.move rfl) rfl (WL.v (Ev.lensl Try.underlying32 rfl) rfl (WL.v (Ev.lssN rfl rfl) rfl (WL.nil (WQ.tn (WC.cond rfl (fun h1 => ?_) (fun h1 => ?_))))))))))
  · simp only [bsimp] at h1
    obtain ⟨bk, off, rfl, hG, hc⟩ := R.at h1
    have hj1 := getx h1
    refine WC.skip (WQ.tn (WC.seq (WC.block (WC.seq (WC.reg (WL.v (Ev.move rfl) rfl (WL.v (Ev.move rfl) rfl (WL.v (Ev.idx Try.underlying32 sz54 rfl rfl (by omega)) rfl (WL.v (Ev.fieldAddr fa54_0 rfl) rfl (WL.v (Ev.load fl9 rfl (H.old (hc _ _ hj1 0 _ rfl))) rfl (WL.v (Ev.move rfl) rfl (WL.callS (vs := [_, _]) rfl cl30 rfl H (ref07_alike _ _ (hx.at hj1).1 hn _) fun w1 H L => (WL.nil (WQ.tn (WC.cond rfl (fun h2 => ?_) (fun h2 => ?_))))))))))))))))
    · try simp only [bsimp] at h2
      refine WC.seq (WC.reg (WL.v (Ev.move rfl) rfl (WL.v (Ev.move rfl) rfl (WL.v (Ev.idx Try.underlying32 sz54 rfl rfl (by omega)) rfl (WL.v (Ev.fieldAddr fa54_1 rfl) rfl (WL.v (Ev.load fl9 rfl (H.old (hc _ _ hj1 1 _ rfl))) rfl (WL.call (vs := [_]) rfl cl43 rfl (ref04_Elements _ (hx.at hj1).2 _) ?_)))))))
      rintro _ w1 ⟨Aq, cq, rfl, H1⟩
      replace H := H.app H1
      refine ⟨_, rfl, ?_⟩
      refine WL.v (Ev.assign rfl) rfl (WL.nil (WQ.tn (WC.reg (WL.v (Ev.move rfl) rfl (WL.v (Ev.move rfl) rfl (WL.appendRd (i := 1) (k := kStr) Try.underlying50 sz9 by9 z9 rfl rfl rfl ((H.rd kStr 0 rfl).1) H rfl (by omega) (by have := elemsF_le xs nm (j + 1); rw [elemsF_yes h1 h2, List.length_append, ← ho] at this; omega) rfl fun A1 c1 w1 H L => ?_))))))
      replace H := H.tail
      refine WL.v (Ev.assign rfl) rfl (WL.nil (WQ.blk (WQ.tn (WC.reg (WL.v (Ev.move rfl) rfl (WL.v (Ev.addN (b := 1) rfl rfl (by omega)) rfl (WL.v (Ev.assign rfl) rfl (WL.nil ?_))))))))
      exact WQ.again ((j + 1, o ++ elements xs[j].2, A1, c1)) (⟨by omega, by rw [ho, elemsF_yes h1 h2], by rw [List.length_append, List.flatMap_append]; exact H⟩) ⟨rfl, rfl, (by rw [List.length_append]; rfl), rfl, trivial⟩ (by first | omega | (dsimp only; omega))
    try simp only [bsimp] at h2
    refine WC.skip (WQ.blk (WQ.tn (WC.reg (WL.v (Ev.move rfl) rfl (WL.v (Ev.addN (b := 1) rfl rfl (by omega)) rfl (WL.v (Ev.assign rfl) rfl (WL.nil ?_)))))))
    exact WQ.again ((j + 1, o, A2, c2)) (⟨by omega, by rw [ho, elemsF_no h1 h2], H⟩) ⟨rfl, rfl, rfl, rfl, trivial⟩ (by first | omega | (dsimp only; omega))
  try simp only [bsimp] at h1
  refine WC.exit (WQ.tn_exit (WQ.loop_exit (WQ.blk_here rfl (WQ.tn (WC.seq (WC.reg (WL.v (Ev.move rfl) rfl (WL.v (Ev.assign rfl) rfl (WL.nil (WQ.tn (WC.ret (WQ.ret1 rfl rfl ?_))))))))))))
  obtain rfl : j = xs.length := by omega
  rw [List.take_length] at ho
  subst ho
  exact ⟨A2, c2, rfl, H⟩
theorem hasF_yes {xs : List Fld} {nm e : Bs} {j : Nat} (h : j < (elemsF xs nm).length) (ha : alike (elemsF xs nm)[j] e = true) : hasF xs nm e = true := List.any_eq_true.2 ⟨_, List.getElem_mem h, ha⟩
theorem ref07_Has (A : Option Addr) (c : Nat) (xs : List Fld) (G : Nat → Prop) (hx : Okf xs) (nm : Bs) (hn : Sml nm.length) (hE : Sml (elemsF xs nm).length) (e : Bs) (he : Sml e.length) (w : World) (R : Rd kFd G w A c xs) :
    Calls Try.prog 20 #[.slice A xs.length c, str nm, str e] w fun r w' => r = .returned (.bool (hasF xs nm e)) ∧ St w No w' [] := by
  have hlen := hx.len
  have hE2 := hE.le
  refine calls_of Try.func20 rfl Try.ntmps20 (by rfl) (K0 := [(0, _), (1, _), (2, _)]) ⟨rfl, rfl, rfl, trivial⟩ ?_
  have H := St.init w
  refine WC.seq (WC.reg (WL.v (Ev.assign rfl) rfl (WL.nil (WQ.tn (WC.seq (WC.reg (WL.v (Ev.move rfl) rfl (WL.v (Ev.move rfl) rfl (WL.call (vs := [_, _]) rfl cl31 rfl (ref07_Elements A c xs _ hx nm hn hE _ R) ?_)))))))))
  rintro _ w1 ⟨Aq, cq, rfl, H1⟩
  replace H := H.app H1
  refine ⟨_, rfl, ?_⟩
  refine WL.v (Ev.assign rfl) rfl (WL.nil (WQ.tn (WC.seq (WC.seq (WC.reg (WL.v (Ev.assign rfl) rfl (WL.nil (WQ.tn (WC.block (WC.loop (γ := Nat) (fun j => [(2, str e), (7, .slice Aq (elemsF xs nm).length cq), (8, .int .i64 (j : Nat))]) (fun j w1 => j ≤ (elemsF xs nm).length ∧ ((elemsF xs nm).take j).any (fun x => alike x e) = false ∧ St w No w1 [.row 9 1 Aq (elemsF xs nm).length cq ((elemsF xs nm).flatMap kStr.enc)]) (fun j => (elemsF xs nm).length - j) 0 (⟨Nat.zero_le _, rfl, H⟩) ⟨rfl, rfl, rfl, trivial⟩ ?_))))))))))
  rintro j w1 ⟨hj, ha, H⟩
  refine WC.seq (WC.seq (WC.reg (WL.v (Ev.move rfl) rfl (WL.v (Ev.move rfl) rfl (WL.v (Ev.lensl Try.underlying50 rfl) rfl (WL.v (Ev.lssN rfl rfl) rfl (WL.nil (WQ.tn (WC.cond rfl (fun h1 => ?_) (fun h1 => ?_))))))))))
  · simp only [bsimp] at h1
    obtain ⟨bk, off, rfl, hG, hc⟩ := (H.rd kStr 0 rfl).1.at h1
    have hj1 := getx h1
    refine WC.skip (WQ.tn (WC.seq (WC.block (WC.seq (WC.reg (WL.v (Ev.move rfl) rfl (WL.v (Ev.move rfl) rfl (WL.v (Ev.idx Try.underlying50 sz9 rfl rfl (by omega)) rfl (WL.v (Ev.load fl9 rfl (hc _ _ hj1 0 _ rfl)) rfl (WL.v (Ev.move rfl) rfl (WL.callS (vs := [_, _]) rfl cl30 rfl H (ref07_alike _ _ (elemsF_sml hx (List.getElem_mem h1)) he _) fun w1 H L => (WL.nil (WQ.tn (WC.cond rfl (fun h2 => ?_) (fun h2 => ?_)))))))))))))))
    · try simp only [bsimp] at h2
      refine WC.seq (WC.reg (WL.v (Ev.assign rfl) rfl (WL.nil (WQ.tn (WC.ret (WQ.blk_ret (WQ.tn_ret (WQ.loop_ret (WQ.blk_ret (WQ.tn_ret (WQ.ret1 rfl rfl ?_)))))))))))
      exact ⟨by rw [hasF_yes h1 h2], H.done⟩
    try simp only [bsimp] at h2
    refine WC.skip (WQ.blk (WQ.tn (WC.reg (WL.v (Ev.move rfl) rfl (WL.v (Ev.addN (b := 1) rfl rfl (by omega)) rfl (WL.v (Ev.assign rfl) rfl (WL.nil ?_)))))))
    exact WQ.again (j + 1) (⟨by omega, by rw [take_succ_get h1, List.any_append, ha]; simp [h2], H⟩) ⟨rfl, rfl, rfl, trivial⟩ (by first | omega | (dsimp only; omega))
  try simp only [bsimp] at h1
  refine WC.exit (WQ.tn_exit (WQ.loop_exit (WQ.blk_here rfl (WQ.tn (WC.seq (WC.reg (WL.v (Ev.assign rfl) rfl (WL.nil (WQ.tn (WC.ret (WQ.ret1 rfl rfl ?_)))))))))))
  obtain rfl : j = (elemsF xs nm).length := by omega
  rw [List.take_length] at ha
  exact ⟨by unfold hasF; rw [ha], H.done⟩
def joinS (xs : List Bs) : Bs := xs.flatMap fun x => 44 :: x
theorem joinS_succ {xs : List Bs} {j : Nat} (h : j < xs.length) : joinS (xs.take (j + 1)) = joinS (xs.take j) ++ ([44] ++ xs[j]) := by
  unfold joinS; rw [take_succ_get h, List.flatMap_append]; simp
theorem joinS_le (xs : List Bs) (j : Nat) : (joinS (xs.take j)).length ≤ (joinS xs).length := by
  have h : (joinS (xs.take j ++ xs.drop j)).length = (joinS xs).length := by rw [List.take_append_drop]
  unfold joinS at *
  rw [List.flatMap_append, List.length_append] at h
  omega
theorem lw_joined (A : Option Addr) (c : Nat) (xs : List Bs) (G : Nat → Prop) (hl : Sml xs.length) (hj : Sml (joinS xs).length) (w : World) (R : Rd kStr G w A c xs) :
    Calls Try.prog 21 #[.slice A xs.length c] w fun e w' => e = .returned (str (joinS xs)) ∧ St w No w' [] := by
  have hlen := hl.le
  have hjl := hj.le
  refine calls_of Try.func21 rfl Try.ntmps21 (by rfl) (K0 := [(0, _)]) ⟨rfl, trivial⟩ ?_
  have H := St.init w
  refine WC.seq (WC.reg (WL.v (Ev.assign rfl) rfl (WL.nil (WQ.tn (WC.seq (WC.reg (WL.v (Ev.assign rfl) rfl (WL.nil (WQ.tn (WC.seq (WC.seq (WC.reg (WL.v (Ev.move rfl) rfl (WL.v (Ev.lensl Try.underlying50 rfl) rfl (WL.v (Ev.move rfl) rfl (WL.nil (WQ.tn (WC.block (WC.loop (γ := Nat) (fun j => [(3, str (joinS (xs.take j))), (6, .slice A xs.length c), (7, .int .i64 (xs.length : Nat)), (8, .int .i64 (j : Nat))]) (fun j w1 => j ≤ xs.length ∧ St w No w1 []) (fun j => xs.length - j) 0 (⟨Nat.zero_le _, H⟩) ⟨rfl, rfl, rfl, rfl, trivial⟩ ?_)))))))))))))))))))
  rintro j w1 ⟨hj2, H⟩
  refine WC.seq (WC.reg (WL.v (Ev.lssN rfl rfl) rfl (WL.nil (WQ.tn (WC.seq (WC.cond rfl (fun h1 => ?_) (fun h1 => ?_)))))))
  · simp only [bsimp] at h1
    obtain ⟨bk, off, rfl, hG, hc⟩ := R.at h1
    have hj1 := getx h1
    have hb := joinS_le xs (j + 1)
    rw [joinS_succ h1] at hb
    simp only [List.length_append] at hb
    refine WC.skip (WQ.tn (WC.seq (WC.block (WC.seq (WC.reg (WL.v (Ev.idx Try.underlying50 sz9 rfl rfl (by omega)) rfl (WL.v (Ev.load fl9 rfl (H.old (hc _ _ hj1 0 _ rfl))) rfl (WL.v (Ev.assign rfl) rfl (WL.nil (WQ.tn (WC.reg (WL.v (Ev.move rfl) rfl (WL.v (Ev.move rfl) rfl (WL.v (Ev.cat rfl rfl (by unfold I64; simp only [List.length_append, List.length_cons, List.length_nil] at hb ⊢; omega)) rfl (WL.v (Ev.cat rfl rfl (by unfold I64; simp only [List.length_append, List.length_cons, List.length_nil] at hb ⊢; omega)) rfl (WL.v (Ev.assign rfl) rfl (WL.nil (WQ.blk (WQ.tn (WC.reg (WL.v (Ev.addN (b := 1) rfl rfl (by omega)) rfl (WL.v (Ev.move rfl) rfl (WL.nil ?_)))))))))))))))))))))))
    exact WQ.again (j + 1) (⟨by omega, H⟩) ⟨(by rw [joinS_succ h1]; rfl), rfl, rfl, rfl, trivial⟩ (by first | omega | (dsimp only; omega))
  try simp only [bsimp] at h1
  refine WC.exit (WQ.tn_exit (WQ.loop_exit (WQ.blk_here rfl (WQ.tn (WC.seq (WC.reg (WL.v (Ev.move rfl) rfl (WL.v (Ev.assign rfl) rfl (WL.nil (WQ.tn (WC.ret (WQ.ret1 rfl rfl ?_))))))))))))
  obtain rfl : j = xs.length := by omega
  rw [List.take_length]
  exact ⟨rfl, H⟩
end Go.Proofs.Ytcmolgiccccnoaa
