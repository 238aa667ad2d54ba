/- The walks of functions: what each comes to. -/
import Derived.Test.YtcmolgiccccnoaaWa
import Derived.Test.YtcmolgiccccnoaaProg
set_option linter.unusedVariables false
set_option linter.unusedSimpArgs false
namespace Go.Proofs.Ytcmolgiccccnoaa
open Go.RowKit Go.BK
theorem cl9 : callB Try.prog 9 = true := by kernel_rfl
theorem lim_ok {n m k : Int} (h : goodB n m k) : okFl ⟨3, [], [], n, m, k⟩ := ⟨by show (1 : Int) ≤ 3; decide, by show (3 : Int) ≤ 8; decide, by unfold Sml; exact Nat.zero_le _, by unfold Sml; exact Nat.zero_le _, fun _ => h⟩
def bt (n m k t f s : Int) : Bst := ⟨n, m, k, t, f, s⟩
theorem lim_xs {n m k : Int} {xs : List Fx} (h : NewOk [⟨3, [], [], n, m, k⟩] 1 xs) : ∃ p, xs = [⟨⟨3, [], [], n, m, k⟩, p, newB n m k 0⟩] := by
  obtain ⟨h1, h2⟩ := h
  match xs, h1, h2 with
  | [⟨f1, b1, s1⟩], h1, h2 =>
    simp at h1
    subst h1
    have e1 := h2 _ (List.mem_cons_self ..)
    simp only at e1
    subst e1
    exact ⟨b1, rfl⟩
  | [], h1, _ => simp at h1
  | _ :: _ :: _, h1, _ => simp at h1
theorem lim_run (n m k now : Int) (p : Nat) (b : Bst) (s : Int) : runF now 0 litGET [⟨⟨3, [], [], n, m, k⟩, p, b⟩] s [] =
    (if (takeR b now 1).1 = true then ([⟨⟨3, [], [], n, m, k⟩, p, (takeR b now 1).2.2⟩], s, none, []) else ([⟨⟨3, [], [], n, m, k⟩, p, (takeR b now 1).2.2⟩], s, some (429, [], litSlow), [])) := by
  have e : oneF ⟨⟨3, [], [], n, m, k⟩, p, b⟩ s now 0 litGET [] = (⟨⟨3, [], [], n, m, k⟩, p, (takeR b now 1).2.2⟩, s, if (takeR b now 1).1 = true then none else some (429, [], litSlow), []) := rfl
  by_cases h : (takeR b now 1).1 = true
  · rw [if_pos h]
    rw [if_pos h] at e
    rw [runF_none (by rw [e]), e]
    rfl
  · rw [if_neg h]
    rw [if_neg h] at e
    rw [runF_some (t := (429, [], litSlow)) (by rw [e]), e]
theorem rate_req {w w' : World} {base : Held} {c d : Nat} {A : Option Addr} {cap p : Nat} {seen s dr now n m k : Int} {b : Bst} {e : Ending} (h : ReqP w w' base c d A cap seen s dr now 0 litGET [⟨⟨3, [], [], n, m, k⟩, p, b⟩] [] e) (hin : inS seen now) :
    ∃ bs stv Af nf cf bd A' n' c' dr', e = .returned (.tuple #[.agg #[.bool bs, .int .i64 stv, .slice Af nf cf, str bd, .slice A' n' c'], .int .i64 0]) ∧ bs = !(takeR b now 1).1 ∧ (bs = true → stv = 429) ∧ St w (Bk base) w' (chS c d A cap now s dr' [⟨⟨3, [], [], n, m, k⟩, p, (takeR b now 1).2.2⟩]) := by
  have hr := lim_run n m k now p b s
  by_cases ht : (takeR b now 1).1 = true
  · rw [if_pos ht] at hr
    obtain ⟨dr', A', c', h1, h2⟩ := h.go hin hr
    exact ⟨_, _, _, _, _, _, _, _, _, dr', h1, by rw [ht]; rfl, (fun h => by cases h), h2.tail⟩
  · rw [if_neg ht] at hr
    obtain ⟨dr', Af, cf, h1, h2⟩ := h.stop hin hr
    exact ⟨_, _, _, _, _, _, _, _, _, dr', h1, by cases hh : (takeR b now 1).1 with | true => exact absurd hh ht | false => rfl, (fun _ => rfl), h2.tail⟩
theorem reckB_now {n m k t now : Int} (hk : 1 ≤ k) (hm : 1 ≤ m) (ht : t ≤ n) (h2 : now ≤ 1099511627776) : reckB (bt n m k t now now) now = bt n m k t now now := by
  have hin : inT (bt n m k t now now) now := ⟨Int.le_refl _, h2⟩
  have h9 := (div_mul_nn (a := n - t) (b := m) (by omega) (by omega)).1
  rw [reckB, if_pos hin]
  simp only [reck, bt, Int.sub_self, Int.zero_ediv, Int.zero_mul, Int.add_zero]
  rw [if_neg (by omega)]
theorem take_yes {b : Bst} {n m k t now : Int} (hin : inT b now) (h : reckB b now = bt n m k t now now) (ht : 1 ≤ t) : takeR b now 1 = (true, 0, bt n m k (t - 1) now now) := by
  have he : reckE b now = 0 := by rw [reckE, if_pos hin]
  unfold takeR
  rw [he, h, if_neg (by omega), if_pos ⟨by omega, ht⟩]
  rfl
theorem take_no {b : Bst} {n m k now f s : Int} (hin : inT b now) (h : reckB b now = bt n m k 0 f s) : takeR b now 1 = (false, 0, bt n m k 0 f s) := by
  have he : reckE b now = 0 := by rw [reckE, if_pos hin]
  unfold takeR
  rw [he, h, if_neg (by omega), if_neg (by intro hh; have := hh.2; simp only [bt] at this; omega)]
theorem reckB_late {n m k now : Int} (hn : 0 ≤ n) (hk : 1 ≤ k) (hm : 1 ≤ m) (h2 : now + k - 1 ≤ 1099511627776) : reckB (bt n m k 0 now now) (now + k - 1) = bt n m k 0 now (now + k - 1) := by
  have hin : inT (bt n m k 0 now now) (now + k - 1) := ⟨by simp only [bt]; omega, h2⟩
  have e0 : (now + k - 1 - now) / k = 0 := Int.ediv_eq_zero_of_lt (by omega) (by omega)
  have h9 := (div_mul_nn (a := n - 0) (b := m) (by omega) (by omega)).1
  rw [reckB, if_pos hin]
  simp only [reck, bt, e0, Int.zero_mul, Int.add_zero]
  rw [if_neg (by omega)]
theorem reckB_next {n m k now : Int} (hn : 1 ≤ n) (hk : 1 ≤ k) (hm : 1 ≤ m) (h2 : now + k ≤ 1099511627776) : reckB (bt n m k 0 now (now + k - 1)) (now + k) = bt n m k (min n m) (now + k) (now + k) := by
  have hin : inT (bt n m k 0 now (now + k - 1)) (now + k) := ⟨by simp only [bt]; omega, h2⟩
  have e0 : (now + k - now) / k = 1 := by rw [show now + k - now = k by omega]; exact Int.ediv_self (by omega)
  rw [reckB, if_pos hin]
  simp only [reck, bt, e0, Int.one_mul, Int.sub_zero, Int.zero_add]
  congr 1
  by_cases h : n < m
  · rw [if_pos (by rw [Int.ediv_eq_zero_of_lt (by omega) h]; omega)]; omega
  · have h1 : 1 * m ≤ n := by omega
    have := (Int.le_ediv_iff_mul_le (show 0 < m by omega)).2 h1
    rw [if_neg (by omega)]; omega
def mostR (n m r : Int) : Int := if 0 < r then min n m else n
def tkR (mo i : Int) : Int := if i ≤ mo then mo - i else 0
/-- The bucket in a round r, behind i calls. -/
def RtI (n m k r i : Int) (b : Bst) : Prop := b.ok ∧ inT b (r * k) ∧ reckB b (r * k) = bt n m k (tkR (mostR n m r) i) (r * k) (r * k)
theorem rk_le {r k : Int} (h0 : 0 ≤ r) (h1 : r ≤ 20) (h2 : 1 ≤ k) (h3 : k ≤ 1000) : 0 ≤ r * k ∧ r * k ≤ 20000 :=
  ⟨Int.mul_nonneg h0 (by omega), Int.le_trans (Int.mul_le_mul h1 h3 (by omega) (by omega)) (by omega)⟩
theorem rt_take {n m k r i : Int} {b : Bst} (hn : 1 ≤ n) (hm : 1 ≤ m) (hk : 1 ≤ k) (hk2 : k ≤ 1000) (hr : 0 ≤ r) (hr2 : r ≤ 20) (hi : 0 ≤ i) (h : RtI n m k r i b) (him : i ≤ mostR n m r) : (takeR b (r * k) 1).1 = !decide (i = mostR n m r) ∧ RtI n m k r (i + 1) (takeR b (r * k) 1).2.2 := by
  obtain ⟨hok, h2, h3⟩ := h
  have hrk := rk_le hr hr2 hk hk2
  have hmo : mostR n m r ≤ n := by unfold mostR; split <;> omega
  have hok2 := takeR_ok hok (r * k) 1
  have e1 : tkR (mostR n m r) i = mostR n m r - i := if_pos him
  rw [e1] at h3
  by_cases hq : i = mostR n m r
  · rw [show mostR n m r - i = 0 by omega] at h3
    rw [take_no h2 h3] at hok2 ⊢
    refine ⟨by simp [hq], hok2, ⟨by simp only [bt]; omega, by omega⟩, ?_⟩
    have e2 : tkR (mostR n m r) (i + 1) = 0 := if_neg (by omega)
    rw [e2]
    exact reckB_now hk hm (by omega) (by omega)
  · rw [take_yes h2 h3 (by omega)] at hok2 ⊢
    refine ⟨by simp [hq], hok2, ⟨by simp only [bt]; omega, by omega⟩, ?_⟩
    have e2 : tkR (mostR n m r) (i + 1) = mostR n m r - i - 1 := by rw [tkR, if_pos (by omega)]; omega
    rw [e2]
    exact reckB_now hk hm (by omega) (by omega)
theorem rt_late {n m k r i : Int} {b : Bst} (hn : 1 ≤ n) (hm : 1 ≤ m) (hk : 1 ≤ k) (hk2 : k ≤ 1000) (hr : 0 ≤ r) (hr2 : r ≤ 20) (hi : 0 ≤ i) (h : RtI n m k r (mostR n m r + 1) b) (hs : b = bt n m k 0 (r * k) (r * k)) : (takeR b (r * k + k - 1) 1).1 = false ∧ RtI n m k (r + 1) 0 (takeR b (r * k + k - 1) 1).2.2 ∧ inT b (r * k + k - 1) := by
  have hrk := rk_le hr hr2 hk hk2
  have hok2 := takeR_ok h.1 (r * k + k - 1) 1
  subst hs
  have hin : inT (bt n m k 0 (r * k) (r * k)) (r * k + k - 1) := ⟨by simp only [bt]; omega, by omega⟩
  rw [take_no hin (reckB_late (by omega) hk hm (by omega))] at hok2 ⊢
  refine ⟨rfl, ⟨hok2, ?_, ?_⟩, hin⟩
  · rw [Int.add_mul, Int.one_mul]
    exact ⟨by simp only [bt]; omega, by omega⟩
  · rw [Int.add_mul, Int.one_mul, reckB_next hn hk hm (by omega)]
    rw [tkR, mostR, if_pos (by omega), if_pos (by omega), Int.sub_zero]
theorem rt_zero {n m k : Int} (hn : 1 ≤ n) (hm : 1 ≤ m) (hk : 1 ≤ k) (hg : goodB n m k) : RtI n m k 0 0 (newB n m k 0) := by
  refine ⟨newB_ok hg, ⟨by simp [newB], by omega⟩, ?_⟩
  have e0 : mostR n m 0 = n := if_neg (by omega)
  rw [Int.zero_mul, e0, tkR, if_pos (by omega), Int.sub_zero]
  exact reckB_now hk hm (by omega) (by omega)
/-- Behind the last call of a round the bucket is empty. -/
theorem rt_end {n m k r : Int} {b : Bst} (h : RtI n m k r (mostR n m r) b) : (takeR b (r * k) 1).2.2 = bt n m k 0 (r * k) (r * k) := by
  obtain ⟨hok, h2, h3⟩ := h
  rw [tkR, if_pos (Int.le_refl _), Int.sub_self] at h3
  rw [take_no h2 h3]
set_option maxRecDepth 20000 in
set_option maxHeartbeats 1000000 in
theorem lw_Rate (n m k rounds : Int) (w : World) :
    Calls Try.prog 7 #[.int .i64 n, .int .i64 m, .int .i64 k, .int .i64 rounds] w fun e w' => e = .returned (.bool true) ∧ St w No w' [] := by
  refine calls_of Try.func7 rfl Try.ntmps7 (by rfl) (K0 := [(0, _), (1, _), (2, _), (3, _)]) ⟨rfl, rfl, rfl, rfl, trivial⟩ ?_
  have H := St.init w
  refine WC.seq (WC.reg (WL.v (Ev.assign rfl) rfl (WL.nil (WQ.tn (WC.seq (WC.seq (WC.reg (WL.callS (vs := []) rfl cl9 rfl H (lw_anchor _) fun w1 H L => (WL.v (Ev.not rfl) rfl (WL.nil (WQ.tn (WC.cond rfl (fun h0 => ?_) (fun h0 => ?_)))))))))))))
  · exact absurd h0 (by simp)
  try simp only [bsimp] at h0
  refine WC.skip (WQ.tn (WC.seq (WC.seq (WC.reg (WL.v (Ev.move rfl) rfl (WL.v (Ev.lss rfl rfl) rfl (WL.v (Ev.move rfl) rfl (WL.g (Met.no rfl rfl) (fun hg => Ev.move rfl) rfl (WL.g (Met.no rfl rfl) (fun hg => Ev.gtr ((evG.un rfl).ev hg) rfl) rfl (WL.v (Ev.or rfl rfl rfl) rfl (WL.v (Ev.move rfl) rfl (WL.g (Met.no rfl rfl) (fun hg => Ev.move rfl) rfl (WL.g (Met.no rfl rfl) (fun hg => Ev.lss ((evG.un rfl).ev hg) rfl) rfl (WL.v (Ev.or rfl rfl rfl) rfl (WL.v (Ev.move rfl) rfl (WL.g (Met.no rfl rfl) (fun hg => Ev.move rfl) rfl (WL.g (Met.no rfl rfl) (fun hg => Ev.gtr ((evG.un rfl).ev hg) rfl) rfl (WL.v (Ev.or rfl rfl rfl) rfl (WL.v (Ev.move rfl) rfl (WL.g (Met.no rfl rfl) (fun hg => Ev.move rfl) rfl (WL.g (Met.no rfl rfl) (fun hg => Ev.lss ((evG.un rfl).ev hg) rfl) rfl (WL.v (Ev.or rfl rfl rfl) rfl (WL.v (Ev.move rfl) rfl (WL.g (Met.no rfl rfl) (fun hg => Ev.move rfl) rfl (WL.g (Met.no rfl rfl) (fun hg => Ev.gtr ((evG.un rfl).ev hg) rfl) rfl (WL.v (Ev.or rfl rfl rfl) rfl (WL.v (Ev.move rfl) rfl (WL.g (Met.no rfl rfl) (fun hg => Ev.move rfl) rfl (WL.g (Met.no rfl rfl) (fun hg => Ev.lss ((evG.un rfl).ev hg) rfl) rfl (WL.v (Ev.or rfl rfl rfl) rfl (WL.v (Ev.move rfl) rfl (WL.g (Met.no rfl rfl) (fun hg => Ev.move rfl) rfl (WL.g (Met.no rfl rfl) (fun hg => Ev.gtr ((evG.un rfl).ev hg) rfl) rfl (WL.v (Ev.or rfl rfl rfl) rfl (WL.nil ?_)))))))))))))))))))))))))))))))))))
  refine WQ.tn (WC.cond rfl (fun h1 => ?_) (fun h1 => ?_))
  · try simp only [bsimp] at h1
    refine WC.seq (WC.reg (WL.v (Ev.assign rfl) rfl (WL.nil (WQ.tn (WC.ret (WQ.tn_ret (WQ.ret1 rfl rfl ?_)))))))
    exact ⟨rfl, H⟩
  simp only [bsimp] at h1
  have hn1 : 1 ≤ n := by omega
  have hm1 : 1 ≤ m := by omega
  have hk1 : 1 ≤ k := by omega
  have hk2 : k ≤ 1000 := by omega
  have hg : goodB n m k := ⟨⟨by omega, by omega⟩, ⟨by omega, by omega⟩, ⟨by omega, by omega⟩⟩
  refine WC.skip (WQ.tn (WC.seq (WC.reg (WL.v (Ev.move rfl) rfl (WL.v (Ev.move rfl) rfl (WL.v (Ev.move rfl) rfl (WL.v (Ev.build (vs := [_, _, _, _, _, _]) (ps := [(_, _), (_, _), (_, _), (_, _)]) pl29 z29 rfl rfl) rfl (WL.buildSlice (vs := [_, _, _, _, _, _]) (ps := [(_, _)]) Try.underlying22 sz29 z29 rfl (by omega) (by omega) rfl rfl H rfl fun b1 w1 hb1 H L => (WL.call (vs := [_, _]) rfl cl11 rfl (fl_New (some ⟨b1, 0, none⟩) 1 [⟨3, [], [], n, m, k⟩] _ (by unfold Sml; simp) (fun f hf => by obtain rfl := List.mem_singleton.1 hf; exact lim_ok hg) 0 _ (H.rdB kFl 0 rfl [⟨3, [], [], n, m, k⟩] ⟨[], rfl⟩ (by simp))) ?_)))))))))
  rintro _ w1 ⟨c, d, A, cap, xs, rfl, hN, H1⟩
  obtain ⟨p, rfl⟩ := lim_xs hN
  replace H := (H.app H1).sub (List.sublist_append_left _ _)
  refine ⟨_, rfl, ?_⟩
  refine WL.v (Ev.assign rfl) rfl (WL.nil (WQ.tn (WC.seq (WC.seq (WC.reg (WL.v (Ev.move rfl) rfl (WL.v (Ev.eqnil Try.underlying26 rfl rfl) rfl (WL.nil (WQ.tn (WC.cond rfl (fun h2 => ?_) (fun h2 => ?_)))))))))))
  · exact absurd h2 (by simp)
  try simp only [bsimp] at h2
  refine WC.skip (WQ.tn (WC.seq (WC.seq (WC.reg (WL.v (Ev.assign rfl) rfl (WL.nil (WQ.tn (WC.block (WC.loop (γ := Int × Bst × Int × Int) (fun ⟨r, b, seen, dr⟩ => [(0, .int .i64 n), (1, .int .i64 m), (2, .int .i64 k), (3, .int .i64 rounds), (9, .pointer (some ⟨c, 0, none⟩)), (10, .int .i64 r)]) (fun ⟨r, b, seen, dr⟩ w1 => 0 ≤ r ∧ r ≤ rounds + 1 ∧ RtI n m k r 0 b ∧ (r ≤ rounds → inS seen (r * k)) ∧ St w No w1 (chS c d A cap seen (w64 0) dr [⟨⟨3, [], [], n, m, k⟩, p, b⟩])) (fun ⟨r, b, seen, dr⟩ => (rounds + 1 - r).toNat) (0, newB n m k 0, 0, 0) (⟨by omega, by omega, rt_zero hn1 hm1 hk1 hg, fun _ => ⟨by omega, by omega⟩, H⟩) ⟨rfl, rfl, rfl, rfl, rfl, rfl, trivial⟩ ?_)))))))))
  rintro ⟨r, b, seen, dr⟩ w1 ⟨hr, hr1, hb, hsn, H⟩
  refine WC.seq (WC.seq (WC.reg (WL.v (Ev.move rfl) rfl (WL.v (Ev.move rfl) rfl (WL.v (Ev.leq rfl rfl) rfl (WL.nil (WQ.tn (WC.cond rfl (fun h4 => ?_) (fun h4 => ?_)))))))))
  · simp only [bsimp] at h4
    have hr2 : r ≤ 20 := by omega
    have hrk := rk_le hr hr2 hk1 hk2
    refine WC.skip (WQ.tn (WC.seq (WC.block (WC.seq (WC.reg (WL.v (Ev.move rfl) rfl (WL.v (Ev.assign rfl) rfl (WL.nil (WQ.tn (WC.cut (γ := Unit) (fun _ => [(0, .int .i64 n), (1, .int .i64 m), (2, .int .i64 k), (3, .int .i64 rounds), (9, .pointer (some ⟨c, 0, none⟩)), (10, .int .i64 r), (11, .int .i64 (mostR n m r))]) (fun _ w1 => St w No w1 (chS c d A cap seen (w64 0) dr [⟨⟨3, [], [], n, m, k⟩, p, b⟩])) ?_ ?_))))))))))
    · refine WC.seq (WC.reg (WL.v (Ev.move rfl) rfl (WL.v (Ev.gtr rfl rfl) rfl (WL.nil (WQ.tn (WC.cond rfl (fun h5 => ?_) (fun h5 => ?_)))))))
      · try simp only [bsimp] at h5
        refine WC.reg (WL.v (Ev.move rfl) rfl (WL.v (Ev.move rfl) rfl (WL.v (Ev.min2 rfl rfl) rfl (WL.v (Ev.assign rfl) rfl (WL.nil ?_)))))
        exact WQ.meet (()) (H) ⟨rfl, rfl, rfl, rfl, rfl, rfl, (by rw [mostR, if_pos h5]; rfl), trivial⟩
      try simp only [bsimp] at h5
      refine WC.skip ?_
      exact WQ.meet (()) (H) ⟨rfl, rfl, rfl, rfl, rfl, rfl, (by rw [mostR, if_neg (by omega)]; rfl), trivial⟩
    · rintro _ w1 H
      refine WC.seq (WC.seq (WC.reg (WL.v (Ev.assign rfl) rfl (WL.nil (WQ.tn (WC.block ?_))))))
      replace hsn := hsn h4
      have hmo : 0 ≤ mostR n m r := by unfold mostR; split <;> omega
      have hmo2 : mostR n m r ≤ 50 := by unfold mostR; split <;> omega
      refine WC.loop (γ := Int × Bst × Int × Int) (fun ⟨i, b, seen, dr⟩ => [(0, .int .i64 n), (1, .int .i64 m), (2, .int .i64 k), (3, .int .i64 rounds), (9, .pointer (some ⟨c, 0, none⟩)), (10, .int .i64 r), (11, .int .i64 (mostR n m r)), (12, .int .i64 i)]) (fun ⟨i, b, seen, dr⟩ w1 => 0 ≤ i ∧ i ≤ mostR n m r + 1 ∧ RtI n m k r i b ∧ (i = mostR n m r + 1 → b = bt n m k 0 (r * k) (r * k)) ∧ inS seen (r * k) ∧ St w No w1 (chS c d A cap seen (w64 0) dr [⟨⟨3, [], [], n, m, k⟩, p, b⟩])) (fun ⟨i, b, seen, dr⟩ => (mostR n m r + 1 - i).toNat) (0, b, seen, dr) (⟨by omega, by omega, hb, fun hh => by omega, hsn, H⟩) ⟨rfl, rfl, rfl, rfl, rfl, rfl, rfl, rfl, trivial⟩ ?_
      rintro ⟨i, b, seen, dr⟩ w1 ⟨hi, hi1, hb, hbe, hsn, H⟩
      refine WC.seq (WC.seq (WC.reg (WL.v (Ev.move rfl) rfl (WL.v (Ev.move rfl) rfl (WL.v (Ev.leq rfl rfl) rfl (WL.nil (WQ.tn (WC.cond rfl (fun h7 => ?_) (fun h7 => ?_)))))))))
      · simp only [bsimp] at h7
        have htk := rt_take hn1 hm1 hk1 hk2 hr hr2 hi hb h7
        refine WC.skip (WQ.tn (WC.seq (WC.block (WC.seq (WC.reg (WL.v (Ev.move rfl) rfl (WL.v (Ev.move rfl) rfl (WL.v (Ev.move rfl) rfl (WL.v (Ev.mul rfl rfl (by unfold I64; omega)) rfl (WL.call (vs := [_, _, _, _, _]) rfl cl16 rfl (fl_Request c d A cap seen (w64 0) dr [⟨⟨3, [], [], n, m, k⟩, p, b⟩] (fun x hx => by obtain rfl := List.mem_singleton.1 hx; exact ⟨lim_ok hg, fun _ => hb.1⟩) (by unfold Sml; simp) (r * k) 0 (by unfold I64; omega) litGET none 0 [] No (ok_nil _ (by unfold Sml; simp)) _ (Rd.nil _ _ _ _ _) (no_Bk _) H.local) ?_))))))))))
        rintro _ w1 hp
        obtain ⟨bs, stv, Af, nf, cf, bd, A2, n2, c2, dr2, rfl, hbs, hst, H1⟩ := rate_req hp hsn
        replace H := H.join H1
        refine ⟨_, rfl, ?_⟩
        refine WL.v (Ev.move rfl) rfl (WL.v (Ev.extract rfl rfl) rfl (WL.v (Ev.extract rfl rfl) rfl (WL.alloc z38 rfl H rfl fun b2 w1 hb2 H L => (WL.store (i := 0) (vs := [_, _, _, _, _]) rfl rfl rfl sz38 rfl H rfl rfl fun w1 H L => (WL.v (Ev.assign rfl) rfl (WL.nil (WQ.tn (WC.seq (WC.reg (WL.v (Ev.move rfl) rfl (WL.v (Ev.nei rfl rfl) rfl (WL.v (Ev.move rfl) rfl (WL.g (Met.no rfl rfl) (fun hg => Ev.fieldAddr fa38_0 rfl) rfl (WL.g (Met.no rfl rfl) (fun hg => Ev.load fl4 ((evG.un rfl).ev hg) (H.cell 0 rfl rfl)) rfl (WL.g (Met.no rfl rfl) (fun hg => Ev.move rfl) rfl (WL.g (Met.no rfl rfl) (fun hg => Ev.move rfl) rfl (WL.g (Met.no rfl rfl) (fun hg => Ev.eqi ((evG.un rfl).ev hg) ((evG.un rfl).ev hg)) rfl (WL.g (Met.no rfl rfl) (fun hg => Ev.neb Try.underlying4 ((evG.un rfl).ev hg) ((evG.un rfl).ev hg)) rfl (WL.v (Ev.or rfl rfl rfl) rfl (WL.v (Ev.move rfl) rfl (WL.g (Met.no rfl rfl) (fun hg => Ev.fieldAddr fa38_0 rfl) rfl (WL.g (Met.no rfl rfl) (fun hg => Ev.load fl4 ((evG.un rfl).ev hg) (H.cell 0 rfl rfl)) rfl (WL.g (Met.no rfl rfl) (fun hg => Ev.move ((evG.un rfl).ev hg)) rfl (WL.g (Met.gyes rfl rfl) (fun hg => Ev.fieldAddr fa38_1 rfl) rfl (WL.g (Met.gyes rfl rfl) (fun hg => Ev.load fl3 ((evG.un rfl).ev hg) (H.cell 0 rfl rfl)) rfl (WL.g (Met.gyes rfl rfl) (fun hg => Ev.nei ((evG.un rfl).ev hg) rfl) rfl (WL.g (Met.no rfl rfl) (fun hg => Ev.and ((evG.un rfl).ev hg) ((evG.nest rfl).ev hg) rfl) rfl (WL.v (Ev.or rfl rfl rfl) rfl (WL.nil ?_)))))))))))))))))))))))))))))
        refine WQ.tn (WC.cond rfl (fun h8 => ?_) (fun h8 => ?_))
        · exfalso
          rw [htk.1] at hbs
          simp only [Bool.not_not] at hbs
          subst hbs
          by_cases hq : i = mostR n m r
          · have := hst (by simp [hq])
            subst this
            simp [hq] at h8
          · simp [hq] at h8
        skip
        refine WC.skip (WQ.blk (WQ.tn (WC.reg (WL.v (Ev.move rfl) rfl (WL.v (Ev.add rfl rfl (by unfold I64; omega)) rfl (WL.v (Ev.assign rfl) rfl (WL.nil ?_)))))))
        exact WQ.again ((i + 1, (takeR b (r * k) 1).2.2, r * k, dr2)) (⟨by omega, by omega, htk.2, fun hh => by obtain rfl : i = mostR n m r := (by omega); exact rt_end hb, ⟨Int.le_refl _, by omega⟩, H.tail⟩) ⟨rfl, rfl, rfl, rfl, rfl, rfl, rfl, rfl, trivial⟩ (by first | omega | (dsimp only; omega))
      try simp only [bsimp] at h7
      refine WC.exit (WQ.tn_exit (WQ.loop_exit (WQ.blk_here rfl (WQ.tn (WC.seq ?_)))))
      have hie : i = mostR n m r + 1 := by omega
      subst hie
      have hlt := rt_late hn1 hm1 hk1 hk2 hr hr2 (i := mostR n m r + 1) (by omega) hb (hbe rfl)
      refine WC.reg (WL.v (Ev.move rfl) rfl (WL.v (Ev.move rfl) rfl (WL.v (Ev.move rfl) rfl (WL.v (Ev.mul rfl rfl (by unfold I64; omega)) rfl (WL.v (Ev.move rfl) rfl (WL.v (Ev.add rfl rfl (by unfold I64; omega)) rfl (WL.v (Ev.sub rfl rfl (by unfold I64; omega)) rfl (WL.call (vs := [_, _, _, _, _]) rfl cl16 rfl (fl_Request c d A cap seen (w64 0) dr [⟨⟨3, [], [], n, m, k⟩, p, b⟩] (fun x hx => by obtain rfl := List.mem_singleton.1 hx; exact ⟨lim_ok hg, fun _ => hb.1⟩) (by unfold Sml; simp) (r * k + k - 1) 0 (by unfold I64; omega) litGET none 0 [] No (ok_nil _ (by unfold Sml; simp)) _ (Rd.nil _ _ _ _ _) (no_Bk _) H.local) ?_))))))))
      rintro _ w1 hp
      obtain ⟨bs, stv, Af, nf, cf, bd, A2, n2, c2, dr2, rfl, hbs, hst, H1⟩ := rate_req hp (by obtain ⟨q1, q2⟩ := hsn; exact ⟨by omega, by omega⟩)
      replace H := H.join H1
      refine ⟨_, rfl, ?_⟩
      refine WL.v (Ev.move rfl) rfl (WL.v (Ev.extract rfl rfl) rfl (WL.v (Ev.extract rfl rfl) rfl (WL.alloc z38 rfl H rfl fun b3 w1 hb3 H L => (WL.store (i := 0) (vs := [_, _, _, _, _]) rfl rfl rfl sz38 rfl H rfl rfl fun w1 H L => (WL.v (Ev.assign rfl) rfl (WL.nil (WQ.tn (WC.seq (WC.reg (WL.v (Ev.move rfl) rfl (WL.v (Ev.nei rfl rfl) rfl (WL.v (Ev.move rfl) rfl (WL.g (Met.no rfl rfl) (fun hg => Ev.fieldAddr fa38_0 rfl) rfl (WL.g (Met.no rfl rfl) (fun hg => Ev.load fl4 ((evG.un rfl).ev hg) (H.cell 0 rfl rfl)) rfl (WL.g (Met.no rfl rfl) (fun hg => Ev.not ((evG.un rfl).ev hg)) rfl (WL.v (Ev.or rfl rfl rfl) rfl (WL.nil ?_)))))))))))))))))
      refine WQ.tn (WC.cond rfl (fun h9 => ?_) (fun h9 => ?_))
      · exfalso
        rw [hlt.1] at hbs
        subst hbs
        simp at h9
      skip
      refine WC.skip (WQ.blk (WQ.tn (WC.reg (WL.v (Ev.move rfl) rfl (WL.v (Ev.add rfl rfl (by unfold I64; omega)) rfl (WL.v (Ev.assign rfl) rfl (WL.nil ?_)))))))
      exact WQ.again ((r + 1, (takeR b (r * k + k - 1) 1).2.2, r * k + k - 1, dr2)) (⟨by omega, by omega, hlt.2.1, fun _ => ⟨by rw [Int.add_mul]; omega, by rw [Int.add_mul]; omega⟩, H.tail⟩) ⟨rfl, rfl, rfl, rfl, rfl, rfl, trivial⟩ (by first | omega | (dsimp only; omega))
  try simp only [bsimp] at h4
  refine WC.exit (WQ.tn_exit (WQ.loop_exit (WQ.blk_here rfl (WQ.tn (WC.seq (WC.reg (WL.v (Ev.assign rfl) rfl (WL.nil (WQ.tn (WC.ret (WQ.ret1 rfl rfl ?_)))))))))))
  exact ⟨rfl, H.done⟩
end Go.Proofs.Ytcmolgiccccnoaa
