/- The walks of functions: what each comes to. -/
import Derived.Test.YtodappgiadelaaaDoorXb
import Derived.Test.YtodappgiadelaaaDoorProg
set_option linter.unusedVariables false
set_option linter.unusedSimpArgs false
namespace Go.Proofs.YtodappgiadelaaaDoor
open Go.RowKit Go.BK
theorem cl41 : callB Tryd.prog 41 = true := by kernel_rfl
theorem byteAt_eq {s : Bs} {j m : Nat} (h : j < s.length) (hm : m < 256) : s[j] = UInt8.ofNat m ↔ byteAt s j = (m : Int) := by rw [byteAt_get h, u8_eq s[j] m hm]
theorem lnG_at {m : Nat} {o : Int} {s : Bs} {i : Nat} (h : i < s.length) : lnG m o i (s.drop i) = if byteAt s i = 10 then .error 80 else if byteAt s i = 13 then (if i + 1 = s.length then .error 0 else if byteAt s (i + 1) = 10 then .ok i else .error 80) else if m ≤ i then .error o else lnG m o (i + 1) (s.drop (i + 1)) := by
  rw [List.drop_eq_getElem_cons h, lnG.eq_def]
  dsimp only
  have e1 := byteAt_eq (m := 10) h (by omega)
  have e2 := byteAt_eq (m := 13) h (by omega)
  simp only [show (UInt8.ofNat 10) = 10 from rfl, show (UInt8.ofNat 13) = 13 from rfl, Int.cast_ofNat_Int] at e1 e2
  simp only [e1, e2]
  by_cases h3 : i + 1 = s.length
  · rw [if_pos h3, h3, List.drop_length]
  · have h4 : i + 1 < s.length := by omega
    rw [if_neg h3, List.drop_eq_getElem_cons h4]
    have e3 := byteAt_eq (m := 10) h4 (by omega)
    simp only [show (UInt8.ofNat 10) = 10 from rfl, Int.cast_ofNat_Int] at e3
    simp only [e3]
theorem lnG_end {m : Nat} {o : Int} {s : Bs} : lnG m o s.length (s.drop s.length) = .error 0 := by rw [List.drop_length]; rfl
theorem lnG_ok {m : Nat} {o : Int} : ∀ {t : Bs} {i n : Nat}, lnG m o i t = .ok n → i ≤ n ∧ n - i + 2 ≤ t.length
  | [], _, _, h => by simp [lnG] at h
  | c :: r, i, n, h => by
    rw [lnG.eq_def] at h
    dsimp only at h
    split at h
    · cases h
    · split at h
      · split at h
        · cases h
        · split at h
          · cases h
            simp
          · cases h
      · split at h
        · cases h
        · obtain ⟨h1, h2⟩ := lnG_ok h
          simp only [List.length_cons]
          omega
@[reducible] def lnV (r : Except Int Nat) (s : Bs) : Value := .tuple #[str (lnL r s), .bool (lnW r), .int .i64 (lnE r)]
theorem hd_line (s : Bs) (hs : Sml s.length) (most : Nat) (hm : Sml most) (over : Int) (w : World) :
    Calls Tryd.prog 39 #[str s, .int .i64 (most : Nat), .int .i64 over] w fun e w' => e = .returned (lnV (lnG most over 0 s) s) ∧ St w No w' [] := by
  have hs9 := hs.le
  have hm9 := hm.le
  refine calls_of Tryd.func39 rfl Tryd.ntmps39 (by rfl) (K0 := [(0, _), (1, _), (2, _)]) ⟨rfl, rfl, rfl, trivial⟩ ?_
  have H := St.init w
  refine WC.seq (WC.reg (WL.v (Ev.assign rfl) rfl (WL.v (Ev.assign rfl) rfl (WL.v (Ev.assign rfl) rfl (WL.nil (WQ.tn (WC.seq (WC.seq (WC.reg (WL.v (Ev.move rfl) rfl (WL.v (Ev.lens Tryd.underlying9 rfl) rfl (WL.v (Ev.move rfl) rfl (WL.nil (WQ.tn (WC.block (WC.loop (γ := Nat) (fun j => [(0, str s), (1, .int .i64 (most : Nat)), (2, .int .i64 over), (11, .int .i64 (s.length : Nat)), (12, .int .i64 (j : Nat))]) (fun j w1 => j ≤ s.length ∧ lnG most over 0 s = lnG most over j (s.drop j) ∧ St w No w1 []) (fun j => s.length - j) 0 (⟨Nat.zero_le _, rfl, H⟩) ⟨rfl, rfl, rfl, rfl, rfl, trivial⟩ ?_))))))))))))))))
  rintro j w1 ⟨hj, hl, H⟩
  refine WC.seq (WC.reg (WL.v (Ev.lssN rfl rfl) rfl (WL.nil (WQ.tn (WC.seq (WC.cond rfl (fun h1 => ?_) (fun h1 => ?_)))))))
  · try simp only [bsimp] at h1
    refine WC.skip (WQ.tn (WC.seq (WC.block (WC.seq (WC.reg (WL.v (Ev.move rfl) rfl (WL.v (Ev.assign rfl) rfl (WL.nil (WQ.tn (WC.block (WC.seq (WC.reg (WL.v (Ev.move rfl) rfl (WL.v (Ev.move rfl) rfl (WL.v (Ev.ch Tryd.underlying9 rfl rfl (by omega)) rfl (WL.v (Ev.eqi rfl rfl) rfl (WL.v (Ev.assign rfl) rfl (WL.nil (WQ.tn (WC.cond rfl (fun h2 => ?_) (fun h2 => ?_)))))))))))))))))))))
    · try simp only [bsimp] at h2
      refine WC.seq (WC.reg (WL.v (Ev.assign rfl) rfl (WL.v (Ev.assign rfl) rfl (WL.v (Ev.assign rfl) rfl (WL.nil (WQ.tn (WC.ret (WQ.blk_ret (WQ.blk_ret (WQ.tn_ret (WQ.loop_ret (WQ.blk_ret (WQ.tn_ret (WQ.ret3 rfl rfl rfl rfl ?_))))))))))))))
      exact ⟨by rw [hl, lnG_at h1, if_pos h2]; rfl, H⟩
    try simp only [bsimp] at h2
    refine WC.seq (WC.reg (WL.v (Ev.move rfl) rfl (WL.v (Ev.move rfl) rfl (WL.v (Ev.ch Tryd.underlying9 rfl rfl (by omega)) rfl (WL.v (Ev.eqi rfl rfl) rfl (WL.v (Ev.move rfl) rfl (WL.g (Met.yes rfl rfl) (fun hg => Ev.move rfl) rfl (WL.g (Met.yes rfl rfl) (fun hg => Ev.addN (b := 1) ((evG.un rfl).ev hg) rfl (by omega)) rfl (WL.g (Met.yes rfl rfl) (fun hg => Ev.move rfl) rfl (WL.g (Met.yes rfl rfl) (fun hg => Ev.lens Tryd.underlying9 ((evG.un rfl).ev hg)) rfl (WL.g (Met.yes rfl rfl) (fun hg => Ev.eqN ((evG.un rfl).ev hg) ((evG.un rfl).ev hg)) rfl (WL.v (Ev.and rfl rfl rfl) rfl (WL.v (Ev.assign rfl) rfl (WL.nil ?_))))))))))))))
    refine WQ.tn (WC.cond rfl (fun h3 => ?_) (fun h3 => ?_))
    · try simp only [bsimp] at h3
      refine WC.seq (WC.reg (WL.v (Ev.assign rfl) rfl (WL.v (Ev.assign rfl) rfl (WL.v (Ev.assign rfl) rfl (WL.nil (WQ.tn (WC.ret (WQ.blk_ret (WQ.blk_ret (WQ.tn_ret (WQ.loop_ret (WQ.blk_ret (WQ.tn_ret (WQ.ret3 rfl rfl rfl rfl ?_))))))))))))))
      exact ⟨by rw [hl, lnG_at h1, if_neg h2, if_pos h3.1, if_pos (by omega)]; rfl, H⟩
    try simp only [bsimp] at h3
    refine WC.seq (WC.reg (WL.v (Ev.move rfl) rfl (WL.v (Ev.move rfl) rfl (WL.v (Ev.ch Tryd.underlying9 rfl rfl (by omega)) rfl (WL.v (Ev.eqi rfl rfl) rfl (WL.v (Ev.move rfl) rfl (WL.g (Met.yes rfl rfl) (fun hg => Ev.move rfl) rfl (WL.g (Met.yes rfl rfl) (fun hg => Ev.move rfl) rfl (WL.g (Met.yes rfl rfl) (fun hg => Ev.addN (b := 1) ((evG.un rfl).ev hg) rfl (by omega)) rfl (WL.g (Met.yes rfl rfl) (fun hg => Ev.ch Tryd.underlying9 ((evG.un rfl).ev hg) ((evG.un rfl).ev hg) (by simp at hg; omega)) rfl (WL.g (Met.yes rfl rfl) (fun hg => Ev.nei ((evG.un rfl).ev hg) rfl) rfl (WL.v (Ev.and rfl rfl rfl) rfl (WL.v (Ev.assign rfl) rfl (WL.nil ?_))))))))))))))
    refine WQ.tn (WC.cond rfl (fun h4 => ?_) (fun h4 => ?_))
    · try simp only [bsimp] at h4
      refine WC.seq (WC.reg (WL.v (Ev.assign rfl) rfl (WL.v (Ev.assign rfl) rfl (WL.v (Ev.assign rfl) rfl (WL.nil (WQ.tn (WC.ret (WQ.blk_ret (WQ.blk_ret (WQ.tn_ret (WQ.loop_ret (WQ.blk_ret (WQ.tn_ret (WQ.ret3 rfl rfl rfl rfl ?_))))))))))))))
      exact ⟨by rw [hl, lnG_at h1, if_neg h2, if_pos h4.1, if_neg (by omega), if_neg h4.2]; rfl, H⟩
    try simp only [bsimp] at h4
    refine WC.seq (WC.reg (WL.v (Ev.move rfl) rfl (WL.v (Ev.move rfl) rfl (WL.v (Ev.ch Tryd.underlying9 rfl rfl (by omega)) rfl (WL.v (Ev.eqi rfl rfl) rfl (WL.v (Ev.assign rfl) rfl (WL.nil (WQ.tn (WC.cond rfl (fun h5 => ?_) (fun h5 => ?_))))))))))
    · try simp only [bsimp] at h5
      refine WC.seq (WC.reg (WL.v (Ev.move rfl) rfl (WL.v (Ev.move rfl) rfl (WL.v (Ev.subN' Tryd.underlying9 rfl rfl rfl (by omega) (by omega)) rfl (WL.v (Ev.assign rfl) rfl (WL.v (Ev.assign rfl) rfl (WL.v (Ev.assign rfl) rfl (WL.nil (WQ.tn (WC.ret (WQ.blk_ret (WQ.blk_ret (WQ.tn_ret (WQ.loop_ret (WQ.blk_ret (WQ.tn_ret (WQ.ret3 rfl rfl rfl rfl ?_)))))))))))))))))
      exact ⟨by rw [hl, lnG_at h1, if_neg h2, if_pos h5, if_neg (by omega), if_pos (by omega)]; rfl, H⟩
    try simp only [bsimp] at h5
    refine WC.seq (WC.reg (WL.v (Ev.move rfl) rfl (WL.v (Ev.move rfl) rfl (WL.v (Ev.geqN rfl rfl) rfl (WL.v (Ev.assign rfl) rfl (WL.nil (WQ.tn (WC.cond rfl (fun h6 => ?_) (fun h6 => ?_)))))))))
    · try simp only [bsimp] at h6
      refine WC.seq (WC.reg (WL.v (Ev.move rfl) rfl (WL.v (Ev.assign rfl) rfl (WL.v (Ev.assign rfl) rfl (WL.v (Ev.assign rfl) rfl (WL.nil (WQ.tn (WC.ret (WQ.blk_ret (WQ.blk_ret (WQ.tn_ret (WQ.loop_ret (WQ.blk_ret (WQ.tn_ret (WQ.ret3 rfl rfl rfl rfl ?_)))))))))))))))
      exact ⟨by rw [hl, lnG_at h1, if_neg h2, if_neg h5, if_pos (by omega)]; rfl, H⟩
    try simp only [bsimp] at h6
    refine WC.skip (WQ.blk (WQ.blk (WQ.tn (WC.reg (WL.v (Ev.addN (b := 1) rfl rfl (by omega)) rfl (WL.v (Ev.move rfl) rfl (WL.nil ?_)))))))
    exact WQ.again (j + 1) (⟨by omega, by rw [hl, lnG_at h1, if_neg h2, if_neg h5, if_neg (by omega)], H⟩) ⟨rfl, rfl, rfl, rfl, rfl, trivial⟩ (by first | omega | (dsimp only; omega))
  try simp only [bsimp] at h1
  refine WC.exit (WQ.tn_exit (WQ.loop_exit (WQ.blk_here rfl (WQ.tn (WC.seq (WC.reg (WL.v (Ev.assign rfl) rfl (WL.v (Ev.assign rfl) rfl (WL.v (Ev.assign rfl) rfl (WL.nil (WQ.tn (WC.ret (WQ.ret3 rfl rfl rfl rfl ?_)))))))))))))
  obtain rfl : j = s.length := by omega
  exact ⟨by rw [hl, lnG_end]; rfl, H⟩
theorem ver_in {s : Bs} (h1 : s.length = 8) (h2 : s.take 5 = litHTTP) (h3 : byteAt s 6 = 46) : verP s = if (decP ((s.drop 5).take 1) 1).2 = false ∨ (decP (s.drop 7) 1).2 = false then (0, 80) else if (decP ((s.drop 5).take 1) 1).1 ≠ 1 then (0, 81) else ((decP (s.drop 7) 1).1, 0) := by
  unfold verP
  rw [if_neg (by rintro (h | h | h); exact h h1; exact h h2; exact h h3)]
theorem ver_rest {s : Bs} (h1 : s.length = 8) : (s.drop 7).take (s.length - 7) = s.drop 7 := List.take_of_length_le (by simp)
theorem hd_version (s : Bs) (hs : Sml s.length) (w : World) :
    Calls Tryd.prog 42 #[str s] w fun e w' => e = .returned (.tuple #[.int .i64 (verP s).1, .int .i64 (verP s).2]) ∧ St w No w' [] := by
  have hs9 := hs.le
  refine calls_of Tryd.func42 rfl Tryd.ntmps42 (by rfl) (K0 := [(0, _)]) ⟨rfl, trivial⟩ ?_
  have H := St.init w
  refine WC.seq (WC.reg (WL.v (Ev.assign rfl) rfl (WL.v (Ev.assign rfl) rfl (WL.nil (WQ.tn (WC.seq (WC.seq (WC.reg (WL.v (Ev.move rfl) rfl (WL.v (Ev.lens Tryd.underlying9 rfl) rfl (WL.v (Ev.neN (b := 8) rfl rfl) rfl (WL.v (Ev.move rfl) rfl (WL.g (Met.no rfl rfl) (fun hg => Ev.move rfl) rfl (WL.g (Met.no rfl rfl) (fun hg => Ev.subN' Tryd.underlying9 ((evG.un rfl).ev hg) rfl rfl (by first | omega | (simp; done) | (simp; omega)) (by simp at hg; first | omega | (simp; omega))) rfl (WL.g (Met.no rfl rfl) (fun hg => Ev.nes ((evG.un rfl).ev hg) rfl) rfl (WL.v (Ev.or rfl rfl rfl) rfl (WL.v (Ev.move rfl) rfl (WL.g (Met.no rfl rfl) (fun hg => Ev.move rfl) rfl (WL.g (Met.no rfl rfl) (fun hg => Ev.ch Tryd.underlying9 ((evG.un rfl).ev hg) rfl (by simp at hg; first | omega | (simp; omega))) rfl (WL.g (Met.no rfl rfl) (fun hg => Ev.nei ((evG.un rfl).ev hg) rfl) rfl (WL.v (Ev.or rfl rfl rfl) rfl (WL.nil ?_))))))))))))))))))))))
  refine WQ.tn (WC.cond rfl (fun h0 => ?_) (fun h0 => ?_))
  · try simp only [bsimp] at h0
    refine WC.seq (WC.reg (WL.v (Ev.assign rfl) rfl (WL.v (Ev.assign rfl) rfl (WL.nil (WQ.tn (WC.ret (WQ.tn_ret (WQ.ret2 rfl rfl rfl ?_))))))))
    exact ⟨by unfold verP; rw [if_pos (by rcases h0 with (h | h) | h; exact .inl h; exact .inr (.inl h); exact .inr (.inr h))], H⟩
  simp only [bsimp] at h0
  obtain ⟨⟨h01, h02⟩, h03⟩ := h0
  refine WC.skip (WQ.tn (WC.seq (WC.reg (WL.v (Ev.move rfl) rfl (WL.v (Ev.subN' Tryd.underlying9 rfl rfl rfl (by first | omega | (simp; done) | (simp; omega)) (by first | omega | (simp; done) | (simp; omega))) rfl (WL.callS (vs := [_, _]) rfl cl41 rfl H (lx_Decimal _ (hs.mono (by first | (simp; done) | (simp; omega))) 1 (by unfold I64; omega) _) fun w1 H L => (WL.v (Ev.move rfl) rfl (WL.v (Ev.extract rfl rfl) rfl (WL.v (Ev.extract rfl rfl) rfl (WL.v (Ev.assign rfl) rfl (WL.v (Ev.assign rfl) rfl (WL.nil (WQ.tn (WC.seq (WC.reg (WL.v (Ev.move rfl) rfl (WL.v (Ev.subN' Tryd.underlying9 rfl rfl rfl (by first | omega | (simp; done) | (simp; omega)) (by first | omega | (simp; done) | (simp; omega))) rfl (WL.callS (vs := [_, _]) rfl cl41 rfl H (lx_Decimal _ (hs.mono (by first | (simp; done) | (simp; omega))) 1 (by unfold I64; omega) _) fun w1 H L => (WL.v (Ev.move rfl) rfl (WL.v (Ev.extract rfl rfl) rfl (WL.v (Ev.extract rfl rfl) rfl (WL.v (Ev.assign rfl) rfl (WL.v (Ev.assign rfl) rfl (WL.nil ?_))))))))))))))))))))))))
  refine WQ.tn (WC.seq (WC.block (WC.seq (WC.reg (WL.v (Ev.move rfl) rfl (WL.v (Ev.not rfl) rfl (WL.v (Ev.move rfl) rfl (WL.g (Met.no rfl rfl) (fun hg => Ev.move rfl) rfl (WL.g (Met.no rfl rfl) (fun hg => Ev.not ((evG.un rfl).ev hg)) rfl (WL.v (Ev.or rfl rfl rfl) rfl (WL.v (Ev.assign rfl) rfl (WL.nil (WQ.tn (WC.cond rfl (fun h1 => ?_) (fun h1 => ?_)))))))))))))))
  · try simp only [bsimp] at h1
    refine WC.seq (WC.reg (WL.v (Ev.assign rfl) rfl (WL.v (Ev.assign rfl) rfl (WL.nil (WQ.tn (WC.ret (WQ.blk_ret (WQ.tn_ret (WQ.ret2 rfl rfl rfl ?_)))))))))
    have hv := ver_in h01 h02 h03
    exact ⟨by rw [hv, if_pos (by rw [ver_rest h01] at h1; exact h1)], H⟩
  try simp only [bsimp] at h1
  refine WC.seq (WC.reg (WL.v (Ev.move rfl) rfl (WL.v (Ev.nei rfl rfl) rfl (WL.v (Ev.assign rfl) rfl (WL.nil (WQ.tn (WC.cond rfl (fun h2 => ?_) (fun h2 => ?_))))))))
  · try simp only [bsimp] at h2
    refine WC.seq (WC.reg (WL.v (Ev.assign rfl) rfl (WL.v (Ev.assign rfl) rfl (WL.nil (WQ.tn (WC.ret (WQ.blk_ret (WQ.tn_ret (WQ.ret2 rfl rfl rfl ?_)))))))))
    have hv := ver_in h01 h02 h03
    exact ⟨by rw [hv, if_neg (by rw [ver_rest h01] at h1; rw [h1.1, h1.2]; simp), if_pos h2], H⟩
  try simp only [bsimp] at h2
  refine WC.skip (WQ.blk (WQ.tn (WC.seq (WC.reg (WL.v (Ev.move rfl) rfl (WL.v (Ev.assign rfl) rfl (WL.v (Ev.assign rfl) rfl (WL.nil (WQ.tn (WC.ret (WQ.ret2 rfl rfl rfl ?_)))))))))))
  have hv := ver_in h01 h02 h03
  exact ⟨by rw [hv, if_neg (by rw [ver_rest h01] at h1; rw [h1.1, h1.2]; simp), if_neg (by rw [h2]; simp), ver_rest h01]; rfl, H⟩
end Go.Proofs.YtodappgiadelaaaDoor
