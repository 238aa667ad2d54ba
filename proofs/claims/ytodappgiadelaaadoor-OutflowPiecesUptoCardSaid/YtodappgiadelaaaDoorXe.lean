/- The walks of functions: what each comes to. -/
import Derived.Test.YtodappgiadelaaaDoorXg
import Derived.Test.YtodappgiadelaaaDoorRow
import Derived.Test.YtodappgiadelaaaDoorProg
set_option linter.unusedVariables false
set_option linter.unusedSimpArgs false
namespace Go.Proofs.YtodappgiadelaaaDoor
open Go.RowKit Go.BK
theorem cl83 : callB Tryd.prog 83 = true := by kernel_rfl
theorem cl67 : callB Tryd.prog 67 = true := by kernel_rfl
theorem cl61 : callB Tryd.prog 61 = true := by kernel_rfl
theorem cl46 : callB Tryd.prog 46 = true := by kernel_rfl
theorem by9 : byOk Tryd.prog 9 16 := by unfold byOk; kernel_rfl
theorem orlow_all : ∀ c : Fin 256, ibits .or .u8 (c.1 : Int) 32 = ((UInt8.ofNat c.1 ||| 32).toNat : Int) := by decide +kernel
theorem orlow {s : Bs} {j : Nat} (h : j < s.length) : ibits .or .u8 (byteAt s j) 32 = (lowd s[j] : Int) := by
  rw [byteAt_get h]
  have := orlow_all ⟨s[j].toNat, s[j].toNat_lt⟩
  simpa [lowd] using this
theorem or16 {v d : Nat} (hv : v < 72057594037927936) (hd : d < 16) : ibits .or .i64 (IntKind.i64.wrap ((v : Int) * 2 ^ min (4 : Int).toNat IntKind.i64.bits)) (d : Int) = ((v * 16 + d : Nat) : Int) := by
  have e0 : (v : Int) * 2 ^ min (4 : Int).toNat IntKind.i64.bits = ((v * 16 : Nat) : Int) := by
    rw [show min (4 : Int).toNat IntKind.i64.bits = 4 from rfl]; omega
  have e1 : IntKind.i64.wrap ((v : Int) * 2 ^ min (4 : Int).toNat IntKind.i64.bits) = ((v * 16 : Nat) : Int) := by
    rw [e0]; exact wrap_i64 (by unfold I64; omega)
  rw [e1]
  unfold ibits
  simp only [show IntKind.i64.bits = 64 from rfl, BitVec.toNat_or, BitVec.ofInt_natCast, BitVec.toNat_ofNat]
  rw [Nat.mod_eq_of_lt (by omega), Nat.mod_eq_of_lt (by omega)]
  have e2 : v * 16 ||| d = v * 16 + d := by
    have := Nat.two_pow_add_eq_or_of_lt (i := 4) (b := d) (by omega) v
    rw [show 2 ^ 4 * v = v * 16 by omega] at this
    exact this.symm
  rw [e2]
  exact wrap_i64 (by unfold I64; omega)
theorem pow16_le {j : Nat} (h : j ≤ 14) : 16 ^ j ≤ 72057594037927936 := by
  have : 16 ^ j ≤ 16 ^ 14 := Nat.pow_le_pow_right (by omega) h
  omega
theorem hexd_dig {s : Bs} {j : Nat} (h : j < s.length) (hd : digc s[j] = true) : IntKind.i64.wrap (IntKind.u8.wrap (byteAt s j - 48)) = (hexd s[j] : Int) := by
  have hr := digc_range hd
  unfold hexd
  rw [if_pos hd, byteAt_get h, wrap_u8 ⟨by omega, by omega⟩, wrap_i64 (by unfold I64; omega)]
  omega
theorem hexd_let {s : Bs} {j : Nat} (h : j < s.length) (hd : digc s[j] = false) (h1 : 97 ≤ (lowd s[j] : Int)) (h2 : (lowd s[j] : Int) ≤ 102) : IntKind.i64.wrap (IntKind.u8.wrap (IntKind.u8.wrap (ibits .or .u8 (byteAt s j) 32 - 97) + 10)) = (hexd s[j] : Int) := by
  unfold hexd
  rw [if_neg (by rw [hd]; simp), orlow h, wrap_u8 (x := (lowd s[j] : Int) - 97) ⟨by omega, by omega⟩, wrap_u8 ⟨by omega, by omega⟩, wrap_i64 (by unfold I64; omega)]
  omega
theorem hex_no {s : Bs} {k : Int} {j : Nat} (h0 : ¬ (s = [] ∨ min k 15 < (s.length : Int))) (hj : j < s.length) (h : hexc s[j] = false) : hexP s k = (0, false) := by
  unfold hexP; rw [if_neg h0, if_neg (by rw [all_no hj h]; simp)]
theorem hex_yes {s : Bs} {k : Int} (h0 : ¬ (s = [] ∨ min k 15 < (s.length : Int))) (h : s.all hexc = true) : hexP s k = (hexV s, true) := by
  unfold hexP; rw [if_neg h0, if_pos h]
theorem lx_Hex (s : Bs) (hs : Sml s.length) (k : Int) (hk : I64 k) (w : World) :
    Calls Tryd.prog 91 #[str s, .int .i64 k] w fun e w' => e = .returned (.tuple #[.int .i64 ((hexP s k).1 : Nat), .bool (hexP s k).2]) ∧ St w No w' [] := by
  have hs9 := hs.le
  unfold I64 at hk
  refine calls_of Tryd.func91 rfl Tryd.ntmps91 (by rfl) (K0 := [(0, _), (1, _)]) ⟨rfl, rfl, trivial⟩ ?_
  have H := St.init w
  refine WC.seq (WC.reg (WL.v (Ev.assign rfl) rfl (WL.v (Ev.assign rfl) rfl (WL.nil (WQ.tn (WC.seq (WC.seq (WC.reg (WL.v (Ev.move rfl) rfl (WL.v (Ev.eqs rfl rfl) rfl (WL.v (Ev.move rfl) rfl (WL.g (Met.no rfl rfl) (fun hg => Ev.move rfl) rfl (WL.g (Met.no rfl rfl) (fun hg => Ev.lens Tryd.underlying9 ((evG.un rfl).ev hg)) rfl (WL.g (Met.no rfl rfl) (fun hg => Ev.move rfl) rfl (WL.g (Met.no rfl rfl) (fun hg => Ev.min2 ((evG.un rfl).ev hg) rfl) rfl (WL.g (Met.no rfl rfl) (fun hg => Ev.gtr ((evG.un rfl).ev hg) ((evG.un rfl).ev hg)) rfl (WL.v (Ev.or rfl rfl rfl) rfl (WL.nil (WQ.tn ?_)))))))))))))))))))
  refine WC.cond rfl (fun h0 => ?_) (fun h0 => ?_)
  · try simp only [bsimp] at h0
    refine WC.seq (WC.reg (WL.v (Ev.assign rfl) rfl (WL.v (Ev.assign rfl) rfl (WL.nil (WQ.tn (WC.ret (WQ.tn_ret (WQ.ret2 rfl rfl rfl ?_))))))))
    exact ⟨by unfold hexP; rw [if_pos h0]; rfl, H⟩
  have h0n : ¬ (s = [] ∨ min k 15 < (s.length : Int)) := by
    simp only [bsimp] at h0
    rintro (hh | hh)
    · exact h0.1 hh
    · omega
  have h0l : s.length ≤ 15 := by
    rcases Nat.lt_or_ge 15 s.length with hh | hh
    · exact (h0n (.inr (by omega))).elim
    · exact hh
  refine WC.skip (WQ.tn (WC.seq (WC.reg (WL.v (Ev.assign rfl) rfl (WL.nil (WQ.tn (WC.seq (WC.seq (WC.reg (WL.v (Ev.move rfl) rfl (WL.v (Ev.lens Tryd.underlying9 rfl) rfl (WL.v (Ev.move rfl) rfl (WL.nil (WQ.tn (WC.block (WC.loop (γ := Nat) (fun j => [(0, str s), (6, .int .i64 ((hexV (s.take j) : Nat) : Int)), (19, .int .i64 (s.length : Nat)), (20, .int .i64 (j : Nat))]) (fun j w1 => j ≤ s.length ∧ (s.take j).all hexc = true ∧ St w No w1 []) (fun j => s.length - j) 0 (⟨Nat.zero_le _, by simp, H⟩) ⟨rfl, rfl, rfl, rfl, trivial⟩ ?_))))))))))))))))
  rintro j w1 ⟨hj, ha, H⟩
  refine WC.seq (WC.reg (WL.v (Ev.lssN rfl rfl) rfl (WL.nil (WQ.tn (WC.seq (WC.cond rfl (fun h2 => ?_) (fun h2 => ?_)))))))
  · try simp only [bsimp] at h2
    refine WC.skip (WQ.tn (WC.seq (WC.block (WC.seq (WC.reg (WL.v (Ev.move rfl) rfl (WL.v (Ev.assign rfl) rfl (WL.nil (WQ.tn (WC.seq (WC.reg (WL.v (Ev.move rfl) rfl (WL.v (Ev.move rfl) rfl (WL.v (Ev.ch Tryd.underlying9 rfl rfl (by omega)) rfl (WL.v (Ev.assign rfl) rfl (WL.nil (WQ.tn (WC.block (WC.seq (WC.reg (WL.v (Ev.move rfl) rfl (WL.callS (vs := [_]) rfl cl57 rfl H (lx_digit _ _) fun w1 H L => (WL.v (Ev.assign rfl) rfl (WL.nil (WQ.tn (WC.cond rfl (fun h3 => ?_) (fun h3 => ?_)))))))))))))))))))))))))))
    · have hd : digc s[j] = true := by
        unfold digc; rw [← byteAt_get h2]; simpa using h3
      have hh : hexc s[j] = true := by unfold hexc; rw [hd]; rfl
      have hbd := hexV_bound _ ha
      rw [List.length_take, Nat.min_eq_left (by omega)] at hbd
      have hp := pow16_le (j := j) (by omega)
      have hlt := hexd_lt hh
      have hor := or16 (v := hexV (s.take j)) (d := hexd s[j]) (by omega) hlt
      rw [← hexV_snoc, ← take_succ_get h2] at hor
      rw [← hexd_dig h2 hd] at hor
      refine WC.reg (WL.v (Ev.move rfl) rfl (WL.v (Ev.shl rfl rfl (by omega)) rfl (WL.v (Ev.move rfl) rfl (WL.v (Ev.subw rfl rfl) rfl (WL.v (Ev.conv Tryd.underlying5 Tryd.underlying3 rfl) rfl (WL.v (Ev.bits .or rfl rfl rfl) rfl (WL.v (Ev.assign rfl) rfl (WL.nil (WQ.blk (WQ.blk (WQ.tn (WC.reg (WL.v (Ev.addN (b := 1) rfl rfl (by omega)) rfl (WL.v (Ev.move rfl) rfl (WL.nil ?_)))))))))))))))
      exact WQ.again (j + 1) (⟨by omega, all_take_succ h2 ha hh, H⟩) ⟨rfl, (by rw [← hor]; rfl), rfl, rfl, trivial⟩ (by first | omega | (dsimp only; omega))
    have hd : digc s[j] = false := by
      unfold digc; rw [← byteAt_get h2]; simpa using h3
    refine WC.seq (WC.reg (WL.v (Ev.move rfl) rfl (WL.v (Ev.bits .or rfl rfl rfl) rfl (WL.v (Ev.geq rfl rfl) rfl (WL.v (Ev.move rfl) rfl (WL.g (Met.yes rfl rfl) (fun hg => Ev.move rfl) rfl (WL.g (Met.yes rfl rfl) (fun hg => Ev.bits .or rfl ((evG.un rfl).ev hg) rfl) rfl (WL.g (Met.yes rfl rfl) (fun hg => Ev.leq ((evG.un rfl).ev hg) rfl) rfl (WL.v (Ev.and rfl rfl rfl) rfl (WL.v (Ev.assign rfl) rfl (WL.nil (WQ.tn (WC.cond rfl (fun h4 => ?_) (fun h4 => ?_))))))))))))))
    · simp only [bsimp, orlow h2] at h4
      have hh : hexc s[j] = true := by
        unfold hexc
        simp only [Bool.or_eq_true, Bool.and_eq_true, decide_eq_true_eq]
        exact .inr ⟨by omega, by omega⟩
      have hbd := hexV_bound _ ha
      rw [List.length_take, Nat.min_eq_left (by omega)] at hbd
      have hp := pow16_le (j := j) (by omega)
      have hlt := hexd_lt hh
      have hor := or16 (v := hexV (s.take j)) (d := hexd s[j]) (by omega) hlt
      rw [← hexV_snoc, ← take_succ_get h2] at hor
      rw [← hexd_let h2 hd h4.1 h4.2] at hor
      refine WC.reg (WL.v (Ev.move rfl) rfl (WL.v (Ev.shl rfl rfl (by omega)) rfl (WL.v (Ev.move rfl) rfl (WL.v (Ev.bits .or rfl rfl rfl) rfl (WL.v (Ev.subw rfl rfl) rfl (WL.v (Ev.addw rfl rfl) rfl (WL.v (Ev.conv Tryd.underlying5 Tryd.underlying3 rfl) rfl (WL.v (Ev.bits .or rfl rfl rfl) rfl (WL.v (Ev.assign rfl) rfl (WL.nil (WQ.blk (WQ.blk (WQ.tn (WC.reg (WL.v (Ev.addN (b := 1) rfl rfl (by omega)) rfl (WL.v (Ev.move rfl) rfl (WL.nil ?_)))))))))))))))))
      exact WQ.again (j + 1) (⟨by omega, all_take_succ h2 ha hh, H⟩) ⟨rfl, (by rw [← hor]; rfl), rfl, rfl, trivial⟩ (by first | omega | (dsimp only; omega))
    simp only [bsimp, orlow h2] at h4
    have hh : hexc s[j] = false := by
      unfold hexc
      rw [hd]
      simp only [Bool.false_or, Bool.and_eq_false_iff, decide_eq_false_iff_not]
      omega
    refine WC.seq (WC.reg (WL.v (Ev.assign rfl) rfl (WL.v (Ev.assign rfl) rfl (WL.nil (WQ.tn (WC.ret (WQ.blk_ret (WQ.blk_ret (WQ.tn_ret (WQ.loop_ret (WQ.blk_ret (WQ.tn_ret (WQ.ret2 rfl rfl rfl ?_)))))))))))))
    exact ⟨by rw [hex_no h0n h2 hh]; rfl, H⟩
  try simp only [bsimp] at h2
  refine WC.exit (WQ.tn_exit (WQ.loop_exit (WQ.blk_here rfl (WQ.tn (WC.seq (WC.reg (WL.v (Ev.move rfl) rfl (WL.v (Ev.assign rfl) rfl (WL.v (Ev.assign rfl) rfl (WL.nil (WQ.tn (WC.ret (WQ.ret2 rfl rfl rfl ?_)))))))))))))
  obtain rfl : j = s.length := by omega
  rw [List.take_length] at ha
  exact ⟨by rw [hex_yes h0n ha, List.take_length], H⟩
theorem index_lt {s : Bs} {c : UInt8} {i : Nat} (h : Lib.index s [c] = (i : Int)) : i < s.length := by
  rw [Lib.index_one] at h
  have := (Lib.indexByte_some h).1
  exact (List.getElem?_eq_some_iff.1 this).1
theorem cut_yes {s : Bs} {c : UInt8} {i : Nat} (h : Lib.index s [c] = (i : Int)) : cutP c s = (s.take i, s.drop (i + 1), true) := by
  rw [← cut_eq, Lib.cut, h, if_pos (by omega)]; simp
theorem cut_no {s : Bs} {c : UInt8} (h : Lib.index s [c] < 0) : cutP c s = (s, [], false) := by
  rw [← cut_eq, Lib.cut, if_neg (by omega)]
theorem lb_Cut0 (s : Bs) (c : UInt8) (hs : Sml s.length) (w : World) :
    Calls Tryd.prog 67 #[str s, str [c]] w fun e w' => e = .returned (.tuple #[str (cutP c s).1, str (cutP c s).2.1, .bool (cutP c s).2.2]) ∧ St w No w' [] := by
  have hs9 := hs.le
  refine calls_of Tryd.func67 rfl Tryd.ntmps67 (by rfl) (K0 := [(0, _), (1, _)]) ⟨rfl, rfl, trivial⟩ ?_
  have H := St.init w
  refine WC.seq (WC.reg (WL.v (Ev.assign rfl) rfl (WL.v (Ev.assign rfl) rfl (WL.v (Ev.assign rfl) rfl (WL.nil (WQ.tn (WC.seq (WC.seq (WC.reg (WL.v (Ev.move rfl) rfl (WL.v (Ev.move rfl) rfl (WL.callS (vs := [_, _]) rfl cl83 rfl H (lb_Index1 s c _) fun w1 H L => (WL.v (Ev.assign rfl) rfl (WL.nil (WQ.tn (WC.seq (WC.reg (WL.v (Ev.move rfl) rfl (WL.v (Ev.geq rfl rfl) rfl (WL.nil (WQ.tn (WC.cond rfl (fun h0 => ?_) (fun h0 => ?_)))))))))))))))))))))))
  · simp only [bsimp] at h0
    obtain ⟨i, hi⟩ : ∃ i : Nat, Lib.index s [c] = i := ⟨(Lib.index s [c]).toNat, by omega⟩
    have hil := index_lt hi
    rw [hi]
    refine WC.seq (WC.drawT mixed (No) 12 [(false, 0), (false, 1), (false, 2), (false, 3), (false, 4), (false, 5), (false, 6), (false, 7), (false, 8), (false, 9), (false, 10), (false, 11)] (by kernel_rfl) ?_)
    intro w1 L
    replace H := H.ext L
    refine WX.v rfl (fun w2 hC => Ev.move rfl) rfl (WX.v rfl (fun w2 hC => Ev.move rfl) rfl (WX.v rfl (fun w2 hC => Ev.subN' Tryd.underlying9 rfl rfl rfl (by omega) (by omega)) rfl (WX.v rfl (fun w2 hC => Ev.move rfl) rfl (WX.v rfl (fun w2 hC => Ev.move rfl) rfl (WX.v rfl (fun w2 hC => Ev.move rfl) rfl (WX.v rfl (fun w2 hC => Ev.lens Tryd.underlying9 rfl) rfl (WX.v rfl (fun w2 hC => Ev.addN rfl rfl (by simp; omega)) rfl (WX.v rfl (fun w2 hC => Ev.subN' Tryd.underlying9 rfl rfl rfl (by simp; omega) (by omega)) rfl (WX.v rfl (fun w2 hC => Ev.assign rfl) rfl (WX.v rfl (fun w2 hC => Ev.assign rfl) rfl (WX.v rfl (fun w2 hC => Ev.assign rfl) rfl (WX.nil ?_))))))))))))
    refine WQ.tn (WC.ret (WQ.tn_ret (WQ.ret3 rfl rfl rfl rfl ?_)))
    exact ⟨by rw [cut_yes hi]; simp [List.take_of_length_le], H⟩
  simp only [bsimp] at h0
  refine WC.skip (WQ.tn (WC.seq (WC.reg (WL.v (Ev.move rfl) rfl (WL.v (Ev.assign rfl) rfl (WL.v (Ev.assign rfl) rfl (WL.v (Ev.assign rfl) rfl (WL.nil (WQ.tn (WC.ret (WQ.ret3 rfl rfl rfl rfl ?_)))))))))))
  exact ⟨by rw [cut_no (by omega)], H⟩
theorem lb_Cut (s : Bs) (c : UInt8) (hs : Sml s.length) (w : World) :
    Calls Tryd.prog 54 #[str s, str [c]] w fun e w' => e = .returned (.tuple #[str (cutP c s).1, str (cutP c s).2.1, .bool (cutP c s).2.2]) ∧ St w No w' [] := by
  refine calls_of Tryd.func54 rfl Tryd.ntmps54 (by rfl) (K0 := [(0, _), (1, _)]) ⟨rfl, rfl, trivial⟩ ?_
  have H := St.init w
  refine WC.seq (WC.reg (WL.v (Ev.assign rfl) rfl (WL.v (Ev.assign rfl) rfl (WL.v (Ev.assign rfl) rfl (WL.nil (WQ.tn (WC.seq (WC.reg (WL.v (Ev.move rfl) rfl (WL.v (Ev.move rfl) rfl (WL.callS (vs := [_, _]) rfl cl67 rfl H (lb_Cut0 s c hs _) fun w1 H L => (WL.v (Ev.extract rfl rfl) rfl (WL.v (Ev.extract rfl rfl) rfl (WL.v (Ev.extract rfl rfl) rfl (WL.v (Ev.assign rfl) rfl (WL.v (Ev.assign rfl) rfl (WL.v (Ev.assign rfl) rfl (WL.nil (WQ.tn (WC.ret (WQ.ret3 rfl rfl rfl rfl ?_)))))))))))))))))))))
  exact ⟨rfl, H⟩
theorem lb_Split (s : Bs) (c : UInt8) (hs : s.length < 4294967281) (w : World) :
    Calls Tryd.prog 46 #[str s, str [c]] w fun e w' => ∃ b, e = .returned (.slice (some ⟨b, 0, none⟩) (splitC c s).length (splitC c s).length) ∧ St w No w' [.row 9 1 (some ⟨b, 0, none⟩) (splitC c s).length (splitC c s).length ((splitC c s).flatMap kStr.enc)] := by
  refine calls_of Tryd.func46 rfl Tryd.ntmps46 (by rfl) (K0 := [(0, _), (1, _)]) ⟨rfl, rfl, trivial⟩ ?_
  have H := St.init w
  refine WC.seq (WC.reg (WL.v (Ev.assign rfl) rfl (WL.nil (WQ.tn (WC.seq (WC.reg (WL.v (Ev.move rfl) rfl (WL.v (Ev.move rfl) rfl (WL.call (vs := [_, _, _, _]) rfl cl61 rfl (lb_genSplit1 s c hs _) ?_)))))))))
  rintro _ w1 ⟨b, rfl, H1⟩
  replace H := H.app H1
  refine ⟨_, rfl, ?_⟩
  refine WL.v (Ev.assign rfl) rfl (WL.nil (WQ.tn (WC.ret (WQ.ret1 rfl rfl ?_))))
  exact ⟨b, rfl, H⟩
theorem splitC_len (sep : UInt8) : ∀ s : Bs, (splitC sep s).length ≤ s.length + 1
  | [] => by simp [splitC]
  | c :: s => by
    have ih := splitC_len sep s
    unfold splitC
    split
    · simp only [List.length_cons]; omega
    · split
      · simp
      · rename_i q r hq
        rw [hq] at ih
        simp only [List.length_cons] at ih ⊢; omega
theorem splitC_sml (sep : UInt8) : ∀ (s : Bs), ∀ p ∈ splitC sep s, p.length ≤ s.length
  | [], p, hp => by simp [splitC] at hp; simp [hp]
  | c :: s, p, hp => by
    have ih := splitC_sml sep s
    unfold splitC at hp
    split at hp
    · rcases List.mem_cons.1 hp with rfl | hp
      · simp
      · have := ih p hp; simp only [List.length_cons]; omega
    · split at hp
      · obtain rfl := List.mem_singleton.1 hp; simp
      · rename_i q r hq
        rcases List.mem_cons.1 hp with rfl | hp
        · have := ih q (by rw [hq]; simp); simp only [List.length_cons]; omega
        · have := ih p (by rw [hq]; simp [hp]); simp only [List.length_cons]; omega
theorem elements_len (s : Bs) : (elements s).length ≤ s.length + 1 := by
  unfold elements
  refine Nat.le_trans (List.length_filter_le _ _) ?_
  rw [List.length_map]; exact splitC_len 44 s
theorem elements_sml {s e : Bs} (h : e ∈ elements s) : e.length ≤ s.length := by
  have h1 := (List.mem_filter.1 h).1
  obtain ⟨p, hp, rfl⟩ := List.mem_map.1 h1
  exact Nat.le_trans (trim_length p) (splitC_sml 44 s p hp)
def eleP (s : Bs) (j : Nat) : List Bs := ne' (((splitC 44 s).take j).map trim)
theorem eleP_succ {s : Bs} {j : Nat} (h : j < (splitC 44 s).length) : eleP s (j + 1) = if trim (splitC 44 s)[j] = [] then eleP s j else eleP s j ++ [trim (splitC 44 s)[j]] := by
  unfold eleP; rw [take_succ_get h, List.map_append, List.map_cons, List.map_nil, ne'_snoc]
theorem eleP_end (s : Bs) : eleP s (splitC 44 s).length = elements s := by unfold eleP; rw [List.take_length]; rfl
theorem eleP_len (s : Bs) (j : Nat) : (eleP s j).length ≤ j := by
  unfold eleP ne'
  refine Nat.le_trans (List.length_filter_le _ _) ?_
  rw [List.length_map, List.length_take]; omega
theorem lx_Elements (s : Bs) (hs : s.length ≤ 1048576) (w : World) :
    Calls Tryd.prog 59 #[str s] w fun e w' => ∃ A' c', e = .returned (.slice A' (elements s).length c') ∧ St w No w' [.row 9 1 A' (elements s).length c' ((elements s).flatMap kStr.enc)] := by
  have hsl := splitC_len 44 s
  refine calls_of Tryd.func59 rfl Tryd.ntmps59 (by rfl) (K0 := [(0, _)]) ⟨rfl, trivial⟩ ?_
  have H := St.init w
  refine WC.seq (WC.reg (WL.v (Ev.assign rfl) rfl (WL.nil (WQ.tn (WC.seq (WC.reg (WL.v (Ev.assign rfl) rfl (WL.nil (WQ.tn (WC.seq (WC.seq (WC.reg (WL.v (Ev.move rfl) rfl (WL.call (vs := [_, _]) rfl cl46 rfl (lb_Split s 44 (by omega) _) ?_))))))))))))))
  rintro _ w1 ⟨b, rfl, H1⟩
  replace H := (H.app H1).nilrow 9 1
  refine ⟨_, rfl, ?_⟩
  refine WL.v (Ev.lensl Tryd.underlying22 rfl) rfl (WL.v (Ev.move rfl) rfl (WL.nil (WQ.tn (WC.block (WC.loop (γ := Nat × Option Addr × Nat) (fun ⟨j, A2, c2⟩ => [(3, .slice A2 (eleP s j).length c2), (7, .slice (some ⟨b, 0, none⟩) (splitC 44 s).length (splitC 44 s).length), (8, .int .i64 ((splitC 44 s).length : Nat)), (9, .int .i64 (j : Nat))]) (fun ⟨j, A2, c2⟩ w1 => j ≤ (splitC 44 s).length ∧ St w No w1 [.row 9 1 A2 (eleP s j).length c2 ((eleP s j).flatMap kStr.enc), .row 9 1 (some ⟨b, 0, none⟩) (splitC 44 s).length (splitC 44 s).length ((splitC 44 s).flatMap kStr.enc)]) (fun ⟨j, A2, c2⟩ => (splitC 44 s).length - j) (0, none, 0) (⟨Nat.zero_le _, H⟩) ⟨rfl, rfl, rfl, rfl, trivial⟩ ?_)))))
  rintro ⟨j, A2, c2⟩ w1 ⟨hj, H⟩
  refine WC.seq (WC.reg (WL.v (Ev.lssN rfl rfl) rfl (WL.nil (WQ.tn (WC.seq (WC.cond rfl (fun h1 => ?_) (fun h1 => ?_)))))))
  · simp only [bsimp] at h1
    obtain ⟨bk, off, hbk, _, hc⟩ := (St.rdC kStr H 1 rfl).at h1
    cases hbk
    have hj1 := getx h1
    refine WC.skip (WQ.tn (WC.seq (WC.block (WC.seq (WC.reg (WL.v (Ev.idx Tryd.underlying22 sz9 rfl rfl (by omega)) rfl (WL.v (Ev.load fl9 rfl (hc _ _ hj1 0 _ rfl)) rfl (WL.v (Ev.assign rfl) rfl (WL.nil (WQ.tn (WC.seq (WC.reg (WL.v (Ev.move rfl) rfl (WL.callS (vs := [_]) rfl cl47 rfl H (lx_Trim _ (by have := splitC_sml 44 s _ (List.getElem_mem h1); unfold Sml; omega) _) fun w1 H L => (WL.v (Ev.assign rfl) rfl (WL.nil (WQ.tn (WC.seq (WC.reg (WL.v (Ev.move rfl) rfl (WL.v (Ev.nes rfl rfl) rfl (WL.nil (WQ.tn (WC.cond rfl (fun h2 => ?_) (fun h2 => ?_)))))))))))))))))))))))))
    · simp only [bsimp] at h2
      refine WC.reg (WL.v (Ev.move rfl) rfl (WL.v (Ev.move rfl) rfl (WL.buildSlice (vs := [_]) (ps := [(_, _)]) Tryd.underlying22 sz9 z9 rfl (by omega) (by omega) rfl rfl H rfl fun b1 w1 hb1 H L => (WL.append (i := 1) (news := [_]) Tryd.underlying22 sz9 by9 z9 rfl (by omega) rfl rfl H rfl rfl (H.cells 0 rfl rfl) (by exact allOne_mem rfl) (by omega) (by have := eleP_len s j; omega) rfl fun A1 c1 w1 H L LA LB => ?_))))
      replace H := H.tail
      refine WL.v (Ev.assign rfl) rfl (WL.nil (WQ.blk (WQ.tn (WC.reg (WL.v (Ev.addN (b := 1) rfl rfl (by omega)) rfl (WL.v (Ev.move rfl) rfl (WL.nil ?_)))))))
      exact WQ.again ((j + 1, A1, c1)) (⟨by omega, by rw [eleP_succ h1, if_neg h2, List.length_append, flat_snoc]; exact H⟩) ⟨(by rw [eleP_succ h1, if_neg h2, List.length_append]; rfl), rfl, rfl, rfl, trivial⟩ (by first | omega | (dsimp only; omega))
    simp only [bsimp] at h2
    refine WC.skip (WQ.blk (WQ.tn (WC.reg (WL.v (Ev.addN (b := 1) rfl rfl (by omega)) rfl (WL.v (Ev.move rfl) rfl (WL.nil ?_))))))
    exact WQ.again ((j + 1, A2, c2)) (⟨by omega, by rw [eleP_succ h1, if_pos h2]; exact H⟩) ⟨(by rw [eleP_succ h1, if_pos h2]; rfl), rfl, rfl, rfl, trivial⟩ (by first | omega | (dsimp only; omega))
  try simp only [bsimp] at h1
  refine WC.exit (WQ.tn_exit (WQ.loop_exit (WQ.blk_here rfl (WQ.tn (WC.seq (WC.reg (WL.v (Ev.move rfl) rfl (WL.v (Ev.assign rfl) rfl (WL.nil (WQ.tn (WC.ret (WQ.ret1 rfl rfl ?_))))))))))))
  obtain rfl : j = (splitC 44 s).length := by omega
  rw [eleP_end] at H ⊢
  exact ⟨A2, c2, rfl, H.sub (List.Sublist.cons_cons _ (List.Sublist.cons _ (List.nil_sublist _)))⟩
end Go.Proofs.YtodappgiadelaaaDoor
