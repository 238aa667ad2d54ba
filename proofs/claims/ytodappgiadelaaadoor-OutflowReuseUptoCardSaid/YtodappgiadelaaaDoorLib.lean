/- Go's library, as the shelf's contracts give it, in the words of these texts. -/
import Derived.Test.YtodappgiadelaaaDoorHttp
import Derived.Test.YtodappgiadelaaaDoorRnd
import Derived.Test.YtodappgiadelaaaDoorShelf
import Derived.Shelf.Strings.SlTrimAscii
import Derived.Shelf.Strings.SplitCore
set_option linter.unusedVariables false
set_option linter.unusedSimpArgs false
namespace Go.BK
open Go.RowKit
theorem dw_ex {α : Type} (p : α → Bool) : ∀ l : List α, ∃ k, k ≤ l.length ∧ l.dropWhile p = l.drop k ∧ (l.take k).all p = true ∧ ∀ x, l[k]? = some x → p x = false
  | [] => ⟨0, Nat.le_refl _, rfl, rfl, by simp⟩
  | x :: r => by
    cases hp : p x with
    | false => exact ⟨0, Nat.zero_le _, by rw [List.dropWhile_cons_of_neg (by simp [hp])]; rfl, rfl, fun y hy => by simp at hy; subst hy; exact hp⟩
    | true =>
      obtain ⟨k, h1, h2, h3, h4⟩ := dw_ex p r
      exact ⟨k + 1, by simp; omega, by rw [List.dropWhile_cons_of_pos hp, List.drop_succ_cons, h2], by rw [List.take_succ_cons, List.all_cons, hp, h3]; rfl, fun y hy => h4 y (by simpa using hy)⟩
theorem trimS_eq (s : Bs) : Lib.trimS s [32, 9] = trim s := by
  have hp : (fun c : UInt8 => [32, 9].contains c) = isBlank := by
    funext c
    unfold isBlank
    simp [List.contains, List.elem]
    by_cases h1 : c = 32
    · subst h1; rfl
    · by_cases h2 : c = 9
      · subst h2; rfl
      · have e1 : (c == 32) = false := by simpa using h1
        have e2 : (c == 9) = false := by simpa using h2
        simp [h1, h2, e1, e2]
  unfold Lib.trimS Lib.trimLeftS Lib.trimRightS
  rw [hp]
  obtain ⟨k, h1, h2, h3, h4⟩ := dw_ex isBlank s.reverse
  rw [h2, List.reverse_drop, List.reverse_reverse]
  simp only [List.length_reverse] at h1 ⊢
  obtain ⟨a, g1, g2, g3, g4⟩ := dw_ex isBlank (s.take (s.length - k))
  rw [g2]
  rw [List.length_take] at g1
  have ha : a ≤ s.length - k := by omega
  have hb : s.length - k ≤ s.length := by omega
  rw [List.drop_take]
  refine trim_of ha hb ?_ ?_ ?_ ?_
  · rw [List.take_take, Nat.min_eq_left ha] at g3; exact g3
  · intro hl x hx
    exact g4 x (by rw [List.getElem?_take_of_lt hl]; exact hx)
  · rw [List.take_reverse, List.all_reverse] at h3; exact h3
  · intro hl x hx
    refine h4 x ?_
    rw [List.getElem?_reverse (by omega)]
    rw [← hx]; congr 1; omega
theorem index_cons (x c : UInt8) (r : Bs) : Lib.index (x :: r) [c] = if x = c then 0 else if Lib.index r [c] = -1 then -1 else Lib.index r [c] + 1 := by
  rw [Lib.index]
  by_cases h : x = c
  · subst h; simp
  · rw [if_neg h, if_neg (by simpa using fun e => h e.symm)]
    simp only [beq_iff_eq]
theorem index_ge (c : UInt8) : ∀ s : Bs, -1 ≤ Lib.index s [c]
  | [] => by simp [Lib.index]
  | x :: r => by
    have := index_ge c r
    rw [index_cons]
    split
    · omega
    · split <;> omega
theorem index_no (c : UInt8) : ∀ s : Bs, Lib.index s [c] = -1 ↔ s.count c = 0
  | [] => by simp [Lib.index]
  | x :: r => by
    have h1 := index_no c r
    have h2 := index_ge c r
    rw [index_cons]
    by_cases h : x = c
    · subst h; simp
    · rw [if_neg h, List.count_cons_of_ne h]
      split
      · rename_i h3; simp [h1.1 h3]
      · rename_i h3
        constructor
        · intro h4; omega
        · intro h4; exact absurd (h1.2 h4) h3
theorem splitK_eq (c : UInt8) : ∀ s : Bs, Lib.splitK [c] 0 (s.count c) s = splitC c s
  | [] => rfl
  | x :: r => by
    have ih := splitK_eq c r
    by_cases h : x = c
    · subst h
      rw [List.count_cons_self, Lib.splitK, index_cons, if_pos rfl, if_neg (by decide), splitC, if_pos rfl]
      exact congrArg (List.cons []) ih
    · rw [List.count_cons_of_ne h, splitC, if_neg h, ← ih]
      cases hk : r.count c with
      | zero => rfl
      | succ k =>
        have h0 : Lib.index r [c] ≠ -1 := fun e => by have := (index_no c r).1 e; omega
        have h1 := index_ge c r
        rw [Lib.splitK, Lib.splitK, index_cons, if_neg h, if_neg h0]
        rw [if_neg (by simp only [beq_iff_eq]; omega), if_neg (by simpa using h0)]
        obtain ⟨i, hi⟩ : ∃ i : Nat, Lib.index r [c] = i := ⟨(Lib.index r [c]).toNat, by omega⟩
        rw [hi]
        have e1 : ((i : Int) + 1).toNat = i + 1 := by omega
        rw [e1]
        simp
theorem cut_eq (c : UInt8) : ∀ s : Bs, Lib.cut s [c] = cutP c s
  | [] => by simp [Lib.cut, Lib.index, cutP]
  | x :: r => by
    have ih := cut_eq c r
    have hg := index_ge c r
    unfold Lib.cut cutP at *
    rw [index_cons]
    by_cases h : x = c
    · subst h; simp
    · have hne : ¬ c = x := fun e => h e.symm
      have e1 : c ∈ x :: r ↔ c ∈ r := by simp [hne]
      rw [if_neg h, List.takeWhile_cons_of_pos (by simp [h]), List.dropWhile_cons_of_pos (by simp [h])]
      by_cases h0 : Lib.index r [c] = -1
      · have hc : ¬ c ∈ r := by have := (index_no c r).1 h0; rwa [List.count_eq_zero] at this
        rw [if_pos h0, if_neg (by omega), if_neg (by rw [e1]; exact hc)]
      · have hc : c ∈ r := by
          rcases Nat.eq_zero_or_pos (r.count c) with hz | hz
          · exact absurd ((index_no c r).2 hz) h0
          · exact List.count_pos_iff.1 hz
        rw [if_pos hc, if_pos (by omega)] at ih
        rw [if_neg h0, if_pos (by omega), if_pos (by rw [e1]; exact hc)]
        obtain ⟨i, hi⟩ : ∃ i : Nat, Lib.index r [c] = i := ⟨(Lib.index r [c]).toNat, by omega⟩
        rw [hi] at ih ⊢
        have e2 : ((i : Int) + 1).toNat = i + 1 := by omega
        rw [e2]
        simp only [Int.toNat_natCast, List.length_cons, List.length_nil, Prod.mk.injEq, and_true] at ih ⊢
        rw [List.take_succ_cons, ih.1]
        refine ⟨rfl, ?_⟩
        rw [show i + 1 + (0 + 1) = (i + (0 + 1)) + 1 by omega, List.drop_succ_cons, ih.2]
end Go.BK
namespace Go.Proofs.YtodappgiadelaaaDoor
open Go.RowKit Go.BK Go.Proofs
theorem st_same (w : World) : St w No w [] := St.init w
theorem lb_IndexByte (s : Bs) (c : Int) (w : World) : Calls Tryd.prog 69 #[str s, .int .u8 c] w fun e w' => e = .returned (.int .i64 (Lib.indexByte s c.toNat.toUInt8)) ∧ St w No w' [] := by
  refine (Tryd.strings_IndexByte ⟨s.toArray⟩ c w).mono ?_
  rintro e w' ⟨rfl, rfl⟩
  exact ⟨rfl, St.init _⟩
theorem lb_HasPrefix (s p : Bs) (w : World) : Calls Tryd.prog 38 #[str s, str p] w fun e w' => e = .returned (.bool (Lib.hasPrefix s p)) ∧ St w No w' [] := by
  refine (Tryd.strings_HasPrefix ⟨s.toArray⟩ ⟨p.toArray⟩ w).mono ?_
  rintro e w' ⟨rfl, rfl⟩
  exact ⟨rfl, St.init _⟩
theorem lb_Index1 (s : Bs) (c : UInt8) (w : World) : Calls Tryd.prog 83 #[str s, str [c]] w fun e w' => e = .returned (.int .i64 (Lib.index s [c])) ∧ St w No w' [] := by
  refine (Tryd.stringslite_Index_one ⟨s.toArray⟩ c w).mono ?_
  rintro e w' ⟨rfl, rfl⟩
  exact ⟨by rw [Lib.index_one], St.init _⟩
theorem lb_Trim (s : Bs) (hs : Sml s.length) (w : World) : Calls Tryd.prog 62 #[str s, str [32, 9]] w fun e w' => e = .returned (str (trim s)) ∧ St w No w' [] := by
  have hl := hs.le
  refine (Any.strings_Trim_laid Tryd.lays160 (by kernel_rfl) ⟨s.toArray⟩ ⟨#[32, 9]⟩ w (by simp [ByteArray.size]; omega) (by decide) (ascii_of_all (by decide))).mono ?_
  rintro e w' ⟨rfl, hb⟩
  exact ⟨by rw [show (⟨s.toArray⟩ : ByteArray).data.toList = s from rfl, show (⟨#[32, 9]⟩ : ByteArray).data.toList = [32, 9] from rfl, trimS_eq], Ext.of_below hb, by simp, by simp⟩
theorem lb_genSplit1 (s : Bs) (c : UInt8) (hs : s.length < 4294967281) (w : World) : Calls Tryd.prog 61 #[str s, str [c], .int .i64 0, .int .i64 (-1)] w fun e w' =>
    ∃ b, e = .returned (.slice (some ⟨b, 0, none⟩) (splitC c s).length (splitC c s).length) ∧ St w No w' [.row 9 1 (some ⟨b, 0, none⟩) (splitC c s).length (splitC c s).length ((splitC c s).flatMap kStr.enc)] := by
  have hsz : (⟨s.toArray⟩ : ByteArray).size = s.length := by simp [ByteArray.size]
  have h1 : 1 ≤ (⟨#[c]⟩ : ByteArray).size := Nat.le_refl _
  have hle := Lib.countB_le ⟨#[c]⟩ h1 _ ⟨s.toArray⟩ (Nat.le_refl _)
  have hlen := Lib.splitB_all ⟨#[c]⟩ h1 0 _ ⟨s.toArray⟩ rfl
  have hcnt : Lib.countB ⟨s.toArray⟩ ⟨#[c]⟩ = s.count c := Lib.count_one c s
  have k := Any.strings_genSplit_core Tryd.lays221 (by kernel_rfl) ⟨s.toArray⟩ ⟨#[c]⟩ 0 (-1) (Lib.countB ⟨s.toArray⟩ ⟨#[c]⟩ + 1) w (by rw [hsz]; exact hs) h1 (Nat.zero_le _)
    (fun x cc hx => (Tryd.strings_Index_one x c _).mono (by rintro e w' ⟨rfl, rfl⟩; exact ⟨by rw [show Lib.indexB x ⟨#[c]⟩ = Lib.index x.data.toList [c] from rfl, Lib.index_one], rfl⟩))
    ((Tryd.strings_Count_one ⟨s.toArray⟩ c w).mono (by rintro e w' ⟨rfl, rfl⟩; exact ⟨by rw [hcnt]; rfl, rfl⟩))
    (by decide) (by decide) (by rw [if_pos (by decide)]; omega)
  rw [Nat.add_sub_cancel, hlen] at k
  have e2 : Lib.cellsOf (Lib.splitB ⟨#[c]⟩ 0 (Lib.countB ⟨s.toArray⟩ ⟨#[c]⟩) ⟨s.toArray⟩) (Lib.countB ⟨s.toArray⟩ ⟨#[c]⟩ + 1) = ((Lib.splitB ⟨#[c]⟩ 0 (Lib.countB ⟨s.toArray⟩ ⟨#[c]⟩) ⟨s.toArray⟩).map Value.string).toArray := by rw [← hlen]; exact Lib.cellsOf_full _
  rw [e2] at k
  have e3 : (Lib.splitB ⟨#[c]⟩ 0 (Lib.countB ⟨s.toArray⟩ ⟨#[c]⟩) ⟨s.toArray⟩).map (·.data.toList) = splitC c s := by
    rw [Lib.splitB_data, hcnt]
    exact splitK_eq c s
  have e4 : (Lib.splitB ⟨#[c]⟩ 0 (Lib.countB ⟨s.toArray⟩ ⟨#[c]⟩) ⟨s.toArray⟩).map Value.string = (splitC c s).flatMap kStr.enc := by
    rw [← e3, List.flatMap_map]
    generalize Lib.splitB ⟨#[c]⟩ 0 (Lib.countB ⟨s.toArray⟩ ⟨#[c]⟩) ⟨s.toArray⟩ = l
    induction l with
    | nil => rfl
    | cons x r ih => rw [List.map_cons, List.flatMap_cons, ih]; rfl
  have e5 : (splitC c s).length = Lib.countB ⟨s.toArray⟩ ⟨#[c]⟩ + 1 := by rw [← e3, List.length_map, hlen]
  refine k.mono ?_
  rintro e w' ⟨rfl, rfl⟩
  rw [e4, e5]
  refine ⟨_, rfl, ?_⟩
  have H := (St.init w).alloc ((splitC c s).flatMap kStr.enc) 9
  exact H.toRow 0 (m := Lib.countB ⟨s.toArray⟩ ⟨#[c]⟩ + 1) (k := 1) rfl (by rw [flat_len kStr, e5]; rfl) (by unfold maxLen; omega)
end Go.Proofs.YtodappgiadelaaaDoor
