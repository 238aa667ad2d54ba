/- FilterMemory returns true and the input reads as it did, wherever what it reads is of bulk at most 1048576. -/
import Derived.Test.YtcmolgiccccnoaaLMemory
import Derived.Test.YtcmolgiccccnoaaWo
import Derived.Test.YtcmolgiccccnoaaRows
import Derived.Test.YtcmolgiccccnoaaChecked
import Derived.JoinedCond
set_option linter.unusedVariables false
set_option linter.unusedSimpArgs false
namespace Go.Proofs.Ytcmolgiccccnoaa.filterMemory
open Go.RowKit Go.ChangeShapes Go.WideShapes Go.ChangeAt Go.BK Go.Proofs.Ytcmolgiccccnoaa
theorem own : ownKnob Try.prog.godebug = none := by kernel_rfl
set_option maxRecDepth 100000 in
theorem contract (H : Type) (enc : TypeId × Value → H) (W : World) (base : Nat) (args : Array Value) (ds gs : List (DataW H)) (before : List MemPlace)
    (hval : ∀ (j : Nat) t v, Try.f6.params[j]? = some t → args[j]? = some v → Value.okWide Try.prog W .any base t v)
    (hW : DataW.Whole enc Try.prog Try.f6.params.toList Rows.filterMemorySpec.vars false W args.toList ds gs before) (hk : Rows.uptoSmall H (ds ++ gs) = true) :
    Calls Try.prog 6 args W fun e W' => ∃ v, e = .returned v ∧ Rows.filterMemorySpec.post enc Try.prog Try.f6 false true false false W args v W' := by
  have hW' := hW
  obtain ⟨p, q, hA0, hV, rfl, hfz, hnd⟩ := hW
  have hA : DataW.TrodAll enc Try.prog W 0 (fun _ => true) true Try.f6.params.toList args.toList ds p := hA0
  rw [Try.params6] at hA hval
  obtain ⟨v0, vs0, d0, ds0, p0, q0, hargs, rfl, rfl, h0, r0⟩ := trodAll_cons hA
  obtain ⟨v1, vs1, d1, ds1, p1, q1, rfl, rfl, rfl, h1, r1⟩ := trodAll_cons r0
  obtain ⟨rfl, rfl, rfl⟩ := trodAll_nil r1
  obtain rfl : args = #[v0, v1] := by cases args; simp_all
  obtain ⟨rfl, rfl⟩ := trodVars_none hV
  have hb := bulks.bound hk
  simp only [List.append_nil, Rows.uptoBulkAll] at hb
  obtain ⟨A0, c0, x0, hX0⟩ := open_L (hval 0 22 v0 rfl rfl) h0
  have hZ0 := hX0.small (B := 1048576) (by omega)
  obtain ⟨rfl, hR0, _⟩ := hX0
  obtain ⟨A1, c1, x1, hX1⟩ := open_F (hval 1 32 v1 rfl rfl) h1
  have hZ1 := hX1.small (B := 1048576) (by omega)
  obtain ⟨rfl, hR1, _⟩ := hX1
  exact law_post laid Try.underlying4 (fun t ht => by
    rw [Try.params6] at ht
    simp only [List.mem_cons, List.not_mem_nil, or_false] at ht
    rcases ht with rfl | rfl
    all_goals exact ⟨by kernel_rfl, of_decide_eq_true (by kernel_rfl)⟩) rfl rfl hW' rfl (lw_Memory A0 c0 x0 A1 c1 x1 (le_sml hZ0.1) (fun f hf => ⟨le_sml (hZ0.2 f hf).1, le_sml (hZ0.2 f hf).2⟩) ⟨by have h1 := hZ0.1; have h3 := hZ1.1; unfold Sml; omega, (fun f hf => ⟨le_sml (hZ1.2 f hf).1, le_sml (hZ1.2 f hf).2⟩)⟩ W hR0 hR1)
set_option maxRecDepth 100000 in
theorem lifted (os : Os) (started : os.Started) (H : Type) (enc : TypeId × Value → H) (F : Stop.Interp) :
    ReturnsInHanded {} Try.checked os 6 .any ((Rows.OpenSpec.upto Rows.filterMemorySpec).pre6 enc Try.prog Try.f6 Rows.filterMemoryUptoRow.domain false) (((Rows.OpenSpec.upto Rows.filterMemorySpec).at F).post enc Try.prog Try.f6 false true false false) := by
  refine returnsInHanded_of_cond (C := Try.checked) (s := Rows.OpenSpec.upto Rows.filterMemorySpec) (k := Rows.uptoSmall) rfl own started (by kernel_rfl) Try.func6
    (OpenSpec.witness (enc := enc) (C := Try.checked) (s := Rows.OpenSpec.upto Rows.filterMemorySpec) (k := Rows.uptoSmall) rfl false ⟨#[], #[.slice none 0 0, .slice none 0 0], []⟩ 8 (by kernel_rfl) (by kernel_rfl) (by kernel_rfl)
      (x := ([.nil, .nil], [], [])) (by kernel_rfl) rfl (by kernel_rfl)) ?_
  intro W base args ds gs before hval hW _ hk _
  exact contract H enc W base args ds gs before hval hW hk
theorem over : Rows.filterMemoryUptoRow.holds Try.pinned (Rows.OpenSpec.upto Rows.filterMemorySpec) :=
  OpenClaim.holds_of_cond 6 Try.f6 rfl rfl rfl rfl rfl rfl rfl ⟨rfl, rfl, rfl, rfl, rfl⟩ rfl rfl rfl rfl rfl (by kernel_rfl) Try.func6 (by kernel_rfl)
    (of_decide_eq_true (by kernel_rfl)) (by unfold Func.isWrapper; first | (rw [if_pos (by decide +kernel)]; kernel_rfl) | (rw [if_neg (by decide +kernel)]; exact ⟨rfl, rfl⟩))
    (fun os started H enc _ F => lifted os started H enc F)
/-- FilterMemory, as the document states it, up to the bound. -/
theorem proved : Rows.FilterMemoryUptoSaid := over
#print axioms proved
end Go.Proofs.Ytcmolgiccccnoaa.filterMemory
