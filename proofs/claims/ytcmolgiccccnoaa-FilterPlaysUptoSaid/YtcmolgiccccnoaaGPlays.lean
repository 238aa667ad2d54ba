/- FilterPlays returns true and the input reads as it did, wherever what it reads is of bulk at most 1048576. -/
import Derived.Test.YtcmolgiccccnoaaLPlays
import Derived.Test.YtcmolgiccccnoaaWo2
import Derived.Test.YtcmolgiccccnoaaRows
import Derived.Test.YtcmolgiccccnoaaChecked
import Derived.JoinedCond
set_option linter.unusedVariables false
set_option linter.unusedSimpArgs false
namespace Go.Proofs.Ytcmolgiccccnoaa.filterPlays
open Go.RowKit Go.ChangeShapes Go.WideShapes Go.ChangeAt Go.BK Go.Proofs.Ytcmolgiccccnoaa
theorem own : ownKnob Try.prog.godebug = none := by kernel_rfl
set_option maxRecDepth 100000 in
theorem contract (H : Type) (enc : TypeId × Value → H) (W : World) (base : Nat) (args : Array Value) (ds gs : List (DataW H)) (before : List MemPlace)
    (hval : ∀ (j : Nat) t v, Try.f3.params[j]? = some t → args[j]? = some v → Value.okWide Try.prog W .any base t v)
    (hW : DataW.Whole enc Try.prog Try.f3.params.toList Rows.filterPlaysSpec.vars false W args.toList ds gs before) (hk : Rows.uptoSmall H (ds ++ gs) = true) :
    Calls Try.prog 3 args W fun e W' => ∃ v, e = .returned v ∧ Rows.filterPlaysSpec.post enc Try.prog Try.f3 false true false false W args v W' := by
  have hW' := hW
  obtain ⟨p, q, hA0, hV, rfl, hfz, hnd⟩ := hW
  have hA : DataW.TrodAll enc Try.prog W 0 (fun _ => true) true Try.f3.params.toList args.toList ds p := hA0
  rw [Try.params3] at hA hval
  obtain ⟨v0, vs0, d0, ds0, p0, q0, hargs, rfl, rfl, h0, r0⟩ := trodAll_cons hA
  obtain ⟨v1, vs1, d1, ds1, p1, q1, rfl, rfl, rfl, h1, r1⟩ := trodAll_cons r0
  obtain ⟨v2, vs2, d2, ds2, p2, q2, rfl, rfl, rfl, h2, r2⟩ := trodAll_cons r1
  obtain ⟨rfl, rfl, rfl⟩ := trodAll_nil r2
  obtain rfl : args = #[v0, v1, v2] := by cases args; simp_all
  obtain ⟨rfl, rfl⟩ := trodVars_none hV
  have hb := bulks.bound hk
  simp only [List.append_nil, Rows.uptoBulkAll] at hb
  obtain ⟨A0, c0, x0, hX0⟩ := open_L (hval 0 22 v0 rfl rfl) h0
  have hZ0 := hX0.small (B := 1048576) (by omega)
  obtain ⟨rfl, hR0, _⟩ := hX0
  obtain ⟨n1, rfl, rfl, rfl, w1⟩ := open_int Try.underlying3 (hval 1 3 v1 rfl rfl) h1
  obtain ⟨A2, c2, x2, rfl, hR2, hX2⟩ := open_S (hval 2 23 v2 rfl rfl) h2
  have hZ2 := smallS (B := 1048576) hX2 (by omega)
  exact law_post laid Try.underlying4 (fun t ht => by
    rw [Try.params3] at ht
    simp only [List.mem_cons, List.not_mem_nil, or_false] at ht
    rcases ht with rfl | rfl | rfl
    all_goals exact ⟨by kernel_rfl, of_decide_eq_true (by kernel_rfl)⟩) rfl rfl hW' rfl (lw_Plays A0 c0 x0 n1 A2 c2 x2 (le_sml hZ0.1) (fun f hf => ⟨le_sml (hZ0.2 f hf).1, le_sml (hZ0.2 f hf).2⟩) (le_sml hZ2.1) W (fun a ha => ⟨(hZ2.2 a ha).1, ⟨by have h1 := hZ0.1; have h2 := (hZ2.2 a ha).2.2.1; unfold Sml; omega, fun f hf => ⟨le_sml ((hZ2.2 a ha).2.2.2 f hf).1, le_sml ((hZ2.2 a ha).2.2.2 f hf).2⟩⟩, (hZ2.2 a ha).2.1⟩) hR0 hR2)
set_option maxRecDepth 100000 in
theorem lifted (os : Os) (started : os.Started) (H : Type) (enc : TypeId × Value → H) (F : Stop.Interp) :
    ReturnsInHanded {} Try.checked os 3 .any ((Rows.OpenSpec.upto Rows.filterPlaysSpec).pre6 enc Try.prog Try.f3 Rows.filterPlaysUptoRow.domain false) (((Rows.OpenSpec.upto Rows.filterPlaysSpec).at F).post enc Try.prog Try.f3 false true false false) := by
  refine returnsInHanded_of_cond (C := Try.checked) (s := Rows.OpenSpec.upto Rows.filterPlaysSpec) (k := Rows.uptoSmall) rfl own started (by kernel_rfl) Try.func3
    (OpenSpec.witness (enc := enc) (C := Try.checked) (s := Rows.OpenSpec.upto Rows.filterPlaysSpec) (k := Rows.uptoSmall) rfl false ⟨#[], #[.slice none 0 0, .int .i64 0, .slice none 0 0], []⟩ 8 (by kernel_rfl) (by kernel_rfl) (by kernel_rfl)
      (x := ([.nil, .lit (.int .i64 0), .nil], [], [])) (by kernel_rfl) rfl (by kernel_rfl)) ?_
  intro W base args ds gs before hval hW _ hk _
  exact contract H enc W base args ds gs before hval hW hk
theorem over : Rows.filterPlaysUptoRow.holds Try.pinned (Rows.OpenSpec.upto Rows.filterPlaysSpec) :=
  OpenClaim.holds_of_cond 3 Try.f3 rfl rfl rfl rfl rfl rfl rfl ⟨rfl, rfl, rfl, rfl, rfl⟩ rfl rfl rfl rfl rfl (by kernel_rfl) Try.func3 (by kernel_rfl)
    (of_decide_eq_true (by kernel_rfl)) (by unfold Func.isWrapper; first | (rw [if_pos (by decide +kernel)]; kernel_rfl) | (rw [if_neg (by decide +kernel)]; exact ⟨rfl, rfl⟩))
    (fun os started H enc _ F => lifted os started H enc F)
/-- FilterPlays, as the document states it, up to the bound. -/
theorem proved : Rows.FilterPlaysUptoSaid := over
#print axioms proved
end Go.Proofs.Ytcmolgiccccnoaa.filterPlays
