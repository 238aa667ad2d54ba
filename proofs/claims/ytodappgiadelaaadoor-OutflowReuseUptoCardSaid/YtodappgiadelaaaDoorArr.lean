/- Arrays that are written out: this file names no program. -/
import Derived.Test.YtodappgiadelaaaDoorRnd
set_option linter.unusedVariables false
set_option linter.unusedSimpArgs false
namespace Go.BK
open Go.RowKit
section
variable {P : Program} {K : Kn} {w : World} {ty : TypeId}
theorem evp_map {n : Nat} {l : Array Value} {ds : List Deferred} (hl : Agree n K l) : ∀ (ps : List (Nat × Operand)) (vs : List (Nat × Value)), evp K ps = some vs → ps.map (fun (i, x) => (i, Act.eval ⟨l, ds⟩ x)) = vs := by
  intro ps
  induction ps with
  | nil => intro vs h; simpa [evp, eq_comm] using h
  | cons p ps ih =>
    intro vs h
    obtain ⟨i, x⟩ := p
    unfold evp at h
    cases hv : evO K x with
    | none => rw [hv] at h; cases h
    | some v =>
      cases hu : evp K ps with
      | none => rw [hv, hu] at h; cases h
      | some us =>
        rw [hv, hu] at h
        simp only [Option.some.injEq] at h
        subst h
        simp [ev_of hl hv, ih us hu]
theorem Ev.buildA {t e k len : Nat} {parts : Array (Nat × Operand)} {vs : List Value} {z : Value} {ps : List (Nat × Value)} (hu : P.underlying t = some (.array len e)) (hs : szOk P e k) (hz : zOk P t z) (hps : evp K parts.toList = some ps)
    (hfill : fillL (fun i => some (i * k, k)) z.cells.toList ps = some vs) : Ev P K (.build t parts) ty w (.agg vs.toArray) w := by
  have hfill : Instr.fill (fun i => some (i * k, k)) z.cells ps = some vs.toArray := by
    have h := fill_fillL (fun i => some (i * k, k)) ps z.cells.toList vs hfill
    simpa using h
  intro n ds l d pos es g hl
  have e1 : (parts.map fun (i, x) => (i, Act.eval ⟨l, ds⟩ x)).toList = ps := by simpa using evp_map (ds := ds) hl parts.toList ps hps
  simp only [execOp, Instr.build, e1, Sem.run_bind, run_zero hz, Result.andThen_ok, run_underlying hu, run_sizeOf hs, hfill, Sem.run_pure]
end
end Go.BK
