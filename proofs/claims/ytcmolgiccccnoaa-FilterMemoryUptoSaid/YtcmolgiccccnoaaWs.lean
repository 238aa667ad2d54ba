/- The walks of functions: what each comes to. -/
import Derived.Test.YtcmolgiccccnoaaWd1
import Derived.Test.YtcmolgiccccnoaaProg
set_option linter.unusedVariables false
set_option linter.unusedSimpArgs false
namespace Go.Proofs.Ytcmolgiccccnoaa
open Go.RowKit Go.BK
theorem z42 : zOk Try.prog 42 (.agg #[.bool false, .int .i64 0, .slice none 0 0, str [], .slice none 0 0]) := by unfold zOk; kernel_rfl
theorem pl42 : plOf Try.prog 42 = some [(0, 1), (1, 1), (2, 1), (3, 1), (4, 1)] := by kernel_rfl
theorem sz42 : szOk Try.prog 42 5 := by unfold szOk; kernel_rfl
theorem ag42 : aggB Try.prog 42 = true := by kernel_rfl
theorem cl39 : callB Try.prog 39 = true := by kernel_rfl
theorem fa42_2 : fldB Try.prog 42 2 2 = true := by kernel_rfl
def kBp : Kd Fx := ⟨1, fun x => [.pointer (some ⟨x.b, 0, none⟩)], fun _ => rfl, by omega, fun x v hv => by simp at hv; subst hv; rfl⟩
@[reducible] def blkB (x : Fx) : Chunk := .blk x.b (encB x.s) 91 (0, 0)
def bksR (xs : List Fx) : Held := xs.map blkB
@[reducible] def rowB (Ab : Option Addr) (cb : Nat) (xs : List Fx) : Chunk := .row 87 1 Ab xs.length cb (xs.flatMap kBp.enc)
@[reducible] def rS (c : Nat) (Al : Option Addr) (cl : Nat) (Ab : Option Addr) (cb : Nat) (s dr seen : Int) (xs : List Fx) : Held := rC c Al xs.length cl Ab xs.length cb s dr seen :: rowB Ab cb xs :: bksR xs
@[reducible] def flC (b : Nat) (f : Flt) : Chunk := .blk b (encFl f) 29 (0, 0)
def stI (t : Stp) : Int := match t with | none => 0 | some t => t.1
def stF (t : Stp) : List Fld := match t with | none => [] | some t => t.2.1
def stB (t : Stp) : Bs := match t with | none => [] | some t => t.2.2
@[reducible] def verV (t : Stp) (Af : Option Addr) (cf : Nat) : Value := .agg #[.bool t.isSome, .int .i64 (stI t), .slice Af (stF t).length cf, str (stB t), .slice none 0 0]
def OneR (w w' : World) (base chain : Held) (t : Stp) (l' : List Fld) (G : Nat → Prop) (e : Ending) : Prop :=
  ∃ Af cf A' n' c', e = .returned (.tuple #[verV t Af cf, .slice A' n' c']) ∧ St w (Bk base) w' (rowF Af cf (stF t) :: chain) ∧ (t = none → n' = l'.length ∧ ∃ G', (∀ b, G' b → G b ∨ w.heap.size ≤ b) ∧ Rd kFd G' w' A' c' l')
theorem rowB_same {Ab : Option Addr} {cb : Nat} {pre post : List Fx} {x y : Fx} (h : x.b = y.b) : rowB Ab cb (pre ++ x :: post) = rowB Ab cb (pre ++ y :: post) := by
  have e : kBp.enc x = kBp.enc y := by show [_] = [_]; rw [h]
  unfold rowB
  rw [List.flatMap_append, List.flatMap_append, List.flatMap_cons, List.flatMap_cons, e]
  simp
theorem St.newB {w0 wm w : World} {σ : Held} (hle : w0.heap.size ≤ wm.heap.size) (H : St wm No w σ) (i : Nat) {c : Chunk} (hσ : σ[i]? = some c) : ∀ b ∈ c.blocks, w0.heap.size ≤ b := fun b hb => by
  have := (H.mem (List.mem_of_getElem? hσ) hb).resolve_left (fun h => h)
  omega
section
variable {w w' : World} {base chain : Held} {G G' : Nat → Prop} {A' : Option Addr} {c' : Nat} {l' : List Fld}
theorem OneR.go (H : St w (Bk base) w' chain) (hG : ∀ b, G' b → G b ∨ w.heap.size ≤ b) (R : Rd kFd G' w' A' c' l') : OneR w w' base chain none l' G (.returned (.tuple #[.agg #[.bool false, .int .i64 0, .slice none 0 0, str [], .slice none 0 0], .slice A' l'.length c'])) :=
  ⟨none, 0, A', _, c', rfl, H.nilrow 54 2, fun _ => ⟨rfl, G', hG, R⟩⟩
theorem OneR.stop0 {st : Int} {bd : Bs} {n' : Nat} (H : St w (Bk base) w' chain) : OneR w w' base chain (some (st, [], bd)) l' G (.returned (.tuple #[.agg #[.bool true, .int .i64 st, .slice none 0 0, str bd, .slice none 0 0], .slice A' n' c'])) :=
  ⟨none, 0, A', _, c', rfl, H.nilrow 54 2, fun h => by cases h⟩
theorem OneR.stop {st : Int} {fs : List Fld} {bd : Bs} {n' : Nat} {Af : Option Addr} {cf : Nat} (H : St w (Bk base) w' (rowF Af cf fs :: chain)) : OneR w w' base chain (some (st, fs, bd)) l' G (.returned (.tuple #[.agg #[.bool true, .int .i64 st, .slice Af fs.length cf, str bd, .slice none 0 0], .slice A' n' c'])) :=
  ⟨Af, cf, A', _, c', rfl, H, fun h => by cases h⟩
end
theorem r6_say (st : Int) (bd : Bs) (w : World) :
    Calls Try.prog 39 #[.int .i64 st, str bd] w fun e w' => e = .returned (.agg #[.bool true, .int .i64 st, .slice none 0 0, str bd, .slice none 0 0]) ∧ St w No w' [] := by
  refine calls_of Try.func39 rfl Try.ntmps39 (by rfl) (K0 := [(0, _), (1, _)]) ⟨rfl, rfl, trivial⟩ ?_
  have H := St.init w
  refine WC.seq (WC.reg (WL.alloc z42 rfl H rfl fun b1 w1 hb1 H L => (WL.nil (WQ.tn (WC.seq (WC.reg (WL.v (Ev.move rfl) rfl (WL.v (Ev.move rfl) rfl (WL.v (Ev.build (vs := [_, _, _, _, _]) (ps := [(_, _), (_, _), (_, _)]) pl42 z42 rfl rfl) rfl (WL.store (i := 0) (vs := [_, _, _, _, _]) rfl rfl rfl sz42 rfl H rfl rfl fun w1 H L => (WL.nil (WQ.tn (WC.ret (WQ.retC1 (vs := [_, _, _, _, _]) rfl rfl ag42 sz42 (H.cells 0 rfl rfl) ?_))))))))))))))
  exact ⟨rfl, H.done⟩
def corsT (f : Flt) (m : Bs) (l : List Fld) : Stp := (if m = litOptions ∧ 0 < (getF l litOrigin).2 ∧ 0 < (getF l litReqMethod).2 then some (200, [(litAllowOrigin, f.value), (litAllowMethods, (getF l litReqMethod).1)], []) else none : Stp)
def litOriginL : Bs := ([111, 114, 105, 103, 105, 110] : Bs)
def litReqMethodL : Bs := ([97, 99, 99, 101, 115, 115, 45, 99, 111, 110, 116, 114, 111, 108, 45, 114, 101, 113, 117, 101, 115, 116, 45, 109, 101, 116, 104, 111, 100] : Bs)
theorem alike_low {a b c : Bs} (h : low b = low c) : alike a b = alike a c := by unfold alike; rw [h]
theorem getF_low (l : List Fld) {b c : Bs} (h : low b = low c) : getF l b = getF l c := by
  have e : (fun f : Fld => alike f.1 b) = (fun f : Fld => alike f.1 c) := by funext f; exact alike_low h
  unfold getF; rw [e]
theorem get_origin (l : List Fld) : getF l litOriginL = getF l litOrigin := getF_low l (by decide)
theorem get_reqm (l : List Fld) : getF l litReqMethodL = getF l litReqMethod := getF_low l (by decide)
theorem r6_cors (f : Flt) (m : Bs) (A : Option Addr) (c : Nat) (l : List Fld) (G : Nat → Prop) (hl : Okf l) (w : World) (R : Rd kFd G w A c l) :
    Calls Try.prog 40 #[.agg (encFl f).toArray, str m, .slice A l.length c] w fun e w' => ∃ Af cf, e = .returned (verV (corsT f m l) Af cf) ∧ St w No w' [rowF Af cf (stF (corsT f m l))] := by
  refine calls_of Try.func40 rfl Try.ntmps40 (by rfl) (K0 := [(0, _), (1, _), (2, _)]) ⟨rfl, rfl, rfl, trivial⟩ ?_
  have H := St.init w
  refine WC.seq (WC.reg (WL.box (t := 29) (cs := [_, _, _, _, _, _]) rfl rfl H rfl fun b1 w1 hb1 H L => (WL.alloc z42 rfl H rfl fun b2 w1 hb2 H L => (WL.nil (WQ.tn (WC.seq (WC.reg (WL.v (Ev.move rfl) rfl (WL.call (vs := [_, _]) rfl cl19 rfl (ref07_Get A c l _ hl litOriginL (by unfold Sml; decide) _ (R.st H)) ?_)))))))))
  rintro _ w1 ⟨rfl, H1⟩
  rw [get_origin l]
  replace H := H.ext H1.gr
  refine ⟨_, rfl, ?_⟩
  refine WL.v (Ev.move rfl) rfl (WL.v (Ev.extract rfl rfl) rfl (WL.v (Ev.extract rfl rfl) rfl (WL.v (Ev.assign rfl) rfl (WL.v (Ev.assign rfl) rfl (WL.nil (WQ.tn (WC.seq (WC.reg (WL.v (Ev.move rfl) rfl (WL.call (vs := [_, _]) rfl cl19 rfl (ref07_Get A c l _ hl litReqMethodL (by unfold Sml; decide) _ (R.st H)) ?_))))))))))
  rintro _ w1 ⟨rfl, H1⟩
  rw [get_reqm l]
  replace H := H.ext H1.gr
  refine ⟨_, rfl, ?_⟩
  refine WL.v (Ev.move rfl) rfl (WL.v (Ev.extract rfl rfl) rfl (WL.v (Ev.extract rfl rfl) rfl (WL.v (Ev.assign rfl) rfl (WL.v (Ev.assign rfl) rfl (WL.nil (WQ.tn (WC.seq (WC.seq (WC.reg (WL.v (Ev.move rfl) rfl (WL.v (Ev.nes rfl rfl) rfl (WL.v (Ev.move rfl) rfl (WL.g (Met.no rfl rfl) (fun hg => Ev.move rfl) rfl (WL.g (Met.no rfl rfl) (fun hg => Ev.eqN (b := 0) ((evG.un rfl).ev hg) rfl) rfl (WL.v (Ev.or rfl rfl rfl) rfl (WL.v (Ev.move rfl) rfl (WL.g (Met.no rfl rfl) (fun hg => Ev.move rfl) rfl (WL.g (Met.no rfl rfl) (fun hg => Ev.eqN (b := 0) ((evG.un rfl).ev hg) rfl) rfl (WL.v (Ev.or rfl rfl rfl) rfl (WL.nil ?_))))))))))))))))))))
  refine WQ.tn (WC.cond rfl (fun h0 => ?_) (fun h0 => ?_))
  · try simp only [bsimp] at h0
    refine WC.seq (WC.reg (WL.v (Ev.build (vs := [_, _, _, _, _]) (ps := []) pl42 z42 rfl rfl) rfl (WL.store (i := 0) (vs := [_, _, _, _, _]) rfl rfl rfl sz42 rfl H rfl rfl fun w1 H L => (WL.nil (WQ.tn (WC.ret (WQ.tn_ret (WQ.retC1 (vs := [_, _, _, _, _]) rfl rfl ag42 sz42 (H.cells 0 rfl rfl) ?_))))))))
    have e1 : corsT f m l = none := by unfold corsT; rw [if_neg (fun hh => by obtain ⟨h1, h2, h3⟩ := hh; rcases h0 with (h0 | h0) | h0; exact h0 h1; omega; omega)]
    rw [e1]
    exact ⟨none, 0, rfl, H.done.nilrow 54 2⟩
  try simp only [bsimp] at h0
  refine WC.skip (WQ.tn (WC.seq (WC.reg (WL.callS (vs := [_, _]) rfl cl39 rfl H (r6_say _ _ _) fun w1 H L => (WL.alloc z42 rfl H rfl fun b3 w1 hb3 H L => (WL.store (i := 0) (vs := [_, _, _, _, _]) rfl rfl rfl sz42 rfl H rfl rfl fun w1 H L => (WL.nil (WQ.tn (WC.seq (WC.reg (WL.v (Ev.fieldAddr fa29_2 rfl) rfl (WL.v (Ev.load fl9 rfl (H.cell 2 rfl rfl)) rfl (WL.v (Ev.build (vs := [_, _]) (ps := [(_, _), (_, _)]) pl54 z54 rfl rfl) rfl (WL.v (Ev.move rfl) rfl (WL.v (Ev.build (vs := [_, _]) (ps := [(_, _), (_, _)]) pl54 z54 rfl rfl) rfl (WL.buildSlice (vs := [_, _, _, _]) (ps := [(_, _), (_, _)]) Try.underlying32 sz54 z54 rfl (by omega) (by omega) rfl rfl H rfl fun b4 w1 hb4 H L => (WL.v (Ev.fieldAddr fa42_2 rfl) rfl (WL.store (i := 1) (vs := [_]) rfl rfl rfl sz32 rfl H rfl rfl fun w1 H L => (WL.nil ?_)))))))))))))))))))
  refine WQ.tn (WC.seq (WC.reg (WL.v (Ev.loadA (vs := [_, _, _, _, _]) ag42 sz42 rfl (H.cells 1 rfl rfl)) rfl (WL.store (i := 2) (vs := [_, _, _, _, _]) rfl rfl rfl sz42 rfl H rfl rfl fun w1 H L => (WL.nil (WQ.tn (WC.ret (WQ.retC1 (vs := [_, _, _, _, _]) rfl rfl ag42 sz42 (H.cells 2 rfl rfl) ?_))))))))
  have e1 : corsT f m l = some (200, [(litAllowOrigin, f.value), (litAllowMethods, (getF l litReqMethod).1)], []) := by unfold corsT; rw [if_pos (by obtain ⟨⟨h1, h2⟩, h3⟩ := h0; exact ⟨h1, by omega, by omega⟩)]
  rw [e1]
  have H := H.toRow 0 (m := 2) (k := 2) rfl rfl (by decide)
  exact ⟨some ⟨b4, 0, none⟩, 2, rfl, H.sub (List.Sublist.cons_cons _ (List.Sublist.cons _ (List.Sublist.cons _ (List.Sublist.cons _ (List.nil_sublist _)))))⟩
end Go.Proofs.Ytcmolgiccccnoaa
