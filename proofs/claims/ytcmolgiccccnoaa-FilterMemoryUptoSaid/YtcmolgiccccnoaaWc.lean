/- The walks of functions: what each comes to. -/
import Derived.Test.YtcmolgiccccnoaaWd
import Derived.Test.YtcmolgiccccnoaaProg
set_option linter.unusedVariables false
set_option linter.unusedSimpArgs false
namespace Go.Proofs.Ytcmolgiccccnoaa
open Go.RowKit Go.BK
theorem pl62 : plOf Try.prog 62 = some [(0, 1), (1, 1)] := by kernel_rfl
theorem z62 : zOk Try.prog 62 (.agg #[.slice none 0 0, .int .i64 0]) := by unfold zOk; kernel_rfl
theorem cl23 : callB Try.prog 23 = true := by kernel_rfl
theorem sz29 : szOk Try.prog 29 6 := by unfold szOk; kernel_rfl
theorem ag29 : aggB Try.prog 29 = true := by kernel_rfl
theorem z29 : zOk Try.prog 29 (.agg #[.int .i64 0, str [], str [], .int .i64 0, .int .i64 0, .int .i64 0]) := by unfold zOk; kernel_rfl
theorem pl66 : plOf Try.prog 66 = some [(0, 6)] := by kernel_rfl
theorem z66 : zOk Try.prog 66 (.agg #[.int .i64 0, str [], str [], .int .i64 0, .int .i64 0, .int .i64 0]) := by unfold zOk; kernel_rfl
theorem sz66 : szOk Try.prog 66 6 := by unfold szOk; kernel_rfl
theorem fa29_0 : fldB Try.prog 29 0 0 = true := by kernel_rfl
theorem fa62_0 : fldB Try.prog 62 0 0 = true := by kernel_rfl
theorem fl60 : flatB Try.prog 60 = true := by kernel_rfl
theorem ag66 : aggB Try.prog 66 = true := by kernel_rfl
theorem pl68 : plOf Try.prog 68 = some [(0, 6)] := by kernel_rfl
theorem z68 : zOk Try.prog 68 (.agg #[.int .i64 0, str [], str [], .int .i64 0, .int .i64 0, .int .i64 0]) := by unfold zOk; kernel_rfl
theorem co68 : Try.prog.concrete 68 = true := by kernel_rfl
theorem sz96 : szOk Try.prog 96 1 := by unfold szOk; kernel_rfl
theorem z96 : zOk Try.prog 96 (.nilIface) := by unfold zOk; kernel_rfl
theorem by96 : byOk Try.prog 96 16 := by unfold byOk; kernel_rfl
theorem sz60 : szOk Try.prog 60 1 := by unfold szOk; kernel_rfl
theorem pl69 : plOf Try.prog 69 = some [(0, 6)] := by kernel_rfl
theorem z69 : zOk Try.prog 69 (.agg #[.int .i64 0, str [], str [], .int .i64 0, .int .i64 0, .int .i64 0]) := by unfold zOk; kernel_rfl
theorem co69 : Try.prog.concrete 69 = true := by kernel_rfl
theorem fa29_5 : fldB Try.prog 29 5 5 = true := by kernel_rfl
theorem cl24 : callB Try.prog 24 = true := by kernel_rfl
theorem pl74 : plOf Try.prog 74 = some [(0, 6), (6, 1)] := by kernel_rfl
theorem z74 : zOk Try.prog 74 (.agg #[.int .i64 0, str [], str [], .int .i64 0, .int .i64 0, .int .i64 0, .pointer none]) := by unfold zOk; kernel_rfl
theorem co74 : Try.prog.concrete 74 = true := by kernel_rfl
theorem pl75 : plOf Try.prog 75 = some [(0, 6)] := by kernel_rfl
theorem z75 : zOk Try.prog 75 (.agg #[.int .i64 0, str [], str [], .int .i64 0, .int .i64 0, .int .i64 0]) := by unfold zOk; kernel_rfl
theorem co75 : Try.prog.concrete 75 = true := by kernel_rfl
theorem pl76 : plOf Try.prog 76 = some [(0, 6)] := by kernel_rfl
theorem z76 : zOk Try.prog 76 (.agg #[.int .i64 0, str [], str [], .int .i64 0, .int .i64 0, .int .i64 0]) := by unfold zOk; kernel_rfl
theorem co76 : Try.prog.concrete 76 = true := by kernel_rfl
theorem pl77 : plOf Try.prog 77 = some [(0, 6)] := by kernel_rfl
theorem z77 : zOk Try.prog 77 (.agg #[.int .i64 0, str [], str [], .int .i64 0, .int .i64 0, .int .i64 0]) := by unfold zOk; kernel_rfl
theorem co77 : Try.prog.concrete 77 = true := by kernel_rfl
theorem pl79 : plOf Try.prog 79 = some [(0, 6), (6, 1)] := by kernel_rfl
theorem z79 : zOk Try.prog 79 (.agg #[.int .i64 0, str [], str [], .int .i64 0, .int .i64 0, .int .i64 0, .pointer none]) := by unfold zOk; kernel_rfl
theorem co79 : Try.prog.concrete 79 = true := by kernel_rfl
theorem pl80 : plOf Try.prog 80 = some [(0, 6)] := by kernel_rfl
theorem z80 : zOk Try.prog 80 (.agg #[.int .i64 0, str [], str [], .int .i64 0, .int .i64 0, .int .i64 0]) := by unfold zOk; kernel_rfl
theorem co80 : Try.prog.concrete 80 = true := by kernel_rfl
structure Fx where
  f : Flt
  b : Nat
  s : Bst
def val (d : Nat) (x : Fx) : Value :=
  if x.f.kind = 1 then .iface 68 (.agg (encFl x.f).toArray) else if x.f.kind = 2 then .iface 69 (.agg (encFl x.f).toArray) else if x.f.kind = 3 then .iface 74 (.agg (encFl x.f ++ [Value.pointer (some ⟨x.b, 0, none⟩)]).toArray) else if x.f.kind = 4 then .iface 75 (.agg (encFl x.f).toArray)
  else if x.f.kind = 5 then .iface 76 (.agg (encFl x.f).toArray) else if x.f.kind = 6 then .iface 77 (.agg (encFl x.f).toArray) else if x.f.kind = 7 then .iface 79 (.agg (encFl x.f ++ [Value.pointer (some ⟨d, 0, none⟩)]).toArray) else .iface 80 (.agg (encFl x.f).toArray)
theorem val_one (d : Nat) (x : Fx) : (val d x).oneCell' = true := by
  unfold val
  repeat' split
  all_goals rfl
def kFx (d : Nat) : Kd Fx := ⟨1, fun x => [val d x], fun _ => rfl, by omega, fun x v hv => by simp at hv; subst hv; exact val_one d x⟩
def bk1 (x : Fx) : Held := if x.f.kind = 3 then [.blk x.b (encB x.s) 112 (0, 0)] else []
def bks (xs : List Fx) : Held := xs.flatMap bk1
@[reducible] def chC (c : Nat) (A : Option Addr) (n cap : Nat) (seen : Int) : Chunk := .blk c [.slice A n cap, .int .i64 seen] 62 (0, 0)
@[reducible] def rowX (d : Nat) (A : Option Addr) (cap : Nat) (xs : List Fx) : Chunk := .row 96 1 A xs.length cap (xs.flatMap (kFx d).enc)
@[reducible] def chS (c d : Nat) (A : Option Addr) (cap : Nat) (seen s dr : Int) (xs : List Fx) : Held := chC c A xs.length cap seen :: rowX d A cap xs :: diC d s dr :: bks xs
structure okFl (f : Flt) : Prop where
  k1 : 1 ≤ f.kind
  k2 : f.kind ≤ 8
  nm : Sml f.name.length
  vl : Sml f.value.length
  lim : f.kind = 3 → goodB f.n f.m f.k
def newFx (f : Flt) (b : Nat) : Fx := ⟨f, b, newB f.n f.m f.k 0⟩
def NewOk (fs : List Flt) (j : Nat) (xs : List Fx) : Prop := xs.map (·.f) = fs.take j ∧ ∀ x ∈ xs, x.s = newB x.f.n x.f.m x.f.k 0
theorem NewOk.len {fs : List Flt} {j : Nat} {xs : List Fx} (h : NewOk fs j xs) (hj : j ≤ fs.length) : xs.length = j := by
  have := congrArg List.length h.1
  rw [List.length_map, List.length_take] at this; omega
theorem NewOk.snoc {fs : List Flt} {j : Nat} {xs : List Fx} (h : NewOk fs j xs) (hj : j < fs.length) (b : Nat) : NewOk fs (j + 1) (xs ++ [newFx fs[j] b]) := by
  refine ⟨by rw [List.map_append, h.1, take_succ_get hj]; rfl, fun x hx => ?_⟩
  rcases List.mem_append.1 hx with hx | hx
  · exact h.2 x hx
  · obtain rfl := List.mem_singleton.1 hx
    rfl
theorem bks_snoc (xs : List Fx) (x : Fx) : bks (xs ++ [x]) = bks xs ++ bk1 x := by unfold bks; rw [List.flatMap_append, List.flatMap_cons, List.flatMap_nil, List.append_nil]
section
variable {w0 w : World} {S : Nat → Prop} {c d cap : Nat} {A : Option Addr} {xs : List Fx} {x : Fx} {v : Value} {s dr : Int}
theorem new_snoc (hv : val d x = v) (hk : x.f.kind ≠ 3) (H : St w0 S w (.blk c [.slice A (xs.length + 1) cap, .int .i64 0] 62 (0, 0) :: .row 96 1 A (xs.length + 1) cap (xs.flatMap (kFx d).enc ++ [v]) :: diC d s dr :: bks xs)) :
    St w0 S w (chS c d A cap 0 s dr (xs ++ [x])) := by
  have e1 : (xs ++ [x]).length = xs.length + 1 := by simp
  have e2 : (xs ++ [x]).flatMap (kFx d).enc = xs.flatMap (kFx d).enc ++ [v] := by rw [flat_snoc, ← hv]; rfl
  have e3 : bks (xs ++ [x]) = bks xs := by rw [bks_snoc, bk1, if_neg hk, List.append_nil]
  unfold chS chC rowX
  rw [e1, e2, e3]; exact H
theorem new_snoc3 (hv : val d x = v) (hk : x.f.kind = 3) (H : St w0 S w (.blk x.b (encB x.s) 112 (0, 0) :: .blk c [.slice A (xs.length + 1) cap, .int .i64 0] 62 (0, 0) :: .row 96 1 A (xs.length + 1) cap (xs.flatMap (kFx d).enc ++ [v]) :: diC d s dr :: bks xs)) :
    St w0 S w (chS c d A cap 0 s dr (xs ++ [x])) := by
  have e1 : (xs ++ [x]).length = xs.length + 1 := by simp
  have e2 : (xs ++ [x]).flatMap (kFx d).enc = xs.flatMap (kFx d).enc ++ [v] := by rw [flat_snoc, ← hv]; rfl
  have e3 : bks (xs ++ [x]) = bks xs ++ [.blk x.b (encB x.s) 112 (0, 0)] := by rw [bks_snoc, bk1, if_pos hk]
  unfold chS chC rowX
  rw [e1, e2, e3]
  exact H.perm (List.perm_append_comm (l₁ := _ :: _ :: _ :: bks xs) (l₂ := [_]))
end
theorem val1 (d : Nat) (x : Fx) (h : x.f.kind = 1) : val d x = .iface 68 (.agg (encFl x.f).toArray) := by unfold val; rw [h]; rfl
theorem val2 (d : Nat) (x : Fx) (h : x.f.kind = 2) : val d x = .iface 69 (.agg (encFl x.f).toArray) := by unfold val; rw [h]; rfl
theorem val3 (d : Nat) (x : Fx) (h : x.f.kind = 3) : val d x = .iface 74 (.agg (encFl x.f ++ [Value.pointer (some ⟨x.b, 0, none⟩)]).toArray) := by unfold val; rw [h]; rfl
theorem val4 (d : Nat) (x : Fx) (h : x.f.kind = 4) : val d x = .iface 75 (.agg (encFl x.f).toArray) := by unfold val; rw [h]; rfl
theorem val5 (d : Nat) (x : Fx) (h : x.f.kind = 5) : val d x = .iface 76 (.agg (encFl x.f).toArray) := by unfold val; rw [h]; rfl
theorem val6 (d : Nat) (x : Fx) (h : x.f.kind = 6) : val d x = .iface 77 (.agg (encFl x.f).toArray) := by unfold val; rw [h]; rfl
theorem val7 (d : Nat) (x : Fx) (h : x.f.kind = 7) : val d x = .iface 79 (.agg (encFl x.f ++ [Value.pointer (some ⟨d, 0, none⟩)]).toArray) := by unfold val; rw [h]; rfl
theorem val8 (d : Nat) (x : Fx) (h : x.f.kind = 8) : val d x = .iface 80 (.agg (encFl x.f).toArray) := by unfold val; rw [h]; rfl
set_option maxRecDepth 20000 in
theorem fl_New (A0 : Option Addr) (c0 : Nat) (fs : List Flt) (G : Nat → Prop) (hl : Sml fs.length) (hok : ∀ f ∈ fs, okFl f) (seed : Int) (w : World) (R : Rd kFl G w A0 c0 fs) :
    Calls Try.prog 11 #[.slice A0 fs.length c0, .int .i64 seed] w fun e w' => ∃ c d A cap xs, e = .returned (.pointer (some ⟨c, 0, none⟩)) ∧ NewOk fs fs.length xs ∧ St w No w' (chS c d A cap 0 (w64 seed) 0 xs) := by
  have hlen := hl.le
  refine calls_of Try.func11 rfl Try.ntmps11 (by rfl) (K0 := [(0, _), (1, _)]) ⟨rfl, rfl, trivial⟩ ?_
  have H := St.init w
  refine WC.seq (WC.reg (WL.v (Ev.assign rfl) rfl (WL.nil (WQ.tn (WC.seq (WC.reg (WL.v (Ev.build (vs := [_, _]) (ps := []) pl62 z62 rfl rfl) rfl (WL.box (t := 62) (cs := [_, _]) rfl rfl H rfl fun b1 w1 hb1 H L => (WL.v (Ev.assign rfl) rfl (WL.nil (WQ.tn (WC.seq (WC.reg (WL.v (Ev.move rfl) rfl (WL.call (vs := [_]) rfl cl23 rfl (dc_New seed _) ?_)))))))))))))))
  rintro _ w1 ⟨d, rfl, H1⟩
  replace H := ((H.app H1).perm (σ' := [_, _]) (List.Perm.swap _ _ _)).nilrow 96 1
  refine ⟨_, rfl, ?_⟩
  refine WL.v (Ev.assign rfl) rfl (WL.nil (WQ.tn (WC.seq (WC.seq (WC.reg (WL.v (Ev.move rfl) rfl (WL.v (Ev.lensl Try.underlying22 rfl) rfl (WL.v (Ev.move rfl) rfl (WL.nil (WQ.tn (WC.block (WC.loop (γ := Nat × List Fx × Option Addr × Nat) (fun ⟨j, xs, A, cap⟩ => [(5, .pointer (some ⟨b1, 0, none⟩)), (6, .pointer (some ⟨d, 0, none⟩)), (16, .slice A0 fs.length c0), (17, .int .i64 (fs.length : Nat)), (18, .int .i64 (j : Nat))]) (fun ⟨j, xs, A, cap⟩ w1 => j ≤ fs.length ∧ NewOk fs j xs ∧ St w No w1 (chS b1 d A cap 0 (w64 seed) 0 xs)) (fun ⟨j, xs, A, cap⟩ => fs.length - j) (0, [], none, 0) (⟨Nat.zero_le _, ⟨rfl, fun x hx => by simp at hx⟩, H.perm (σ' := [_, _, _]) (List.Perm.swap _ _ _)⟩) ⟨rfl, rfl, rfl, rfl, rfl, trivial⟩ ?_))))))))))))
  rintro ⟨j, xs, A, cap⟩ w1 ⟨hj, hN, H⟩
  refine WC.seq (WC.reg (WL.v (Ev.lssN rfl rfl) rfl (WL.nil (WQ.tn (WC.seq (WC.cond rfl (fun h1 => ?_) (fun h1 => ?_)))))))
  · simp only [bsimp] at h1
    obtain ⟨bk, off, rfl, hG, hc⟩ := R.at h1
    have hj1 := getx h1
    have hfk := hok _ (List.getElem_mem h1)
    refine WC.skip (WQ.tn (WC.seq (WC.block (WC.seq (WC.reg (WL.v (Ev.idx Try.underlying22 sz29 rfl rfl (by omega)) rfl (WL.v (Ev.loadA (vs := [_, _, _, _, _, _]) ag29 sz29 rfl (H.olds (rdCells hc hj1 0 rfl))) rfl (WL.alloc z29 rfl H rfl fun b2 w1 hb2 H L => (WL.store (i := 0) (vs := [_, _, _, _, _, _]) rfl rfl rfl sz29 rfl H rfl rfl fun w1 H L => (WL.nil (WQ.tn (WC.seq (WC.reg (WL.v (Ev.loadA (vs := [_, _, _, _, _, _]) ag29 sz29 rfl (H.cells 0 rfl rfl)) rfl (WL.v (Ev.build (vs := [_, _, _, _, _, _]) (ps := [(_, _)]) pl66 z66 rfl rfl) rfl (WL.alloc z66 rfl H rfl fun b3 w1 hb3 H L => (WL.store (i := 0) (vs := [_, _, _, _, _, _]) rfl rfl rfl sz66 rfl H rfl rfl fun w1 H L => (WL.nil ?_))))))))))))))))))
    refine WQ.tn (WC.seq (WC.reg (WL.v (Ev.fieldAddr fa29_0 rfl) rfl (WL.v (Ev.load fl3 rfl (H.cell 1 rfl rfl)) rfl (WL.nil (WQ.tn (WC.block (WC.seq (WC.reg (WL.v (Ev.eqi rfl rfl) rfl (WL.v (Ev.assign rfl) rfl (WL.nil (WQ.tn (WC.cond rfl (fun h2 => ?_) (fun h2 => ?_)))))))))))))))
    · try simp only [bsimp] at h2
      refine WC.drawT mixed ((fun b => b ∈ (Chunk.row 96 1 A xs.length cap (xs.flatMap (kFx d).enc)).blocks)) 12 [(false, 0), (false, 1), (false, 2), (false, 3), (false, 4), (false, 5), (false, 6), (false, 7), (true, 8), (true, 9), (false, 10), (false, 11), (true, 12)] (by kernel_rfl) ?_
      intro w1 L
      replace H := H.ext L
      have hn1 := H.notin 2 3 rfl rfl rfl
      have hn2 := H.notin 0 3 rfl rfl rfl
      have hK := Gr.refl ((fun b => b ∈ (Chunk.row 96 1 A xs.length cap (xs.flatMap (kFx d).enc)).blocks)) w1
      have HD := H
      refine WX.v rfl (fun w2 hC => Ev.move rfl) rfl (WX.v rfl (fun w2 hC => Ev.move rfl) rfl (WX.v rfl (fun w2 hC => Ev.nilCheck rfl) rfl (WX.v rfl (fun w2 hC => Ev.fieldAddr fa62_0 rfl) rfl (WX.v rfl (fun w2 hC => Ev.load fl60 rfl (Gr.cell hC hn1 (HD.cell 2 rfl rfl))) rfl (WX.v rfl (fun w2 hC => Ev.loadA (vs := [_, _, _, _, _, _]) ag66 sz66 rfl (Gr.cells hC hn2 (HD.cells 0 rfl rfl))) rfl (WX.v rfl (fun w2 hC => Ev.build (vs := [_, _, _, _, _, _]) (ps := [(_, _)]) pl68 z68 rfl rfl) rfl (WX.v rfl (fun w2 hC => Ev.makeInterface co68 rfl) rfl (WX.loud rfl rfl (WL.buildSlice (vs := [_]) (ps := [(_, _)]) Try.underlying60 sz96 z96 rfl (by omega) (by omega) rfl rfl H rfl fun b4 w1 hb4 H L => ?_)))))))))
      replace hK := hK.ext L
      refine WL.nil (WQ.back (fun _ => hK) (WX.loud rfl rfl (WL.append (i := 4) (news := [_]) Try.underlying60 sz96 by96 z96 rfl (by omega) rfl rfl H rfl rfl (H.cells 0 rfl rfl) (by exact allOne_mem rfl) (by omega) (by have := hN.len hj; omega) rfl fun A1 c1 w1 H L LA LB => ?_)))
      replace H := H.tail
      replace hK := hK.trans L
      refine WL.nil (WQ.back (fun _ => hK) (WX.v rfl (fun w2 hC => Ev.nilCheck rfl) rfl (WX.v rfl (fun w2 hC => Ev.fieldAddr fa62_0 rfl) rfl (WX.loud rfl rfl (WL.store (i := 2) (vs := [_]) rfl rfl rfl sz60 rfl H rfl rfl fun w1 H L => (WL.nil (WQ.back (fun h => absurd rfl h) (WX.nil (WQ.blk (WQ.blk (WQ.tn (WC.reg (WL.v (Ev.addN (b := 1) rfl rfl (by omega)) rfl (WL.v (Ev.move rfl) rfl (WL.nil ?_)))))))))))))))
      exact WQ.again ((j + 1, xs ++ [newFx fs[j] 0], A1, c1)) (⟨by omega, hN.snoc h1 _, new_snoc (val1 d (newFx fs[j] 0) (by exact h2)) (by show fs[j].kind ≠ 3; omega) (H.tail.tail)⟩) ⟨rfl, rfl, rfl, rfl, rfl, trivial⟩ (by first | omega | (dsimp only; omega))
    try simp only [bsimp] at h2
    refine WC.seq (WC.reg (WL.v (Ev.eqi rfl rfl) rfl (WL.v (Ev.assign rfl) rfl (WL.nil (WQ.tn (WC.cond rfl (fun h3 => ?_) (fun h3 => ?_)))))))
    · try simp only [bsimp] at h3
      refine WC.drawT mixed ((fun b => b ∈ (Chunk.row 96 1 A xs.length cap (xs.flatMap (kFx d).enc)).blocks)) 12 [(false, 0), (false, 1), (false, 2), (false, 3), (false, 4), (false, 5), (false, 6), (false, 7), (true, 8), (true, 9), (false, 10), (false, 11), (true, 12)] (by kernel_rfl) ?_
      intro w1 L
      replace H := H.ext L
      have hn1 := H.notin 2 3 rfl rfl rfl
      have hn2 := H.notin 0 3 rfl rfl rfl
      have hK := Gr.refl ((fun b => b ∈ (Chunk.row 96 1 A xs.length cap (xs.flatMap (kFx d).enc)).blocks)) w1
      have HD := H
      refine WX.v rfl (fun w2 hC => Ev.move rfl) rfl (WX.v rfl (fun w2 hC => Ev.move rfl) rfl (WX.v rfl (fun w2 hC => Ev.nilCheck rfl) rfl (WX.v rfl (fun w2 hC => Ev.fieldAddr fa62_0 rfl) rfl (WX.v rfl (fun w2 hC => Ev.load fl60 rfl (Gr.cell hC hn1 (HD.cell 2 rfl rfl))) rfl (WX.v rfl (fun w2 hC => Ev.loadA (vs := [_, _, _, _, _, _]) ag66 sz66 rfl (Gr.cells hC hn2 (HD.cells 0 rfl rfl))) rfl (WX.v rfl (fun w2 hC => Ev.build (vs := [_, _, _, _, _, _]) (ps := [(_, _)]) pl69 z69 rfl rfl) rfl (WX.v rfl (fun w2 hC => Ev.makeInterface co69 rfl) rfl (WX.loud rfl rfl (WL.buildSlice (vs := [_]) (ps := [(_, _)]) Try.underlying60 sz96 z96 rfl (by omega) (by omega) rfl rfl H rfl fun b5 w1 hb5 H L => ?_)))))))))
      replace hK := hK.ext L
      refine WL.nil (WQ.back (fun _ => hK) (WX.loud rfl rfl (WL.append (i := 4) (news := [_]) Try.underlying60 sz96 by96 z96 rfl (by omega) rfl rfl H rfl rfl (H.cells 0 rfl rfl) (by exact allOne_mem rfl) (by omega) (by have := hN.len hj; omega) rfl fun A1 c1 w1 H L LA LB => ?_)))
      replace H := H.tail
      replace hK := hK.trans L
      refine WL.nil (WQ.back (fun _ => hK) (WX.v rfl (fun w2 hC => Ev.nilCheck rfl) rfl (WX.v rfl (fun w2 hC => Ev.fieldAddr fa62_0 rfl) rfl (WX.loud rfl rfl (WL.store (i := 2) (vs := [_]) rfl rfl rfl sz60 rfl H rfl rfl fun w1 H L => (WL.nil (WQ.back (fun h => absurd rfl h) (WX.nil (WQ.blk (WQ.blk (WQ.tn (WC.reg (WL.v (Ev.addN (b := 1) rfl rfl (by omega)) rfl (WL.v (Ev.move rfl) rfl (WL.nil ?_)))))))))))))))
      exact WQ.again ((j + 1, xs ++ [newFx fs[j] 0], A1, c1)) (⟨by omega, hN.snoc h1 _, new_snoc (val2 d (newFx fs[j] 0) (by exact h3)) (by show fs[j].kind ≠ 3; omega) (H.tail.tail)⟩) ⟨rfl, rfl, rfl, rfl, rfl, trivial⟩ (by first | omega | (dsimp only; omega))
    try simp only [bsimp] at h3
    refine WC.seq (WC.reg (WL.v (Ev.eqi rfl rfl) rfl (WL.v (Ev.assign rfl) rfl (WL.nil (WQ.tn (WC.cond rfl (fun h4 => ?_) (fun h4 => ?_)))))))
    · try simp only [bsimp] at h4
      refine WC.seq (WC.reg (WL.v (Ev.fieldAddr fa29_3 rfl) rfl (WL.v (Ev.load fl3 rfl (H.cell 1 rfl rfl)) rfl (WL.v (Ev.fieldAddr fa29_4 rfl) rfl (WL.v (Ev.load fl3 rfl (H.cell 1 rfl rfl)) rfl (WL.v (Ev.fieldAddr fa29_5 rfl) rfl (WL.v (Ev.load fl3 rfl (H.cell 1 rfl rfl)) rfl (WL.call (vs := [_, _, _, _]) rfl cl24 rfl (bk_New _ _ _ ((hok _ (List.getElem_mem h1)).lim h4) _) ?_))))))))
      rintro _ w1 ⟨B, rfl, H1⟩
      replace H := H.app H1
      refine ⟨_, rfl, ?_⟩
      refine WL.v (Ev.move rfl) rfl (WL.v (Ev.extract rfl rfl) rfl (WL.v (Ev.extract rfl rfl) rfl (WL.v (Ev.assign rfl) rfl (WL.v (Ev.assign rfl) rfl (WL.nil (WQ.tn (WC.drawT mixed ((fun b => b ∈ (Chunk.row 96 1 A xs.length cap (xs.flatMap (kFx d).enc)).blocks)) 13 [(false, 0), (false, 1), (false, 2), (false, 3), (false, 4), (false, 5), (false, 6), (false, 7), (false, 8), (true, 9), (true, 10), (false, 11), (false, 12), (true, 13)] (by kernel_rfl) ?_)))))))
      intro w1 L
      replace H := H.ext L
      have hn1 := H.notin 3 4 rfl rfl rfl
      have hn2 := H.notin 1 4 rfl rfl rfl
      have hK := Gr.refl ((fun b => b ∈ (Chunk.row 96 1 A xs.length cap (xs.flatMap (kFx d).enc)).blocks)) w1
      have HD := H
      refine WX.v rfl (fun w2 hC => Ev.move rfl) rfl (WX.v rfl (fun w2 hC => Ev.move rfl) rfl (WX.v rfl (fun w2 hC => Ev.nilCheck rfl) rfl (WX.v rfl (fun w2 hC => Ev.fieldAddr fa62_0 rfl) rfl (WX.v rfl (fun w2 hC => Ev.load fl60 rfl (Gr.cell hC hn1 (HD.cell 3 rfl rfl))) rfl (WX.v rfl (fun w2 hC => Ev.loadA (vs := [_, _, _, _, _, _]) ag66 sz66 rfl (Gr.cells hC hn2 (HD.cells 1 rfl rfl))) rfl (WX.v rfl (fun w2 hC => Ev.move rfl) rfl (WX.v rfl (fun w2 hC => Ev.build (vs := [_, _, _, _, _, _, _]) (ps := [(_, _), (_, _)]) pl74 z74 rfl rfl) rfl (WX.v rfl (fun w2 hC => Ev.makeInterface co74 rfl) rfl (WX.loud rfl rfl (WL.buildSlice (vs := [_]) (ps := [(_, _)]) Try.underlying60 sz96 z96 rfl (by omega) (by omega) rfl rfl H rfl fun b6 w1 hb6 H L => ?_))))))))))
      replace hK := hK.ext L
      refine WL.nil (WQ.back (fun _ => hK) (WX.loud rfl rfl (WL.append (i := 5) (news := [_]) Try.underlying60 sz96 by96 z96 rfl (by omega) rfl rfl H rfl rfl (H.cells 0 rfl rfl) (by exact allOne_mem rfl) (by omega) (by have := hN.len hj; omega) rfl fun A1 c1 w1 H L LA LB => ?_)))
      replace H := H.tail
      replace hK := hK.trans L
      refine WL.nil (WQ.back (fun _ => hK) (WX.v rfl (fun w2 hC => Ev.nilCheck rfl) rfl (WX.v rfl (fun w2 hC => Ev.fieldAddr fa62_0 rfl) rfl (WX.loud rfl rfl (WL.store (i := 3) (vs := [_]) rfl rfl rfl sz60 rfl H rfl rfl fun w1 H L => (WL.nil (WQ.back (fun h => absurd rfl h) (WX.nil (WQ.blk (WQ.blk (WQ.tn (WC.reg (WL.v (Ev.addN (b := 1) rfl rfl (by omega)) rfl (WL.v (Ev.move rfl) rfl (WL.nil ?_)))))))))))))))
      exact WQ.again ((j + 1, xs ++ [newFx fs[j] B], A1, c1)) (⟨by omega, hN.snoc h1 _, new_snoc3 (val3 d (newFx fs[j] B) (by exact h4)) (by exact h4) (H.sub (List.Sublist.cons_cons _ (List.Sublist.cons _ (List.Sublist.cons _ (List.Sublist.refl _)))))⟩) ⟨rfl, rfl, rfl, rfl, rfl, trivial⟩ (by first | omega | (dsimp only; omega))
    try simp only [bsimp] at h4
    refine WC.seq (WC.reg (WL.v (Ev.eqi rfl rfl) rfl (WL.v (Ev.assign rfl) rfl (WL.nil (WQ.tn (WC.cond rfl (fun h5 => ?_) (fun h5 => ?_)))))))
    · try simp only [bsimp] at h5
      refine WC.drawT mixed ((fun b => b ∈ (Chunk.row 96 1 A xs.length cap (xs.flatMap (kFx d).enc)).blocks)) 12 [(false, 0), (false, 1), (false, 2), (false, 3), (false, 4), (false, 5), (false, 6), (false, 7), (true, 8), (true, 9), (false, 10), (false, 11), (true, 12)] (by kernel_rfl) ?_
      intro w1 L
      replace H := H.ext L
      have hn1 := H.notin 2 3 rfl rfl rfl
      have hn2 := H.notin 0 3 rfl rfl rfl
      have hK := Gr.refl ((fun b => b ∈ (Chunk.row 96 1 A xs.length cap (xs.flatMap (kFx d).enc)).blocks)) w1
      have HD := H
      refine WX.v rfl (fun w2 hC => Ev.move rfl) rfl (WX.v rfl (fun w2 hC => Ev.move rfl) rfl (WX.v rfl (fun w2 hC => Ev.nilCheck rfl) rfl (WX.v rfl (fun w2 hC => Ev.fieldAddr fa62_0 rfl) rfl (WX.v rfl (fun w2 hC => Ev.load fl60 rfl (Gr.cell hC hn1 (HD.cell 2 rfl rfl))) rfl (WX.v rfl (fun w2 hC => Ev.loadA (vs := [_, _, _, _, _, _]) ag66 sz66 rfl (Gr.cells hC hn2 (HD.cells 0 rfl rfl))) rfl (WX.v rfl (fun w2 hC => Ev.build (vs := [_, _, _, _, _, _]) (ps := [(_, _)]) pl75 z75 rfl rfl) rfl (WX.v rfl (fun w2 hC => Ev.makeInterface co75 rfl) rfl (WX.loud rfl rfl (WL.buildSlice (vs := [_]) (ps := [(_, _)]) Try.underlying60 sz96 z96 rfl (by omega) (by omega) rfl rfl H rfl fun b7 w1 hb7 H L => ?_)))))))))
      replace hK := hK.ext L
      refine WL.nil (WQ.back (fun _ => hK) (WX.loud rfl rfl (WL.append (i := 4) (news := [_]) Try.underlying60 sz96 by96 z96 rfl (by omega) rfl rfl H rfl rfl (H.cells 0 rfl rfl) (by exact allOne_mem rfl) (by omega) (by have := hN.len hj; omega) rfl fun A1 c1 w1 H L LA LB => ?_)))
      replace H := H.tail
      replace hK := hK.trans L
      refine WL.nil (WQ.back (fun _ => hK) (WX.v rfl (fun w2 hC => Ev.nilCheck rfl) rfl (WX.v rfl (fun w2 hC => Ev.fieldAddr fa62_0 rfl) rfl (WX.loud rfl rfl (WL.store (i := 2) (vs := [_]) rfl rfl rfl sz60 rfl H rfl rfl fun w1 H L => (WL.nil (WQ.back (fun h => absurd rfl h) (WX.nil (WQ.blk (WQ.blk (WQ.tn (WC.reg (WL.v (Ev.addN (b := 1) rfl rfl (by omega)) rfl (WL.v (Ev.move rfl) rfl (WL.nil ?_)))))))))))))))
      exact WQ.again ((j + 1, xs ++ [newFx fs[j] 0], A1, c1)) (⟨by omega, hN.snoc h1 _, new_snoc (val4 d (newFx fs[j] 0) (by exact h5)) (by show fs[j].kind ≠ 3; omega) (H.tail.tail)⟩) ⟨rfl, rfl, rfl, rfl, rfl, trivial⟩ (by first | omega | (dsimp only; omega))
    try simp only [bsimp] at h5
    refine WC.seq (WC.reg (WL.v (Ev.eqi rfl rfl) rfl (WL.v (Ev.assign rfl) rfl (WL.nil (WQ.tn (WC.cond rfl (fun h6 => ?_) (fun h6 => ?_)))))))
    · try simp only [bsimp] at h6
      refine WC.drawT mixed ((fun b => b ∈ (Chunk.row 96 1 A xs.length cap (xs.flatMap (kFx d).enc)).blocks)) 12 [(false, 0), (false, 1), (false, 2), (false, 3), (false, 4), (false, 5), (false, 6), (false, 7), (true, 8), (true, 9), (false, 10), (false, 11), (true, 12)] (by kernel_rfl) ?_
      intro w1 L
      replace H := H.ext L
      have hn1 := H.notin 2 3 rfl rfl rfl
      have hn2 := H.notin 0 3 rfl rfl rfl
      have hK := Gr.refl ((fun b => b ∈ (Chunk.row 96 1 A xs.length cap (xs.flatMap (kFx d).enc)).blocks)) w1
      have HD := H
      refine WX.v rfl (fun w2 hC => Ev.move rfl) rfl (WX.v rfl (fun w2 hC => Ev.move rfl) rfl (WX.v rfl (fun w2 hC => Ev.nilCheck rfl) rfl (WX.v rfl (fun w2 hC => Ev.fieldAddr fa62_0 rfl) rfl (WX.v rfl (fun w2 hC => Ev.load fl60 rfl (Gr.cell hC hn1 (HD.cell 2 rfl rfl))) rfl (WX.v rfl (fun w2 hC => Ev.loadA (vs := [_, _, _, _, _, _]) ag66 sz66 rfl (Gr.cells hC hn2 (HD.cells 0 rfl rfl))) rfl (WX.v rfl (fun w2 hC => Ev.build (vs := [_, _, _, _, _, _]) (ps := [(_, _)]) pl76 z76 rfl rfl) rfl (WX.v rfl (fun w2 hC => Ev.makeInterface co76 rfl) rfl (WX.loud rfl rfl (WL.buildSlice (vs := [_]) (ps := [(_, _)]) Try.underlying60 sz96 z96 rfl (by omega) (by omega) rfl rfl H rfl fun b8 w1 hb8 H L => ?_)))))))))
      replace hK := hK.ext L
      refine WL.nil (WQ.back (fun _ => hK) (WX.loud rfl rfl (WL.append (i := 4) (news := [_]) Try.underlying60 sz96 by96 z96 rfl (by omega) rfl rfl H rfl rfl (H.cells 0 rfl rfl) (by exact allOne_mem rfl) (by omega) (by have := hN.len hj; omega) rfl fun A1 c1 w1 H L LA LB => ?_)))
      replace H := H.tail
      replace hK := hK.trans L
      refine WL.nil (WQ.back (fun _ => hK) (WX.v rfl (fun w2 hC => Ev.nilCheck rfl) rfl (WX.v rfl (fun w2 hC => Ev.fieldAddr fa62_0 rfl) rfl (WX.loud rfl rfl (WL.store (i := 2) (vs := [_]) rfl rfl rfl sz60 rfl H rfl rfl fun w1 H L => (WL.nil (WQ.back (fun h => absurd rfl h) (WX.nil (WQ.blk (WQ.blk (WQ.tn (WC.reg (WL.v (Ev.addN (b := 1) rfl rfl (by omega)) rfl (WL.v (Ev.move rfl) rfl (WL.nil ?_)))))))))))))))
      exact WQ.again ((j + 1, xs ++ [newFx fs[j] 0], A1, c1)) (⟨by omega, hN.snoc h1 _, new_snoc (val5 d (newFx fs[j] 0) (by exact h6)) (by show fs[j].kind ≠ 3; omega) (H.tail.tail)⟩) ⟨rfl, rfl, rfl, rfl, rfl, trivial⟩ (by first | omega | (dsimp only; omega))
    try simp only [bsimp] at h6
    refine WC.seq (WC.reg (WL.v (Ev.eqi rfl rfl) rfl (WL.v (Ev.assign rfl) rfl (WL.nil (WQ.tn (WC.cond rfl (fun h7 => ?_) (fun h7 => ?_)))))))
    · try simp only [bsimp] at h7
      refine WC.drawT mixed ((fun b => b ∈ (Chunk.row 96 1 A xs.length cap (xs.flatMap (kFx d).enc)).blocks)) 12 [(false, 0), (false, 1), (false, 2), (false, 3), (false, 4), (false, 5), (false, 6), (false, 7), (true, 8), (true, 9), (false, 10), (false, 11), (true, 12)] (by kernel_rfl) ?_
      intro w1 L
      replace H := H.ext L
      have hn1 := H.notin 2 3 rfl rfl rfl
      have hn2 := H.notin 0 3 rfl rfl rfl
      have hK := Gr.refl ((fun b => b ∈ (Chunk.row 96 1 A xs.length cap (xs.flatMap (kFx d).enc)).blocks)) w1
      have HD := H
      refine WX.v rfl (fun w2 hC => Ev.move rfl) rfl (WX.v rfl (fun w2 hC => Ev.move rfl) rfl (WX.v rfl (fun w2 hC => Ev.nilCheck rfl) rfl (WX.v rfl (fun w2 hC => Ev.fieldAddr fa62_0 rfl) rfl (WX.v rfl (fun w2 hC => Ev.load fl60 rfl (Gr.cell hC hn1 (HD.cell 2 rfl rfl))) rfl (WX.v rfl (fun w2 hC => Ev.loadA (vs := [_, _, _, _, _, _]) ag66 sz66 rfl (Gr.cells hC hn2 (HD.cells 0 rfl rfl))) rfl (WX.v rfl (fun w2 hC => Ev.build (vs := [_, _, _, _, _, _]) (ps := [(_, _)]) pl77 z77 rfl rfl) rfl (WX.v rfl (fun w2 hC => Ev.makeInterface co77 rfl) rfl (WX.loud rfl rfl (WL.buildSlice (vs := [_]) (ps := [(_, _)]) Try.underlying60 sz96 z96 rfl (by omega) (by omega) rfl rfl H rfl fun b9 w1 hb9 H L => ?_)))))))))
      replace hK := hK.ext L
      refine WL.nil (WQ.back (fun _ => hK) (WX.loud rfl rfl (WL.append (i := 4) (news := [_]) Try.underlying60 sz96 by96 z96 rfl (by omega) rfl rfl H rfl rfl (H.cells 0 rfl rfl) (by exact allOne_mem rfl) (by omega) (by have := hN.len hj; omega) rfl fun A1 c1 w1 H L LA LB => ?_)))
      replace H := H.tail
      replace hK := hK.trans L
      refine WL.nil (WQ.back (fun _ => hK) (WX.v rfl (fun w2 hC => Ev.nilCheck rfl) rfl (WX.v rfl (fun w2 hC => Ev.fieldAddr fa62_0 rfl) rfl (WX.loud rfl rfl (WL.store (i := 2) (vs := [_]) rfl rfl rfl sz60 rfl H rfl rfl fun w1 H L => (WL.nil (WQ.back (fun h => absurd rfl h) (WX.nil (WQ.blk (WQ.blk (WQ.tn (WC.reg (WL.v (Ev.addN (b := 1) rfl rfl (by omega)) rfl (WL.v (Ev.move rfl) rfl (WL.nil ?_)))))))))))))))
      exact WQ.again ((j + 1, xs ++ [newFx fs[j] 0], A1, c1)) (⟨by omega, hN.snoc h1 _, new_snoc (val6 d (newFx fs[j] 0) (by exact h7)) (by show fs[j].kind ≠ 3; omega) (H.tail.tail)⟩) ⟨rfl, rfl, rfl, rfl, rfl, trivial⟩ (by first | omega | (dsimp only; omega))
    try simp only [bsimp] at h7
    refine WC.seq (WC.reg (WL.v (Ev.eqi rfl rfl) rfl (WL.v (Ev.assign rfl) rfl (WL.nil (WQ.tn (WC.cond rfl (fun h8 => ?_) (fun h8 => ?_)))))))
    · try simp only [bsimp] at h8
      refine WC.drawT mixed ((fun b => b ∈ (Chunk.row 96 1 A xs.length cap (xs.flatMap (kFx d).enc)).blocks)) 13 [(false, 0), (false, 1), (false, 2), (false, 3), (false, 4), (false, 5), (false, 6), (false, 7), (false, 8), (true, 9), (true, 10), (false, 11), (false, 12), (true, 13)] (by kernel_rfl) ?_
      intro w1 L
      replace H := H.ext L
      have hn1 := H.notin 2 3 rfl rfl rfl
      have hn2 := H.notin 0 3 rfl rfl rfl
      have hK := Gr.refl ((fun b => b ∈ (Chunk.row 96 1 A xs.length cap (xs.flatMap (kFx d).enc)).blocks)) w1
      have HD := H
      refine WX.v rfl (fun w2 hC => Ev.move rfl) rfl (WX.v rfl (fun w2 hC => Ev.move rfl) rfl (WX.v rfl (fun w2 hC => Ev.nilCheck rfl) rfl (WX.v rfl (fun w2 hC => Ev.fieldAddr fa62_0 rfl) rfl (WX.v rfl (fun w2 hC => Ev.load fl60 rfl (Gr.cell hC hn1 (HD.cell 2 rfl rfl))) rfl (WX.v rfl (fun w2 hC => Ev.loadA (vs := [_, _, _, _, _, _]) ag66 sz66 rfl (Gr.cells hC hn2 (HD.cells 0 rfl rfl))) rfl (WX.v rfl (fun w2 hC => Ev.move rfl) rfl (WX.v rfl (fun w2 hC => Ev.build (vs := [_, _, _, _, _, _, _]) (ps := [(_, _), (_, _)]) pl79 z79 rfl rfl) rfl (WX.v rfl (fun w2 hC => Ev.makeInterface co79 rfl) rfl (WX.loud rfl rfl (WL.buildSlice (vs := [_]) (ps := [(_, _)]) Try.underlying60 sz96 z96 rfl (by omega) (by omega) rfl rfl H rfl fun b10 w1 hb10 H L => ?_))))))))))
      replace hK := hK.ext L
      refine WL.nil (WQ.back (fun _ => hK) (WX.loud rfl rfl (WL.append (i := 4) (news := [_]) Try.underlying60 sz96 by96 z96 rfl (by omega) rfl rfl H rfl rfl (H.cells 0 rfl rfl) (by exact allOne_mem rfl) (by omega) (by have := hN.len hj; omega) rfl fun A1 c1 w1 H L LA LB => ?_)))
      replace H := H.tail
      replace hK := hK.trans L
      refine WL.nil (WQ.back (fun _ => hK) (WX.v rfl (fun w2 hC => Ev.nilCheck rfl) rfl (WX.v rfl (fun w2 hC => Ev.fieldAddr fa62_0 rfl) rfl (WX.loud rfl rfl (WL.store (i := 2) (vs := [_]) rfl rfl rfl sz60 rfl H rfl rfl fun w1 H L => (WL.nil (WQ.back (fun h => absurd rfl h) (WX.nil (WQ.blk (WQ.blk (WQ.tn (WC.reg (WL.v (Ev.addN (b := 1) rfl rfl (by omega)) rfl (WL.v (Ev.move rfl) rfl (WL.nil ?_)))))))))))))))
      exact WQ.again ((j + 1, xs ++ [newFx fs[j] 0], A1, c1)) (⟨by omega, hN.snoc h1 _, new_snoc (val7 d (newFx fs[j] 0) (by exact h8)) (by show fs[j].kind ≠ 3; omega) (H.tail.tail)⟩) ⟨rfl, rfl, rfl, rfl, rfl, trivial⟩ (by first | omega | (dsimp only; omega))
    try simp only [bsimp] at h8
    refine WC.seq (WC.reg (WL.v (Ev.eqi rfl rfl) rfl (WL.v (Ev.assign rfl) rfl (WL.nil (WQ.tn (WC.cond rfl (fun h9 => ?_) (fun h9 => ?_)))))))
    · try simp only [bsimp] at h9
      refine WC.drawT mixed ((fun b => b ∈ (Chunk.row 96 1 A xs.length cap (xs.flatMap (kFx d).enc)).blocks)) 12 [(false, 0), (false, 1), (false, 2), (false, 3), (false, 4), (false, 5), (false, 6), (false, 7), (true, 8), (true, 9), (false, 10), (false, 11), (true, 12)] (by kernel_rfl) ?_
      intro w1 L
      replace H := H.ext L
      have hn1 := H.notin 2 3 rfl rfl rfl
      have hn2 := H.notin 0 3 rfl rfl rfl
      have hK := Gr.refl ((fun b => b ∈ (Chunk.row 96 1 A xs.length cap (xs.flatMap (kFx d).enc)).blocks)) w1
      have HD := H
      refine WX.v rfl (fun w2 hC => Ev.move rfl) rfl (WX.v rfl (fun w2 hC => Ev.move rfl) rfl (WX.v rfl (fun w2 hC => Ev.nilCheck rfl) rfl (WX.v rfl (fun w2 hC => Ev.fieldAddr fa62_0 rfl) rfl (WX.v rfl (fun w2 hC => Ev.load fl60 rfl (Gr.cell hC hn1 (HD.cell 2 rfl rfl))) rfl (WX.v rfl (fun w2 hC => Ev.loadA (vs := [_, _, _, _, _, _]) ag66 sz66 rfl (Gr.cells hC hn2 (HD.cells 0 rfl rfl))) rfl (WX.v rfl (fun w2 hC => Ev.build (vs := [_, _, _, _, _, _]) (ps := [(_, _)]) pl80 z80 rfl rfl) rfl (WX.v rfl (fun w2 hC => Ev.makeInterface co80 rfl) rfl (WX.loud rfl rfl (WL.buildSlice (vs := [_]) (ps := [(_, _)]) Try.underlying60 sz96 z96 rfl (by omega) (by omega) rfl rfl H rfl fun b11 w1 hb11 H L => ?_)))))))))
      replace hK := hK.ext L
      refine WL.nil (WQ.back (fun _ => hK) (WX.loud rfl rfl (WL.append (i := 4) (news := [_]) Try.underlying60 sz96 by96 z96 rfl (by omega) rfl rfl H rfl rfl (H.cells 0 rfl rfl) (by exact allOne_mem rfl) (by omega) (by have := hN.len hj; omega) rfl fun A1 c1 w1 H L LA LB => ?_)))
      replace H := H.tail
      replace hK := hK.trans L
      refine WL.nil (WQ.back (fun _ => hK) (WX.v rfl (fun w2 hC => Ev.nilCheck rfl) rfl (WX.v rfl (fun w2 hC => Ev.fieldAddr fa62_0 rfl) rfl (WX.loud rfl rfl (WL.store (i := 2) (vs := [_]) rfl rfl rfl sz60 rfl H rfl rfl fun w1 H L => (WL.nil (WQ.back (fun h => absurd rfl h) (WX.nil (WQ.blk (WQ.blk (WQ.tn (WC.reg (WL.v (Ev.addN (b := 1) rfl rfl (by omega)) rfl (WL.v (Ev.move rfl) rfl (WL.nil ?_)))))))))))))))
      exact WQ.again ((j + 1, xs ++ [newFx fs[j] 0], A1, c1)) (⟨by omega, hN.snoc h1 _, new_snoc (val8 d (newFx fs[j] 0) (by exact h9)) (by show fs[j].kind ≠ 3; omega) (H.tail.tail)⟩) ⟨rfl, rfl, rfl, rfl, rfl, trivial⟩ (by first | omega | (dsimp only; omega))
    simp only [bsimp] at h9
    exfalso; have := hfk.k1; have := hfk.k2; omega
  try simp only [bsimp] at h1
  refine WC.exit (WQ.tn_exit (WQ.loop_exit (WQ.blk_here rfl (WQ.tn (WC.seq (WC.reg (WL.v (Ev.move rfl) rfl (WL.v (Ev.assign rfl) rfl (WL.nil (WQ.tn (WC.ret (WQ.ret1 rfl rfl ?_))))))))))))
  obtain rfl : j = fs.length := by omega
  exact ⟨_, _, A, cap, xs, rfl, hN, H⟩
end Go.Proofs.Ytcmolgiccccnoaa
