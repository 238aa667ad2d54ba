/- The walks of functions: what each comes to. -/
import Derived.Test.YtcmolgiccccnoaaWc
import Derived.Test.YtcmolgiccccnoaaProg
set_option linter.unusedVariables false
set_option linter.unusedSimpArgs false
namespace Go.Proofs.Ytcmolgiccccnoaa
open Go.RowKit Go.BK

@[reducible] def Stp := Option (Int × List Fld × Bs)
def litSlow : Bs := ([115, 108, 111, 119, 32, 100, 111, 119, 110] : Bs)
def litNoEntry : Bs := ([110, 111, 32, 101, 110, 116, 114, 121] : Bs)
def litWww : Bs := ([87, 87, 87, 45, 65, 117, 116, 104, 101, 110, 116, 105, 99, 97, 116, 101] : Bs)
def litToken : Bs := ([84, 111, 107, 101, 110] : Bs)
def litTooMuch : Bs := ([116, 111, 111, 32, 109, 117, 99, 104] : Bs)
def litFault : Bs := ([102, 97, 117, 108, 116] : Bs)
/-- What a filter does with a request. -/
def oneF (x : Fx) (s now size : Int) (m : Bs) (l : List Fld) : Fx × Int × Stp × List Fld :=
  if x.f.kind = 1 then (x, s, none, setF l x.f.name x.f.value)
  else if x.f.kind = 2 then (x, s, none, removeF l x.f.name)
  else if x.f.kind = 3 then ({ x with s := (takeR x.s now 1).2.2 }, s, if (takeR x.s now 1).1 = true then none else some (429, [], litSlow), l)
  else if x.f.kind = 4 then (x, s, if (getF l x.f.name).2 ≠ 1 ∨ (getF l x.f.name).1 ≠ x.f.value then some (401, [(litWww, litToken)], litNoEntry) else none, removeF l x.f.name)
  else if x.f.kind = 5 then (x, s, if m = litOptions ∧ 0 < (getF l litOrigin).2 ∧ 0 < (getF l litReqMethod).2 then some (200, [(litAllowOrigin, x.f.value), (litAllowMethods, (getF l litReqMethod).1)], []) else none, l)
  else if x.f.kind = 6 then (x, s, if x.f.n < size then some (413, [], litTooMuch) else none, l)
  else if x.f.kind = 7 then (x, stepD s, if belP s 100 < x.f.n then some (x.f.m, [], litFault) else none, l)
  else (x, s, none, l)
/-- What all of them do, one behind the other. -/
def runF (now size : Int) (m : Bs) : List Fx → Int → List Fld → List Fx × Int × Stp × List Fld
  | [], s, l => ([], s, none, l)
  | x :: r, s, l =>
    match (oneF x s now size m l).2.2.1 with
    | some t => ((oneF x s now size m l).1 :: r, (oneF x s now size m l).2.1, some t, l)
    | none => ((oneF x s now size m l).1 :: (runF now size m r (oneF x s now size m l).2.1 (oneF x s now size m l).2.2.2).1, (runF now size m r (oneF x s now size m l).2.1 (oneF x s now size m l).2.2.2).2)
structure okFx (x : Fx) : Prop where
  fl : okFl x.f
  bk : x.f.kind = 3 → x.s.ok
/-- What is held behind one. -/
def OnP (w w' : World) (base : Held) (v : Nat) (now size : Int) (m : Bs) (d : Nat) (r : Fx × Int × Stp × List Fld) : Prop :=
  ∃ rp A' n' c' dr' τ, St w (Bk base) w' (visC v now size m A' n' c' rp :: diC d r.2.1 dr' :: (bk1 r.1 ++ τ)) ∧
    (r.2.2.1 = none → rp = none ∧ n' = r.2.2.2.length ∧ τ = [rowF A' c' r.2.2.2]) ∧ (∀ t, r.2.2.1 = some t → ∃ rb Af cf, rp = some ⟨rb, 0, none⟩ ∧ τ = [verC rb t.1 Af t.2.1.length cf t.2.2, rowF Af cf t.2.1])
theorem bk1_no {x : Fx} (h : x.f.kind ≠ 3) : bk1 x = [] := if_neg h
theorem OnP.go {w w' : World} {base : Held} {v : Nat} {now size : Int} {m : Bs} {d : Nat} {x' : Fx} {s' dr' : Int} {l' : List Fld} {A' : Option Addr} {c' : Nat} (H : St w (Bk base) w' ([rowF A' c' l', visC v now size m A' l'.length c' none] ++ (diC d s' dr' :: bk1 x'))) : OnP w w' base v now size m d (x', s', none, l') :=
  ⟨none, A', _, c', dr', _, H.perm (σ' := visC v now size m A' l'.length c' none :: diC d s' dr' :: (bk1 x' ++ [rowF A' c' l'])) (by classical (rw [List.perm_iff_count]; intro q; simp only [List.count_append, List.count_cons, List.count_nil, bks, List.flatMap_append, List.flatMap_cons, litSlow, litFault]; omega)), fun _ => ⟨rfl, rfl, rfl⟩, fun t h => by cases h⟩
theorem OnP.stop {w w' : World} {base : Held} {v : Nat} {now size : Int} {m : Bs} {d : Nat} {x' : Fx} {s' dr' : Int} {l' : List Fld} {st : Int} {fl : List Fld} {bd : Bs} {A' Af : Option Addr} {n' c' rb cf : Nat} (H : St w (Bk base) w' ([verC rb st Af fl.length cf bd, rowF Af cf fl, visC v now size m A' n' c' (some ⟨rb, 0, none⟩)] ++ (diC d s' dr' :: bk1 x'))) : OnP w w' base v now size m d (x', s', some (st, fl, bd), l') :=
  ⟨some ⟨rb, 0, none⟩, A', n', c', dr', _, H.perm (σ' := visC v now size m A' n' c' (some ⟨rb, 0, none⟩) :: diC d s' dr' :: (bk1 x' ++ [verC rb st Af fl.length cf bd, rowF Af cf fl])) (by classical (rw [List.perm_iff_count]; intro q; simp only [List.count_append, List.count_cons, List.count_nil, bks, List.flatMap_append, List.flatMap_cons, litSlow, litFault]; omega)), (fun h => by cases h), fun t h => by cases h; exact ⟨rb, Af, cf, rfl, rfl⟩⟩
theorem bk1_yes {x : Fx} (h : x.f.kind = 3) : bk1 x = [.blk x.b (encB x.s) 112 (0, 0)] := if_pos h
set_option maxHeartbeats 1000000 in
theorem fl_on (x : Fx) (hx : okFx x) (v : Nat) (now size : Int) (hnow : I64 now) (m : Bs) (A : Option Addr) (c : Nat) (xs : List Fld) (hl : Okf xs) (d : Nat) (s dr : Int) (w : World) (H : St w (Bk (rowF A c xs :: visC v now size m A xs.length c none :: diC d s dr :: bk1 x)) w (rowF A c xs :: visC v now size m A xs.length c none :: diC d s dr :: bk1 x)) :
    ∃ ty u fn rv, val d x = .iface ty u ∧ (∀ w, (method (Try.prog.types.size + Made.depth) ty u "barbican/filter.on").run Try.prog w = .ok (fn, rv) w) ∧ callB Try.prog fn = true ∧ Calls Try.prog fn #[rv, .pointer (some ⟨v, 0, none⟩)] w (fun e w' => e = .returned (.tuple #[]) ∧ OnP w w' (rowF A c xs :: visC v now size m A xs.length c none :: diC d s dr :: bk1 x) v now size m d (oneF x s now size m xs)) := by
  have H2 : St w (Bk [rowF A c xs, visC v now size m A xs.length c none]) w [rowF A c xs, visC v now size m A xs.length c none] := (H.sub (σ' := [rowF A c xs, visC v now size m A xs.length c none]) (List.Sublist.cons_cons _ (List.Sublist.cons_cons _ (List.nil_sublist _)))).local
  obtain ⟨h1, h2⟩ : 1 ≤ x.f.kind ∧ x.f.kind ≤ 8 := ⟨hx.fl.k1, hx.fl.k2⟩
  have hnm := hx.fl.nm
  by_cases hk1 : x.f.kind = 1
  · refine ⟨_, _, 71, _, val1 d x hk1, mt1_on _, cl71, ?_⟩
    have e1 : oneF x s now size m xs = (x, s, none, setF xs x.f.name x.f.value) := by unfold oneF; rw [if_pos hk1]
    refine (fl_set x.f v now size m A c xs hl hnm w H2).mono ?_
    rintro e w' ⟨rfl, A', c', H3⟩
    rw [e1]
    exact ⟨rfl, OnP.go (St.frame (σ1 := [_, _]) (σ2 := diC d s dr :: bk1 x) H H3)⟩
  by_cases hk2 : x.f.kind = 2
  · refine ⟨_, _, 76, _, val2 d x hk2, mt2_on _, cl76, ?_⟩
    have e1 : oneF x s now size m xs = (x, s, none, removeF xs x.f.name) := by unfold oneF; rw [if_neg hk1]; rw [if_pos hk2]
    refine (fl_drop x.f v now size m A c xs hl hnm w H2).mono ?_
    rintro e w' ⟨rfl, A', c', H3⟩
    rw [e1]
    exact ⟨rfl, OnP.go (St.frame (σ1 := [_, _]) (σ2 := diC d s dr :: bk1 x) H H3)⟩
  by_cases hk3 : x.f.kind = 3
  · refine ⟨_, _, 78, _, val3 d x hk3, mt3_on _, cl78, ?_⟩
    have e1 : oneF x s now size m xs = ({ x with s := (takeR x.s now 1).2.2 }, s, if (takeR x.s now 1).1 = true then none else some (429, [], litSlow), xs) := by unfold oneF; rw [if_neg hk1]; rw [if_neg hk2]; rw [if_pos hk3]
    have hb := bk1_yes hk3
    have H3 := H.perm (σ' := [rowF A c xs, visC v now size m A xs.length c none, .blk x.b (encB x.s) 112 (0, 0)] ++ [diC d s dr]) (by rw [hb]; exact (by classical (rw [List.perm_iff_count]; intro q; simp only [List.count_append, List.count_cons, List.count_nil, bks, List.flatMap_append, List.flatMap_cons, litSlow, litFault]; omega)))
    have H4 := (H3.sub (σ' := [rowF A c xs, visC v now size m A xs.length c none, .blk x.b (encB x.s) 112 (0, 0)]) (List.sublist_append_left _ _)).local
    refine (fl_limit x.f v now size m A c xs hl hnm x.s (hx.bk hk3) hnow x.b w H4).mono ?_
    rintro e w' ⟨rfl, h⟩
    rw [e1]
    refine ⟨rfl, ?_⟩
    have hb2 : bk1 { x with s := (takeR x.s now 1).2.2 } = [.blk x.b (encB (takeR x.s now 1).2.2) 112 (0, 0)] := bk1_yes (x := { x with s := (takeR x.s now 1).2.2 }) hk3
    split at h
    · rename_i hc
      rw [if_pos hc]
      obtain ⟨A', c', H5⟩ := h
      refine OnP.go (A' := A') (c' := c') (dr' := dr) ?_
      rw [hb2]
      exact (H3.frame H5).perm (by classical (rw [List.perm_iff_count]; intro q; simp only [List.count_append, List.count_cons, List.count_nil, bks, List.flatMap_append, List.flatMap_cons, litSlow, litFault]; omega))
    · rename_i hc
      rw [if_neg hc]
      obtain ⟨r, Af, cf, A', n', c', H5⟩ := h
      refine OnP.stop (A' := A') (Af := Af) (n' := n') (c' := c') (rb := r) (cf := cf) (dr' := dr) ?_
      rw [hb2]
      exact (H3.frame H5).perm (by classical (rw [List.perm_iff_count]; intro q; simp only [List.count_append, List.count_cons, List.count_nil, bks, List.flatMap_append, List.flatMap_cons, litSlow, litFault]; omega))
  by_cases hk4 : x.f.kind = 4
  · refine ⟨_, _, 81, _, val4 d x hk4, mt4_on _, cl81, ?_⟩
    have e1 : oneF x s now size m xs = (x, s, if (getF xs x.f.name).2 ≠ 1 ∨ (getF xs x.f.name).1 ≠ x.f.value then some (401, [(litWww, litToken)], litNoEntry) else none, removeF xs x.f.name) := by unfold oneF; rw [if_neg hk1]; rw [if_neg hk2]; rw [if_neg hk3]; rw [if_pos hk4]
    refine (fl_token x.f v now size m A c xs hl hnm w H2).mono ?_
    rintro e w' ⟨rfl, h⟩
    rw [e1]
    refine ⟨rfl, ?_⟩
    split at h
    · rename_i hc
      rw [if_pos hc]
      obtain ⟨r, Af, cf, A', n', c', H3⟩ := h
      exact OnP.stop (St.frame (σ1 := [_, _]) (σ2 := diC d s dr :: bk1 x) H H3)
    · rename_i hc
      rw [if_neg hc]
      obtain ⟨A', c', H3⟩ := h
      exact OnP.go (St.frame (σ1 := [_, _]) (σ2 := diC d s dr :: bk1 x) H H3)
  by_cases hk5 : x.f.kind = 5
  · refine ⟨_, _, 86, _, val5 d x hk5, mt5_on _, cl86, ?_⟩
    have e1 : oneF x s now size m xs = (x, s, if m = litOptions ∧ 0 < (getF xs litOrigin).2 ∧ 0 < (getF xs litReqMethod).2 then some (200, [(litAllowOrigin, x.f.value), (litAllowMethods, (getF xs litReqMethod).1)], []) else none, xs) := by unfold oneF; rw [if_neg hk1]; rw [if_neg hk2]; rw [if_neg hk3]; rw [if_neg hk4]; rw [if_pos hk5]
    refine (fl_cors x.f v now size m A c xs hl hnm w H2).mono ?_
    rintro e w' ⟨rfl, h⟩
    rw [e1]
    refine ⟨rfl, ?_⟩
    split at h
    · rename_i hc
      rw [if_pos hc]
      obtain ⟨r, Af, cf, A', n', c', H3⟩ := h
      exact OnP.stop (St.frame (σ1 := [_, _]) (σ2 := diC d s dr :: bk1 x) H H3)
    · rename_i hc
      rw [if_neg hc]
      obtain ⟨A', c', H3⟩ := h
      exact OnP.go (St.frame (σ1 := [_, _]) (σ2 := diC d s dr :: bk1 x) H H3)
  by_cases hk6 : x.f.kind = 6
  · refine ⟨_, _, 87, _, val6 d x hk6, mt6_on _, cl87, ?_⟩
    have e1 : oneF x s now size m xs = (x, s, if x.f.n < size then some (413, [], litTooMuch) else none, xs) := by unfold oneF; rw [if_neg hk1]; rw [if_neg hk2]; rw [if_neg hk3]; rw [if_neg hk4]; rw [if_neg hk5]; rw [if_pos hk6]
    refine (fl_body x.f v now size m A c xs hl hnm w H2).mono ?_
    rintro e w' ⟨rfl, h⟩
    rw [e1]
    refine ⟨rfl, ?_⟩
    split at h
    · rename_i hc
      rw [if_pos hc]
      obtain ⟨r, Af, cf, A', n', c', H3⟩ := h
      exact OnP.stop (St.frame (σ1 := [_, _]) (σ2 := diC d s dr :: bk1 x) H H3)
    · rename_i hc
      rw [if_neg hc]
      obtain ⟨A', c', H3⟩ := h
      exact OnP.go (St.frame (σ1 := [_, _]) (σ2 := diC d s dr :: bk1 x) H H3)
  by_cases hk7 : x.f.kind = 7
  · refine ⟨_, _, 88, _, val7 d x hk7, mt7_on _, cl88, ?_⟩
    have e1 : oneF x s now size m xs = (x, stepD s, if belP s 100 < x.f.n then some (x.f.m, [], litFault) else none, xs) := by unfold oneF; rw [if_neg hk1]; rw [if_neg hk2]; rw [if_neg hk3]; rw [if_neg hk4]; rw [if_neg hk5]; rw [if_neg hk6]; rw [if_pos hk7]
    have H3 : St w (Bk (rowF A c xs :: visC v now size m A xs.length c none :: diC d s dr :: bk1 x)) w ([rowF A c xs, visC v now size m A xs.length c none, diC d s dr] ++ bk1 x) := H
    have H4 := (H3.sub (List.sublist_append_left _ _)).local
    refine (fl_fault x.f v now size m A c xs hl hnm d s dr w H4).mono ?_
    rintro e w' ⟨rfl, dr', h⟩
    rw [e1]
    refine ⟨rfl, ?_⟩
    split at h
    · rename_i hc
      rw [if_pos hc]
      obtain ⟨r, Af, cf, A', n', c', H5⟩ := h
      exact OnP.stop (A' := A') (Af := Af) (n' := n') (c' := c') (rb := r) (cf := cf) (dr' := dr') ((H3.frame H5).perm (by classical (rw [List.perm_iff_count]; intro q; simp only [List.count_append, List.count_cons, List.count_nil, bks, List.flatMap_append, List.flatMap_cons, litSlow, litFault]; omega)))
    · rename_i hc
      rw [if_neg hc]
      obtain ⟨A', c', H5⟩ := h
      exact OnP.go (A' := A') (c' := c') (dr' := dr') ((H3.frame H5).perm (by classical (rw [List.perm_iff_count]; intro q; simp only [List.count_append, List.count_cons, List.count_nil, bks, List.flatMap_append, List.flatMap_cons, litSlow, litFault]; omega)))
  have hk8 : x.f.kind = 8 := by omega
  refine ⟨_, _, 94, _, val8 d x hk8, mt8_on _, cl94, ?_⟩
  have e1 : oneF x s now size m xs = (x, s, none, xs) := by unfold oneF; rw [if_neg hk1]; rw [if_neg hk2]; rw [if_neg hk3]; rw [if_neg hk4]; rw [if_neg hk5]; rw [if_neg hk6]; rw [if_neg hk7]
  refine (fl_answer x.f v now size m A c xs hl hnm w H2).mono ?_
  rintro e w' ⟨rfl, A', c', H3⟩
  rw [e1]
  exact ⟨rfl, OnP.go (St.frame (σ1 := [_, _]) (σ2 := diC d s dr :: bk1 x) H H3)⟩
end Go.Proofs.Ytcmolgiccccnoaa
