/- A drawn region in which two operations that turn the world stand ready at once: walked both ways. This file names no program. -/
import Derived.Test.YtodappgiadelaaaDoorSub
set_option linter.unusedVariables false
set_option linter.unusedSimpArgs false
namespace Go.BK
open Go.RowKit
inductive OT where
  | lin (l : List (Bool × Nat))
  | sil (i : Nat) (r : OT)
  | two (i : Nat) (r1 : OT) (j : Nat) (r2 : OT)
def OT.len : OT → Nat
  | .lin l => l.length
  | .sil _ r => r.len + 1
  | .two _ r1 _ _ => r1.len + 1
section
variable {ρ : Option Nat} {P : Program} {ops : Array Oper} {md : Region.Mode} {C : World → Prop} {Q : Post} {s : Nat}
def wpT (ρ : Option Nat) (P : Program) (ops : Array Oper) (C : World → Prop) (s : Nat) (Q : Post) : OT → Act → World → Prop
  | .lin l, a, w => wpW ρ P ops C s Q l a w
  | .sil i r, a, w => ∃ o v, ops[i]? = some o ∧ Yv P ops C o v a ∧ wpT ρ P ops C s Q r (a.put o.dst v) w
  | .two i r1 j r2, a, w => opV ρ P ops i (fun a' w' => C w' ∧ wpT ρ P ops C s Q r1 a' w') a w ∧ opV ρ P ops j (fun a' w' => C w' ∧ wpT ρ P ops C s Q r2 a' w') a w
def ordT (md : Region.Mode) (ops : Array Oper) (s : Nat) : OT → Array Bool → Bool
  | .lin l, listed => ordB md ops s l listed
  | .sil i r, listed => (Region.ready md ops listed).contains i && Region.free md ops listed i && i != s && ordT md ops s r (listed.setIfInBounds i true)
  | .two i r1 j r2, listed => decide (Region.ready md ops listed = [i, j]) && i != s && j != s && Nat.beq r1.len r2.len && ordT md ops s r1 (listed.setIfInBounds i true) && ordT md ops s r2 (listed.setIfInBounds j true)
theorem wpAnyV_of_tree (hsel : Region.noSelect ops = true) (hs : sinkOk md ops s = true) : ∀ (t : OT) (listed : Array Bool) (a : Act) (w : World), C w → listed.size = ops.size → Down md ops listed →
    ordT md ops s t listed = true → wpT ρ P ops C s Q t a w → wpAnyV ρ P md ops C s Q t.len listed a w
  | .lin l, listed, a, w, hC, hsz, hdn, hB, h => wpAnyV_of_walk hsel hs l listed a w (.inl hC) hsz hdn hB h
  | .sil i r, listed, a, w, hC, hsz, hdn, hB, h => by
    simp only [ordT, Bool.and_eq_true] at hB
    obtain ⟨⟨⟨hr, hf⟩, his⟩, hB'⟩ := hB
    obtain ⟨o, v, ho, hy, hk⟩ := h
    have hr' : i ∈ Region.ready md ops listed := by simpa using hr
    exact wpAnyV_first ho (by simpa using his) hs (Region.noSelect_spec hsel) r.len listed a w hC hsz hdn (Region.free_spec ho hf) hr' hy
      (wpAnyV_of_tree hsel hs r _ _ _ hC (by simpa using hsz) (hdn.set hsz hr') hB' hk)
  | .two i r1 j r2, listed, a, w, hC, hsz, hdn, hB, h => by
    simp only [ordT, Bool.and_eq_true, decide_eq_true_eq] at hB
    obtain ⟨⟨⟨⟨⟨hr, his⟩, hjs⟩, hlen⟩, hB1⟩, hB2⟩ := hB
    have hlen := Nat.eq_of_beq_eq_true hlen
    have hi : i ∈ Region.ready md ops listed := by rw [hr]; simp
    have hj : j ∈ Region.ready md ops listed := by rw [hr]; simp
    refine ⟨fun h0 => (by rw [hr] at h0; cases h0), fun q hq => ?_⟩
    rw [hr] at hq
    rcases List.mem_cons.1 hq with rfl | hq
    · exact opV_mono (fun a' w' hh => ⟨fun _ => hh.1, wpAnyV_of_tree hsel hs r1 _ a' w' hh.1 (by simpa using hsz) (hdn.set hsz hi) hB1 hh.2⟩) h.1
    · obtain rfl : q = j := by simpa using hq
      refine opV_mono (fun a' w' hh => ⟨fun _ => hh.1, ?_⟩) h.2
      show wpAnyV ρ P md ops C s Q r1.len _ a' w'
      rw [hlen]
      exact wpAnyV_of_tree hsel hs r2 _ a' w' hh.1 (by simpa using hsz) (hdn.set hsz hj) hB2 hh.2
def treeOk (ops : Array Oper) (s : Nat) (t : OT) : Bool := Region.noSelect ops && sinkOk .any ops s && Nat.beq t.len ops.size && ordT .any ops s t (Array.replicate ops.size false) && ops.toList.all fun o => ndOp o.op
theorem wp_region_tree {id : Nat} {a : Act} {w : World} (hm : P.follows .mixedOrders = true) (t : OT) (hB : treeOk ops s t = true) (hC : C w.drew) (h : wpT ρ P ops C s Q t a w.drew) : (Code.region id ops true).wpIn (FF ρ) 0 P Q a w := by
  simp only [treeOk, Bool.and_eq_true] at hB
  obtain ⟨⟨⟨⟨h1, h2⟩, h3⟩, h4⟩, h5⟩ := hB
  refine wpIn_region_any hm ?_
  have := wpAny_of_wpAnyV (fun i o ho => nd_of h5 ho) _ _ _ _ (wpAnyV_of_tree h1 h2 t (Array.replicate ops.size false) a w.drew hC (by simp) (fun j oj _ hl hj => by
    simp only [Array.size_replicate] at hj
    simp [Array.getD, hj] at hl) h4 h)
  rwa [Nat.eq_of_beq_eq_true h3] at this
variable {ds : List Deferred} {n : Nat} {K : Kn} {w : World} {t : OT}
def WT (ρ : Option Nat) (P : Program) (ops : Array Oper) (C : World → Prop) (s : Nat) (Q : Post) (ds : List Deferred) (n : Nat) (t : OT) (K : Kn) (w : World) : Prop := ∀ l, Agree n K l → wpT ρ P ops C s Q t ⟨l, ds⟩ w
theorem WC.drawTree {id : Nat} (hm : P.follows .mixedOrders = true) (T : Nat → Prop) (s : Nat) (t : OT) (hB : treeOk ops s t = true) (h : ∀ w1, Ext w w1 → WT ρ P ops (Gr T w1) s Q ds n t K w1) :
    WC ρ P (.region id ops true) Q ds n K w := fun l hl => wp_region_tree hm t hB (Gr.refl _ _) (h _ (Ext.drew w) l hl)
theorem WT.lin {l : List (Bool × Nat)} (h : WX ρ P ops C s Q ds n l K w) : WT ρ P ops C s Q ds n (.lin l) K w := fun f hf => h f hf
theorem WT.v {i d : Nat} {op : Op} {ty : TypeId} {pos : String} {es : Array Edge} {v : Value} (ho : ops[i]? = some ⟨some d, op, ty, pos, es, none⟩) (h : ∀ w', C w' → Ev P K op ty w' v w') (hd : Nat.blt d n = true) (k : WT ρ P ops C s Q ds n t ((d, v) :: K) w) :
    WT ρ P ops C s Q ds n (.sil i t) K w := fun l hl => ⟨_, v, ho, .inl ⟨by simp [Region.wanted], fun w' hw' => h w' hw' _ _ _ _ _ _ _ hl⟩, k _ (hl.put hd v)⟩
/-- One of two. -/
def backT (ρ : Option Nat) (P : Program) (ops : Array Oper) (C : World → Prop) (s : Nat) (Q : Post) (t : OT) : Post := fun e a' w' => e = .normal ∧ C w' ∧ wpT ρ P ops C s Q t a' w'
theorem opV_of_WL {i : Nat} {o : Oper} (ho : ops[i]? = some o) (hnd : ndOp o.op = true) (h : WL ρ P ops (backT ρ P ops C s Q t) ds n [o] K w) {l : Array Value} (hl : Agree n K l) : opV ρ P ops i (fun a' w' => C w' ∧ wpT ρ P ops C s Q t a' w') ⟨l, ds⟩ w := by
  have h1 := h l hl
  unfold opV
  rw [ho]
  unfold wpListIn at h1
  simp only
  split
  · rename_i hw
    rw [if_pos hw] at h1
    have h1 := h1.2
    rw [semAt_nd hnd] at h1
    generalize (execOp _ o).run P w = res at h1 ⊢
    cases res with
    | ok x w' =>
      cases x <;> simp only [Oper.uponIn] at h1 <;> simp only [upV]
      case value v => exact h1.2
      case skip => exact h1.2
      case enter f args =>
        refine (callsIn_FF.1 h1.2).mono ?_
        intro e w'' he
        cases e with
        | returned v => exact ⟨v, rfl, he.2⟩
        | panicked c => exact absurd he.1 (by simp)
        | outgrown => obtain ⟨a, w3, h3, _⟩ := he; cases h3
      case defer d => exact h1.2
      case row row args => exact RowsIn.mono h1.2 fun _ _ hk => hk.2
      case round l f tmps assign body =>
        refine RoundIn.mono h1.2 ?_
        intro e w'' he
        cases e with
        | returned v => exact ⟨v, rfl, he.2⟩
        | panicked c => exact absurd he.1 (by simp)
        | outgrown => obtain ⟨a, w3, h3, _⟩ := he; cases h3
    | halt x w' => cases x <;> simp only [Oper.uponIn] at h1 <;> first | exact h1.elim | (exact absurd h1.1 (by simp))
  · rename_i hw
    rw [if_neg hw] at h1
    exact h1.2.2
theorem WT.two {i j : Nat} {o o' : Oper} {t1 t2 : OT} (hi : ops[i]? = some o) (hj : ops[j]? = some o') (hn : ndOp o.op = true) (hn' : ndOp o'.op = true) (h1 : WL ρ P ops (backT ρ P ops C s Q t1) ds n [o] K w) (h2 : WL ρ P ops (backT ρ P ops C s Q t2) ds n [o'] K w) : WT ρ P ops C s Q ds n (.two i t1 j t2) K w :=
  fun l hl => ⟨opV_of_WL hi hn h1 hl, opV_of_WL hj hn' h2 hl⟩
theorem WQ.backT (hC : C w) (h : WT ρ P ops C s Q ds n t K w) : WQ (backT ρ P ops C s Q t) .normal ds n K w := fun l hl => ⟨rfl, hC, h l hl⟩
end
end Go.BK
