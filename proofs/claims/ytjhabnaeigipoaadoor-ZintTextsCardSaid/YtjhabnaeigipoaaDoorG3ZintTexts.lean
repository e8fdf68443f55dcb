/-
  Facts of the abstract evaluator and of the functions that the law reaches, part 3. Conditions: none.
-/
import Derived.ProofKit
import Derived.Deep.Slices
import Derived.DataElems
import Derived.DataReads
import Derived.ChangeArms
import Derived.ChangeSame
import Derived.Shelf.Strings.BuilderX
import Derived.Shelf.RegionOpenPlain
import Derived.Lib.Strings
import Derived.Lib.Walk
import Derived.Lib.Builder
import Derived.Lib.MakeNoZero
import Derived.WalkKit
import Derived.Laws.Externs
import Derived.Laws.IdiomCopy
import Derived.Laws.PanicsMore
import Derived.Test.YtjhabnaeigipoaaDoorG2ZintTexts
set_option linter.unusedVariables false
set_option linter.unusedSimpArgs false
set_option linter.unnecessarySimpa false
set_option exponentiation.threshold 200000
set_option maxRecDepth 100000
set_option linter.unusedVariables false
set_option linter.unusedSimpArgs false
namespace Go.AM
open Go.RowKit

theorem BRel.world {P : Program} {B0 : Nat} {m : Mp} {L : Loc} {k : Blk} {w w1 : World} (h : BRel P B0 m L k w) (e : w1.heap[L.blk]? = w.heap[L.blk]?) : BRel P B0 m L k w1 := by
  obtain ⟨h1, ⟨c, e', fr, h2, h3⟩, h4, h5⟩ := h
  exact ⟨h1, ⟨c, e', fr, by rw [e]; exact h2, h3⟩, h4, h5⟩
theorem BRel.mono {P : Program} {B0 : Nat} {m m' : Mp} {L : Loc} {k : Blk} {w : World} (hm : ∀ b L, m b = some L → m' b = some L) (h : BRel P B0 m L k w) : BRel P B0 m' L k w := by
  obtain ⟨h1, ⟨c, e', fr, h2, h3, h3'⟩, h4, h5⟩ := h
  exact ⟨h1, ⟨c, e', fr, h2, h3.mono hm, h3'⟩, h4, h5⟩
section
variable (tH : Nat → AH) (n : Nat)
open Classical in
/-- A block's content where it is made. -/
noncomputable def ini (b : Nat) : Option Blk := if h : ∃ j, j < n ∧ (tH j).length ≤ b ∧ b < (tH (j + 1)).length then blk (tH (Classical.choose h + 1)) b else none
noncomputable def kb (q b : Nat) : Option Blk := if b < (tH q).length then blk (tH q) b else ini tH n b
variable {tH n}
theorem ini_eq (hmono : ∀ i d, i + d ≤ n → (tH i).length ≤ (tH (i + d)).length) {j b : Nat} (hj : j < n) (h1 : (tH j).length ≤ b) (h2 : b < (tH (j + 1)).length) : ini tH n b = blk (tH (j + 1)) b := by
  have h : ∃ j, j < n ∧ (tH j).length ≤ b ∧ b < (tH (j + 1)).length := ⟨j, hj, h1, h2⟩
  unfold ini
  rw [dif_pos h]
  obtain ⟨g1, g2, g3⟩ := Classical.choose_spec h
  have : Classical.choose h = j := by
    rcases Nat.lt_trichotomy (Classical.choose h) j with hlt | heq | hgt
    · have := hmono (Classical.choose h + 1) (j - (Classical.choose h + 1)) (by omega)
      rw [show Classical.choose h + 1 + (j - (Classical.choose h + 1)) = j by omega] at this
      omega
    · exact heq
    · have := hmono (j + 1) (Classical.choose h - (j + 1)) (by omega)
      rw [show j + 1 + (Classical.choose h - (j + 1)) = Classical.choose h by omega] at this
      omega
  rw [this]
end
structure VR (P : Program) (B0 : Nat) (w0 : World) (tH : Nat → AH) (n q : Nat) (m : Mp) (w : World) : Prop where
  below : Below B0 w0 w
  hB : B0 ≤ w.heap.size
  dom : ∀ b L, m b = some L → b < (tH n).length ∧ L.blk < w.heap.size
  blks : ∀ b L k, m b = some L → kb tH n q b = some k → BRel P B0 (cutM m (max (tH q).length (b + 1))) L k w
  inj : ∀ b1 b2 L1 L2 k1 k2, m b1 = some L1 → m b2 = some L2 → kb tH n q b1 = some k1 → kb tH n q b2 = some k2 → k1.kind ≠ .ro → b1 ≠ b2 → L1.blk ≠ L2.blk
section
variable {P : Program} {B0 : Nat} {w0 : World} {tH : Nat → AH} {n q : Nat} {m : Mp} {w : World}
theorem kb_lt {b : Nat} (h : b < (tH q).length) : kb tH n q b = blk (tH q) b := if_pos h
theorem kb_ge {b : Nat} (h : (tH q).length ≤ b) : kb tH n q b = ini tH n b := if_neg (by omega)
theorem VR.rel (h : VR P B0 w0 tH n q m w) : Rel P B0 w0 (cutM m (tH q).length) (tH q) w := by
  refine ⟨h.below, h.hB, fun b L hm => ?_, fun b L k hm hk => ?_, fun b1 b2 L1 L2 k1 k2 hm1 hm2 hk1 hk2 hne hbb => ?_⟩
  · obtain ⟨h1, h2⟩ := cutM_some hm
    exact ⟨h1, (h.dom b L h2).2⟩
  · obtain ⟨h1, h2⟩ := cutM_some hm
    have := h.blks b L k h2 (by rw [kb_lt h1]; exact hk)
    rwa [Nat.max_eq_left (by omega)] at this
  · obtain ⟨h1, h2⟩ := cutM_some hm1
    obtain ⟨h3, h4⟩ := cutM_some hm2
    exact h.inj b1 b2 L1 L2 k1 k2 h2 h4 (by rw [kb_lt h1]; exact hk1) (by rw [kb_lt h3]; exact hk2) hne hbb
def padH (tH : Nat → AH) (n q : Nat) : AH := tH q ++ List.replicate ((tH n).length - (tH q).length) none
theorem blk_pad {b : Nat} {k : Blk} (h : blk (padH tH n q) b = some k) : b < (tH q).length ∧ blk (tH q) b = some k := by
  unfold padH at h
  rcases Nat.lt_or_ge b (tH q).length with h1 | h1
  · refine ⟨h1, ?_⟩
    unfold blk at h ⊢
    rwa [List.getElem?_append_left h1] at h
  · unfold blk at h
    rw [List.getElem?_append_right h1] at h
    rw [List.getElem?_replicate] at h
    split at h <;> cases h
theorem VR.pad (h : VR P B0 w0 tH n q m w) (hl : (tH q).length ≤ (tH n).length) : Rel P B0 w0 m (padH tH n q) w := by
  refine ⟨h.below, h.hB, fun b L hm => ?_, fun b L k hm hk => ?_, fun b1 b2 L1 L2 k1 k2 hm1 hm2 hk1 hk2 hne hbb => ?_⟩
  · have := h.dom b L hm
    refine ⟨?_, this.2⟩
    unfold padH
    rw [List.length_append, List.length_replicate]
    omega
  · obtain ⟨h1, h2⟩ := blk_pad hk
    exact (h.blks b L k hm (by rw [kb_lt h1]; exact h2)).mono fun b L hb => (cutM_some hb).2
  · obtain ⟨h1, h2⟩ := blk_pad hk1
    obtain ⟨h3, h4⟩ := blk_pad hk2
    exact h.inj b1 b2 L1 L2 k1 k2 hm1 hm2 (by rw [kb_lt h1]; exact h2) (by rw [kb_lt h3]; exact h4) hne hbb
theorem blk_dead (l b : Nat) : blk (List.replicate l none) b = none := by
  unfold blk
  rw [List.getElem?_replicate]
  split <;> rfl
theorem VR.dead (h : VR P B0 w0 tH n q m w) (l : Nat) : Rel P B0 w0 (cutM m l) (List.replicate l none) w := by
  refine ⟨h.below, h.hB, fun b L hm => ?_, fun b L k hm hk => (by rw [blk_dead] at hk; cases hk), fun b1 b2 L1 L2 k1 k2 hm1 hm2 hk1 hk2 hne hbb => (by rw [blk_dead] at hk1; cases hk1)⟩
  obtain ⟨h1, h2⟩ := cutM_some hm
  exact ⟨by rw [List.length_replicate]; exact h1, (h.dom b L h2).2⟩
/-- The world has moved on, its blocks are as they were. -/
theorem VR.still (h : VR P B0 w0 tH n q m w) {w1 : World} (hb : Below B0 w0 w1) (hs : w.heap.size ≤ w1.heap.size) (hw : ∀ B, B < w.heap.size → w1.heap[B]? = w.heap[B]?) : VR P B0 w0 tH n q m w1 :=
  ⟨hb, Nat.le_trans h.hB hs, fun b L hm => ⟨(h.dom b L hm).1, Nat.lt_of_lt_of_le (h.dom b L hm).2 hs⟩, fun b L k hm hk => (h.blks b L k hm hk).world (hw _ (h.dom b L hm).2), h.inj⟩
/-- A block more. -/
theorem VR.alloc (h : VR P B0 w0 tH n q m w) {w1 : World} (hb : Below B0 w0 w1) (hs : w.heap.size ≤ w1.heap.size) (hw : ∀ B, B < w.heap.size → w1.heap[B]? = w.heap[B]?) {l : Nat} {L : Loc} {k : Blk} (hl : l < (tH n).length) (hm : m l = none) (hk : kb tH n q l = some k)
    (hL : w.heap.size ≤ L.blk) (hL1 : L.blk < w1.heap.size) (hB : BRel P B0 (cutM (upd m l L) (l + 1)) L k w1) : VR P B0 w0 tH n q (upd m l L) w1 := by
  have hmono : ∀ b L', m b = some L' → upd m l L b = some L' := fun b L' h1 => by
    unfold upd
    split
    · rename_i he; subst he; rw [hm] at h1; cases h1
    · exact h1
  have old : ∀ b2 L2, upd m l L b2 = some L2 → (b2 = l ∧ L2 = L) ∨ (b2 ≠ l ∧ m b2 = some L2) := by
    intro b2 L2 h2
    unfold upd at h2
    split at h2
    · rename_i hb; cases h2; exact .inl ⟨hb, rfl⟩
    · rename_i hb; exact .inr ⟨hb, h2⟩
  have h1 := h.still hb hs hw
  refine ⟨hb, h1.hB, fun b L' hb' => ?_, fun b L' k' hb' hk' => ?_, fun b1 b2 L1 L2 k1 k2 hm1 hm2 hk1 hk2 hne hbb => ?_⟩
  · rcases old b L' hb' with ⟨rfl, rfl⟩ | ⟨_, h2⟩
    · exact ⟨hl, hL1⟩
    · exact h1.dom b L' h2
  · rcases old b L' hb' with ⟨rfl, rfl⟩ | ⟨_, h2⟩
    · rw [hk] at hk'
      cases hk'
      exact hB.mono fun b' L'' h3 => by obtain ⟨h4, h5⟩ := cutM_some h3; exact cutM_of (by omega) h5
    · exact (h1.blks b L' k' h2 hk').mono fun b' L'' h3 => by obtain ⟨h4, h5⟩ := cutM_some h3; exact cutM_of h4 (hmono _ _ h5)
  · rcases old b1 L1 hm1 with ⟨rfl, rfl⟩ | ⟨_, h2⟩
    · rcases old b2 L2 hm2 with ⟨rfl, rfl⟩ | ⟨_, h3⟩
      · exact (hbb rfl).elim
      · have := (h.dom b2 L2 h3).2; omega
    · rcases old b2 L2 hm2 with ⟨rfl, rfl⟩ | ⟨_, h3⟩
      · have := (h.dom b1 L1 h2).2; omega
      · exact h.inj b1 b2 L1 L2 k1 k2 h2 h3 hk1 hk2 hne hbb
/-- What acts is done. -/
def mrg (m1 m : Mp) (l1 : Nat) : Mp := fun b => if b < l1 then m1 b else m b
theorem VR.eff (h : VR P B0 w0 tH n q m w) {q' : Nat} {m1 : Mp} {w1 : World} (hq : q < q') (hq' : q' ≤ n) (hlen : (tH q).length ≤ (tH (q + 1)).length) (hsame : (tH (q + 1)).length ≤ (tH q').length ∧ ∀ b, b < (tH (q + 1)).length → blk (tH q') b = blk (tH (q + 1)) b)
    (hini : ∀ b, (tH (q + 1)).length ≤ b → b < (tH q').length → blk (tH q') b = ini tH n b) (hle : (tH q').length ≤ (tH n).length)
    (R1 : Rel P B0 w0 m1 (tH (q + 1)) w1) (E : Ext (cutM m (tH q).length) (tH q) w m1 (tH (q + 1)) w1) (hnew : ∀ b, (tH q).length ≤ b → b < (tH (q + 1)).length → m b = none) :
    VR P B0 w0 tH n q' (mrg m1 m (tH (q + 1)).length) w1 ∧ (∀ b L, m b = some L → mrg m1 m (tH (q + 1)).length b = some L) := by
  have hmono : ∀ b L, m b = some L → mrg m1 m (tH (q + 1)).length b = some L := by
    intro b L hb
    unfold mrg
    split
    · rename_i hlt
      rcases Nat.lt_or_ge b (tH q).length with h1 | h1
      · exact E.mono b L (cutM_of h1 hb)
      · rw [hnew b h1 hlt] at hb; cases hb
    · exact hb
  have hmono1 : ∀ b L, m1 b = some L → mrg m1 m (tH (q + 1)).length b = some L := by
    intro b L hb
    unfold mrg
    rw [if_pos (R1.dom b L hb).1]
    exact hb
  have old : ∀ b L, mrg m1 m (tH (q + 1)).length b = some L → (b < (tH (q + 1)).length ∧ m1 b = some L) ∨ ((tH (q + 1)).length ≤ b ∧ m b = some L) := by
    intro b L hb
    unfold mrg at hb
    split at hb
    · rename_i h1; exact .inl ⟨h1, hb⟩
    · rename_i h1; exact .inr ⟨by omega, hb⟩
  -- what lies beyond is as it was
  have kbeyond : ∀ b, (tH (q + 1)).length ≤ b → kb tH n q' b = kb tH n q b := by
    intro b hb
    rw [kb_ge (q := q) (by omega)]
    rcases Nat.lt_or_ge b (tH q').length with h1 | h1
    · rw [kb_lt h1]; exact hini b hb h1
    · exact kb_ge h1
  have wbeyond : ∀ b L k, (tH (q + 1)).length ≤ b → m b = some L → kb tH n q b = some k → w1.heap[L.blk]? = w.heap[L.blk]? := by
    intro b L k hb hm hk
    refine E.frame _ (h.dom b L hm).2 fun b2 L2 k2 hm2 hk2 hne => ?_
    obtain ⟨h1, h2⟩ := cutM_some hm2
    exact h.inj b2 b L2 L k2 k h2 hm (by rw [kb_lt h1]; exact hk2) hk hne (by omega)
  -- where a block of the lesser heap may lie
  have place : ∀ b L k, m1 b = some L → blk (tH (q + 1)) b = some k → ∀ b2 L2 k2, (tH (q + 1)).length ≤ b2 → m b2 = some L2 → kb tH n q b2 = some k2 → (k.kind ≠ .ro ∨ k2.kind ≠ .ro) → L.blk ≠ L2.blk := by
    intro b L k hm hk b2 L2 k2 hb2 hm2 hk2 hor
    rcases E.new b L hm with h1 | ⟨h1, h3 | ⟨b0, L0, k0, h3, h4, h5, h6⟩⟩
    · obtain ⟨h3, h4⟩ := cutM_some h1
      obtain ⟨k', h5, h6⟩ := E.alive b k h3 hk
      rcases hor with hor | hor
      · exact h.inj b b2 L L2 k' k2 h4 hm2 (by rw [kb_lt h3]; exact h5) hk2 (by rw [h6]; exact hor) (by omega)
      · exact Ne.symm (h.inj b2 b L2 L k2 k' hm2 h4 hk2 (by rw [kb_lt h3]; exact h5) hor (by omega))
    · have := (h.dom b2 L2 hm2).2; omega
    · obtain ⟨h7, h8⟩ := cutM_some h3
      rw [← h6]
      exact h.inj b0 b2 L0 L2 k0 k2 h8 hm2 (by rw [kb_lt h7]; exact h4) hk2 h5 (by omega)
  refine ⟨⟨R1.below, R1.hB, fun b L hb => ?_, fun b L k hb hk => ?_, fun b1 b2 L1 L2 k1 k2 hm1 hm2 hk1 hk2 hne hbb => ?_⟩, hmono⟩
  · rcases old b L hb with ⟨h1, h2⟩ | ⟨h1, h2⟩
    · exact ⟨by omega, (R1.dom b L h2).2⟩
    · exact ⟨(h.dom b L h2).1, Nat.lt_of_lt_of_le (h.dom b L h2).2 E.size⟩
  · rcases old b L hb with ⟨h1, h2⟩ | ⟨h1, h2⟩
    · rw [kb_lt (by omega), hsame.2 b h1] at hk
      exact (R1.blks b L k h2 hk).mono fun b' L' h3 => cutM_of (by have := (R1.dom b' L' h3).1; omega) (hmono1 b' L' h3)
    · rw [kbeyond b h1] at hk
      refine ((h.blks b L k h2 hk).world (wbeyond b L k h1 h2 hk)).mono fun b' L' h3 => ?_
      obtain ⟨h4, h5⟩ := cutM_some h3
      exact cutM_of (by omega) (hmono b' L' h5)
  · rcases old b1 L1 hm1 with ⟨h1, h2⟩ | ⟨h1, h2⟩
    · rw [kb_lt (by omega), hsame.2 b1 h1] at hk1
      rcases old b2 L2 hm2 with ⟨h3, h4⟩ | ⟨h3, h4⟩
      · rw [kb_lt (by omega), hsame.2 b2 h3] at hk2
        exact R1.inj b1 b2 L1 L2 k1 k2 h2 h4 hk1 hk2 hne hbb
      · rw [kbeyond b2 h3] at hk2
        exact place b1 L1 k1 h2 hk1 b2 L2 k2 h3 h4 hk2 (.inl hne)
    · rw [kbeyond b1 h1] at hk1
      rcases old b2 L2 hm2 with ⟨h3, h4⟩ | ⟨h3, h4⟩
      · rw [kb_lt (by omega), hsame.2 b2 h3] at hk2
        exact Ne.symm (place b2 L2 k2 h4 hk2 b1 L1 k1 h1 h2 hk1 (.inr hne))
      · rw [kbeyond b2 h3] at hk2
        exact h.inj b1 b2 L1 L2 k1 k2 h2 h4 hk1 hk2 hne hbb
end
end Go.AM
set_option linter.unusedVariables false
set_option linter.unusedSimpArgs false
namespace Go.AM
open Go.RowKit

section
variable {P : Program} {call : CallF} {ops : Array Oper}
def dstAt (ops : Array Oper) (i : Nat) : Option Tmp := (ops[i]?).bind (·.dst)
def sv (ops : Array Oper) (vl : Nat → Value) (T0 : List Value) (D : Nat → Bool) : Nat → Nat → Value
  | 0, s => T0.getD s undef
  | i + 1, s => if D i = true ∧ dstAt ops i = some s then vl i else sv ops vl T0 D i s
def svL (ops : Array Oper) (vl : Nat → Value) (T0 : List Value) (D : Nat → Bool) : List Value := (List.range T0.length).map (sv ops vl T0 D ops.size)
variable {vl : Nat → Value} {T0 : List Value}
theorem svL_length (D : Nat → Bool) : (svL ops vl T0 D).length = T0.length := by simp [svL]
theorem svL_getD (D : Nat → Bool) {s : Nat} (hs : s < T0.length) : (svL ops vl T0 D).getD s undef = sv ops vl T0 D ops.size s := by
  unfold svL
  rw [List.getD_eq_getElem?_getD, List.getElem?_map, List.getElem?_range hs]
  rfl
theorem sv_congr {D D' : Nat → Bool} {s : Nat} : ∀ i, (∀ j, j < i → dstAt ops j = some s → D j = D' j) → sv ops vl T0 D i s = sv ops vl T0 D' i s
  | 0, _ => rfl
  | i + 1, h => by
    have ih := sv_congr (D := D) (D' := D') i fun j hj => h j (by omega)
    unfold sv
    rw [ih]
    by_cases hd : dstAt ops i = some s
    · rw [h i (by omega) hd]
    · rw [if_neg (fun hh => hd hh.2), if_neg (fun hh => hd hh.2)]
theorem sv_cut {D : Nat → Bool} {s i : Nat} : ∀ d, (∀ j, i ≤ j → j < i + d → dstAt ops j = some s → D j = false) → sv ops vl T0 D (i + d) s = sv ops vl T0 D i s
  | 0, _ => rfl
  | d + 1, h => by
    have ih := sv_cut (D := D) (s := s) (i := i) d fun j h1 h2 => h j h1 (by omega)
    have e : sv ops vl T0 D (i + (d + 1)) s = if D (i + d) = true ∧ dstAt ops (i + d) = some s then vl (i + d) else sv ops vl T0 D (i + d) s := rfl
    rw [e, if_neg]
    · exact ih
    · intro hh
      have := h (i + d) (by omega) (by omega) hh.2
      rw [hh.1] at this
      cases this
theorem tT_sv {tT : Nat → List Value} (h0 : tT 0 = T0) (hstep : ∀ j o, ops[j]? = some o → tT (j + 1) = putT (tT j) o.dst (vl j)) : ∀ j, j ≤ ops.size → (tT j).length = T0.length ∧ ∀ s, s < T0.length → (tT j).getD s undef = sv ops vl T0 (fun _ => true) j s
  | 0, _ => by rw [h0]; exact ⟨rfl, fun s _ => rfl⟩
  | j + 1, hj => by
    obtain ⟨h1, h2⟩ := tT_sv h0 hstep j (by omega)
    have ho : ops[j]? = some ops[j] := Array.getElem?_eq_getElem (by omega)
    rw [hstep j _ ho]
    have hd : dstAt ops j = ops[j].dst := by simp [dstAt, ho]
    cases hdst : ops[j].dst with
    | none =>
      refine ⟨h1, fun s hs => ?_⟩
      unfold sv
      rw [if_neg (by rw [hd, hdst]; simp)]
      exact h2 s hs
    | some d =>
      refine ⟨by simp [putT, h1], fun s hs => ?_⟩
      unfold sv
      rw [hd, hdst]
      by_cases he : d = s
      · subst he
        rw [if_pos ⟨rfl, rfl⟩]
        simp only [putT]
        rw [List.getD_eq_getElem?_getD, List.getElem?_set_self (by omega)]
        rfl
      · rw [if_neg (by simp [he])]
        simp only [putT]
        rw [List.getD_eq_getElem?_getD, List.getElem?_set_ne he, ← List.getD_eq_getElem?_getD]
        exact h2 s hs
/-- What the region's own test says of two operations. -/
theorem regOK_pair (hreg : regOK ops = true) {i j : Nat} (hij : i < j) {oi oj : Oper} (hi : ops[i]? = some oi) (hj : ops[j]? = some oj) : ordB (befL [] ops.toList) i j = true ∨ ((isEff oi.op = true → isEff oj.op = true → False) ∧ oi.apart ops oj = true ∧ oj.apart ops oi = true) := by
  unfold regOK at hreg
  rw [Bool.and_eq_true] at hreg
  have h1 := List.all_eq_true.1 hreg.2 j (List.mem_range.2 (Array.getElem?_eq_some_iff.1 hj).1)
  have h2 := List.all_eq_true.1 h1 i (List.mem_range.2 hij)
  rw [Bool.or_eq_true] at h2
  rcases h2 with h2 | h2
  · exact .inl h2
  · right
    simp only [hi, hj, Option.any_some, Bool.and_eq_true, Bool.not_eq_true', Bool.and_eq_false_iff] at h2
    refine ⟨fun h3 h4 => ?_, h2.1.2, h2.2⟩
    rcases h2.1.1 with h5 | h5
    · rw [h3] at h5; cases h5
    · rw [h4] at h5; cases h5
theorem regOK_edge (hreg : regOK ops = true) {j : Nat} {o : Oper} (ho : ops[j]? = some o) {e : Edge} (he : e ∈ o.after) (hb : Region.binds .any e = true) : e.on < j := by
  unfold regOK at hreg
  rw [Bool.and_eq_true] at hreg
  have h1 := List.all_eq_true.1 hreg.1 j (List.mem_range.2 (Array.getElem?_eq_some_iff.1 ho).1)
  simp only [ho, Option.any_some] at h1
  have h2 := Array.all_eq_true'.1 h1 e he
  simpa [hb] using h2
/-- The operation is ready: what it comes behind is done, it is not. -/
structure Ready (ops : Array Oper) (D : Nat → Bool) (j : Nat) (o : Oper) : Prop where
  op : ops[j]? = some o
  down : Down ops (fun i => D i = true)
  edges : ∀ e ∈ o.after, Region.binds .any e = true → D e.on = true
  not : D j = false
variable {D : Nat → Bool} {j : Nat} {o : Oper}
theorem Ready.before (h : Ready ops D j o) {i : Nat} (ho : ordB (befL [] ops.toList) i j = true) : D i = true := ordB_down h.down j o h.op h.edges i ho
theorem Ready.behind (h : Ready ops D j o) {i : Nat} {oi : Oper} (hi : ops[i]? = some oi) (ho : ordB (befL [] ops.toList) j i = true) : D i = false := by
  cases hD : D i with
  | false => rfl
  | true =>
    have := ordB_down h.down i oi hi (fun e he hb => h.down i oi hi hD e he hb) j ho
    have h2 := h.not
    rw [this] at h2
    cases h2
theorem Ready.slots (hreg : regOK ops = true) (h : Ready ops D j o) {s : Tmp} (hs : s ∈ o.looksAt ops) : sv ops vl T0 D ops.size s = sv ops vl T0 (fun _ => true) j s := by
  have hj : j < ops.size := (Array.getElem?_eq_some_iff.1 h.op).1
  have e1 : sv ops vl T0 D ops.size s = sv ops vl T0 D j s := by
    have := sv_cut (ops := ops) (vl := vl) (T0 := T0) (D := D) (s := s) (i := j) (ops.size - j) fun i h1 h2 hd => ?_
    · rwa [show j + (ops.size - j) = ops.size by omega] at this
    · by_cases hij : i = j
      · subst hij; exact h.not
      · have hi : ops[i]? = some ops[i] := Array.getElem?_eq_getElem (by omega)
        rcases regOK_pair hreg (show j < i by omega) h.op hi with h3 | ⟨_, h3, _⟩
        · exact h.behind hi h3
        · obtain ⟨_, _, h5⟩ := Oper.apart_spec h3
          exact absurd hs (h5 s (by simpa [dstAt, hi] using hd))
  rw [e1]
  refine sv_congr j fun i hij hd => ?_
  have hi : ops[i]? = some ops[i] := Array.getElem?_eq_getElem (by omega)
  rcases regOK_pair hreg hij hi h.op with h3 | ⟨_, h3, _⟩
  · exact h.before h3
  · obtain ⟨h4, _, _⟩ := Oper.apart_spec h3
    exact absurd hs (h4 s (by simpa [dstAt, hi] using hd))
theorem Ready.put (hreg : regOK ops = true) (h : Ready ops D j o) : svL ops vl T0 (fun i => if i = j then true else D i) = putT (svL ops vl T0 D) o.dst (vl j) := by
  have hj : j < ops.size := (Array.getElem?_eq_some_iff.1 h.op).1
  have hdj : dstAt ops j = o.dst := by simp [dstAt, h.op]
  apply List.ext_getElem?
  intro s
  rcases Nat.lt_or_ge s T0.length with hs | hs
  · have hl : (svL ops vl T0 (fun i => if i = j then true else D i))[s]? = some (sv ops vl T0 (fun i => if i = j then true else D i) ops.size s) := by
      unfold svL; rw [List.getElem?_map, List.getElem?_range hs]; rfl
    have hl2 : (svL ops vl T0 D)[s]? = some (sv ops vl T0 D ops.size s) := by
      unfold svL; rw [List.getElem?_map, List.getElem?_range hs]; rfl
    rw [hl]
    by_cases hd : o.dst = some s
    · rw [hd]
      simp only [putT]
      rw [List.getElem?_set_self (by rw [svL_length]; exact hs)]
      congr 1
      have := sv_cut (ops := ops) (vl := vl) (T0 := T0) (D := fun i => if i = j then true else D i) (s := s) (i := j + 1) (ops.size - (j + 1)) fun i h1 h2 hdi => ?_
      · rw [show j + 1 + (ops.size - (j + 1)) = ops.size by omega] at this
        rw [this]
        unfold sv
        rw [if_pos ⟨by simp, by rw [hdj]; exact hd⟩]
      · simp only [if_neg (show i ≠ j by omega)]
        have hi : ops[i]? = some ops[i] := Array.getElem?_eq_getElem (by omega)
        rcases regOK_pair hreg (show j < i by omega) h.op hi with h3 | ⟨_, h3, _⟩
        · exact h.behind hi h3
        · obtain ⟨_, h5, _⟩ := Oper.apart_spec h3
          exact absurd (show ops[i].dst = some s by simpa [dstAt, hi] using hdi) (h5 s hd)
    · have e1 : sv ops vl T0 (fun i => if i = j then true else D i) ops.size s = sv ops vl T0 D ops.size s := sv_congr _ fun i hi hdi => by
        have : i ≠ j := fun he => hd (by rw [← hdj, ← he]; exact hdi)
        simp only [if_neg this]
      rw [e1]
      cases hdst : o.dst with
      | none => exact hl2.symm
      | some d =>
        simp only [putT]
        rw [List.getElem?_set_ne (fun he => hd (by rw [hdst, he]))]
        exact hl2.symm
  · have hl : (svL ops vl T0 (fun i => if i = j then true else D i))[s]? = none := List.getElem?_eq_none (by rw [svL_length]; exact hs)
    rw [hl]
    cases o.dst with
    | none => exact (List.getElem?_eq_none (by simp only [putT]; rw [svL_length]; exact hs)).symm
    | some d => exact (List.getElem?_eq_none (by simp only [putT, List.length_set]; rw [svL_length]; exact hs)).symm
theorem opv_slots {T T' : List Value} (hl : T.length = T'.length) {o : Oper} (h : ∀ s ∈ o.looksAt ops, s < T.length → T.getD s undef = T'.getD s undef) : (∀ x ∈ o.op.operands, opv T x = opv T' x) ∧ ∀ g want, o.guard = some (g, want) → yieldV ops T g = yieldV ops T' g := by
  have one : ∀ s ∈ o.looksAt ops, T.getD s undef = T'.getD s undef := by
    intro s hs
    rcases Nat.lt_or_ge s T.length with h1 | h1
    · exact h s hs h1
    · rw [List.getD_eq_getElem?_getD, List.getD_eq_getElem?_getD, List.getElem?_eq_none h1, List.getElem?_eq_none (by omega)]
  refine ⟨fun x hx => ?_, fun g want hg => ?_⟩
  · cases x with
    | tmp s => exact one s (List.mem_append_left _ (List.mem_filterMap.2 ⟨.tmp s, by simpa using hx, rfl⟩))
    | _ => rfl
  · unfold yieldV
    cases hd : (ops[g]?).bind (·.dst) with
    | none => rfl
    | some s => exact one s (by simp [Oper.looksAt, hg, hd])
end
end Go.AM
set_option linter.unusedVariables false
set_option linter.unusedSimpArgs false
namespace Go.AM
open Go.RowKit

section
variable {P : Program} {call : CallF} {ops : Array Oper} {tT : Nat → List Value} {tH : Nat → AH} {sk : Nat → Bool} {vl : Nat → Value}

theorem read_sound {B0 : Nat} {w0 : World} {m : Mp} {X : AH} {w : World} (R0 : Rel P B0 w0 m X w) {T : List Value} {a : Act} (hT : LRel m T a.tmps.toList) {o : Oper} {f : AH → Option Value} (hf : opRead P (opv T) o.op = some f) {v : Value} (h : f X = some v) :
    ∃ v', (execOp a.eval o).run P w = .ok (.value v') w ∧ VRel m v v' := by
  obtain ⟨dst, op, ty, ps, af, g⟩ := o
  unfold opRead at hf
  split at hf
  · rename_i t x hop
    simp only at hop
    subst hop
    cases hf
    obtain ⟨v', q1, q2⟩ := ld_sound R0 (opv_rel hT x) h
    exact ⟨v', by simp [execOp, q1], q2⟩
  · rename_i s d x hop
    simp only at hop
    subst hop
    cases hb : isBytesToString P s d with
    | true =>
      rw [hb] at hf
      cases hf
      obtain ⟨v', q1, q2⟩ := cvS_sound R0 (opv_rel hT x) h
      exact ⟨v', by simp [execOp, q1], q2⟩
    | false => rw [hb] at hf; cases hf
  · cases hf
theorem nextE (s : Nat) : ∀ d, s + d = ops.size → ∃ q, s ≤ q ∧ q ≤ ops.size ∧ (∀ e, s ≤ e → e < q → eE ops sk e = false) ∧ (q < ops.size → eE ops sk q = true)
  | 0, h => ⟨s, Nat.le_refl _, by omega, fun e h1 h2 => by omega, fun h1 => by omega⟩
  | d + 1, h => by
    cases he : eE ops sk s with
    | true => exact ⟨s, Nat.le_refl _, by omega, fun e h1 h2 => by omega, fun _ => he⟩
    | false =>
      obtain ⟨q, h1, h2, h3, h4⟩ := nextE (s + 1) d (by omega)
      exact ⟨q, by omega, h2, fun e h5 h6 => by
        by_cases hes : e = s
        · subst hes; exact he
        · exact h3 e (by omega) h6, h4⟩
theorem eE_inv {j : Nat} (h : eE ops sk j = true) : ∃ o, ops[j]? = some o ∧ isEff o.op = true ∧ sk j = false := by
  unfold eE at h
  rw [Bool.and_eq_true] at h
  cases ho : ops[j]? with
  | none => rw [ho] at h; cases h.1
  | some o => rw [ho] at h; exact ⟨o, rfl, by simpa using h.1, by simpa using h.2⟩
theorem crossing (f : Nat → Nat) (i : Nat) (b : Nat) (h0 : f i ≤ b) : ∀ d, b < f (i + d) → ∃ j, i ≤ j ∧ j < i + d ∧ f j ≤ b ∧ b < f (j + 1)
  | 0, h => by simp at h; omega
  | d + 1, h => by
    rcases Nat.lt_or_ge b (f (i + d)) with h1 | h1
    · obtain ⟨j, h2, h3, h4⟩ := crossing f i b h0 d h1
      exact ⟨j, h2, by omega, h4⟩
    · exact ⟨i + d, by omega, by omega, h1, h⟩

structure Inv (P : Program) (ops : Array Oper) (tT : Nat → List Value) (tH : Nat → AH) (sk : Nat → Bool) (vl : Nat → Value) (B0 : Nat) (w0 : World) (m0 : Mp) (wI : World) (listed : Array Bool) (q : Nat) (m : Mp) (a : Act) (w : World) : Prop where
  lsize : listed.size = ops.size
  down : Down ops (fun i => listed.getD i false = true)
  hq : q ≤ ops.size
  hq1 : q < ops.size → eE ops sk q = true ∧ listed.getD q false = false
  hq2 : ∀ e, e < q → eE ops sk e = true → listed.getD e false = true
  slots : LRel m (svL ops vl (tT 0) (fun i => listed.getD i false)) a.tmps.toList
  defers : a.defers = []
  vr : VR P B0 w0 tH ops.size q m w
  dm : ∀ b L, m b = some L → b < (tH 0).length ∨ ∃ i, i < ops.size ∧ listed.getD i false = true ∧ (tH i).length ≤ b ∧ b < (tH (i + 1)).length
  mono0 : ∀ b L, m0 b = some L → m b = some L
  size : wI.heap.size ≤ w.heap.size
  new : ∀ b L, m b = some L → m0 b = some L ∨ ((tH 0).length ≤ b ∧ (wI.heap.size ≤ L.blk ∨ ∃ b0 L0 k0, m0 b0 = some L0 ∧ blk (tH 0) b0 = some k0 ∧ k0.kind ≠ .ro ∧ L0.blk = L.blk))
  frame : ∀ B, B < wI.heap.size → (∀ b L k, m0 b = some L → blk (tH 0) b = some k → k.kind ≠ .ro → L.blk ≠ B) → w.heap[B]? = wI.heap[B]?

/-- The lengths and kinds along the text's own order. -/
structure Along (ops : Array Oper) (tT : Nat → List Value) (tH : Nat → AH) (m0 : Mp) : Prop where
  lens : ∀ i d, i + d ≤ ops.size → (tH i).length ≤ (tH (i + d)).length
  alive : ∀ d, d ≤ ops.size → ∀ b k', b < (tH 0).length → blk (tH d) b = some k' → ∃ k, blk (tH 0) b = some k ∧ k.kind = k'.kind
  bel : ∀ (j s : Nat) (x : Value), j ≤ ops.size → (tT j)[s]? = some x → Bel (tH j).length x
  dom0 : ∀ b L, m0 b = some L → b < (tH 0).length
theorem Along.le {m0 : Mp} (A : Along ops tT tH m0) {i j : Nat} (h : i ≤ j) (hj : j ≤ ops.size) : (tH i).length ≤ (tH j).length := by
  have := A.lens i (j - i) (by omega)
  rwa [show i + (j - i) = j by omega] at this
theorem getD_set {listed : Array Bool} {j : Nat} (hj : j < listed.size) (i : Nat) : (listed.setIfInBounds j true).getD i false = if i = j then true else listed.getD i false := by
  by_cases h : i = j
  · subst h
    rw [if_pos rfl]
    simp [Array.getD, hj]
  · rw [if_neg h]
    exact getD_set_ne false (Ne.symm h)
section
variable {B0 : Nat} {w0 : World} {m0 : Mp} {wI : World} {listed : Array Bool} {q : Nat} {m : Mp} {a : Act} {w : World}
theorem Inv.rdy (I : Inv P ops tT tH sk vl B0 w0 m0 wI listed q m a w) {j : Nat} (hr : j ∈ Region.ready .any ops listed) : ∃ o, Ready ops (fun i => listed.getD i false) j o := by
  unfold Region.ready at hr
  rw [List.mem_filter] at hr
  obtain ⟨h1, h2⟩ := hr
  have hj : j < ops.size := List.mem_range.1 h1
  have ho : ops[j]? = some ops[j] := Array.getElem?_eq_getElem hj
  rw [Bool.and_eq_true, ho] at h2
  simp only [Option.map_some, Option.getD_some] at h2
  refine ⟨ops[j], ho, I.down, fun e he hb => ?_, ?_⟩
  · have := Array.all_eq_true'.1 h2.2 e he
    simpa [hb] using this
  · have hlt : j < listed.size := by rw [I.lsize]; exact hj
    have := h2.1
    simp [Array.getD, hlt] at this ⊢
    exact this
theorem Inv.down' (I : Inv P ops tT tH sk vl B0 w0 m0 wI listed q m a w) {j : Nat} {o : Oper} (hr : Ready ops (fun i => listed.getD i false) j o) : Down ops (fun i => (listed.setIfInBounds j true).getD i false = true) := by
  have hlt : j < listed.size := by rw [I.lsize]; exact (Array.getElem?_eq_some_iff.1 hr.op).1
  intro i oi hi hD e he hb
  simp only [getD_set hlt] at hD ⊢
  by_cases hij : i = j
  · subst hij
    rw [hr.op] at hi
    cases hi
    have := hr.edges e he hb
    split
    · rfl
    · exact this
  · rw [if_neg hij] at hD
    have := I.down i oi hi hD e he hb
    split
    · rfl
    · exact this
/-- An operation that doesn't act is done: slots and marks. -/
theorem Inv.mark (hreg : regOK ops = true) (I : Inv P ops tT tH sk vl B0 w0 m0 wI listed q m a w) {j : Nat} {o : Oper} (hr : Ready ops (fun i => listed.getD i false) j o) (hne : eE ops sk j = false) {m2 : Mp} {w2 : World} {v' : Value}
    (hmono : ∀ b L, m b = some L → m2 b = some L) (hv : VRel m2 (vl j) v') (hvr : VR P B0 w0 tH ops.size q m2 w2) (hdm : ∀ b L, m2 b = some L → m b = some L ∨ ((tH j).length ≤ b ∧ b < (tH (j + 1)).length ∧ w.heap.size ≤ L.blk)) (h0 : (tH 0).length ≤ (tH j).length)
    (hs : w.heap.size ≤ w2.heap.size) (hw : ∀ B, B < w.heap.size → w2.heap[B]? = w.heap[B]?) :
    Inv P ops tT tH sk vl B0 w0 m0 wI (listed.setIfInBounds j true) q m2 (a.put o.dst v') w2 := by
  have hj : j < ops.size := (Array.getElem?_eq_some_iff.1 hr.op).1
  have hlt : j < listed.size := by rw [I.lsize]; exact hj
  refine ⟨by simp [I.lsize], I.down' hr, I.hq, fun h => ?_, fun e he hE => ?_, ?_, by rw [AM.put_defers]; exact I.defers, hvr, fun b L hb => ?_, fun b L hb => hmono b L (I.mono0 b L hb), Nat.le_trans I.size hs, fun b L hb => ?_, fun B hB hr' => ?_⟩
  · obtain ⟨h1, h2⟩ := I.hq1 h
    refine ⟨h1, ?_⟩
    rw [getD_set hlt, if_neg]
    · exact h2
    · intro he
      subst he
      rw [h1] at hne
      cases hne
  · rw [getD_set hlt]
    split
    · rfl
    · exact I.hq2 e he hE
  · have e1 : (fun i => (listed.setIfInBounds j true).getD i false) = fun i => if i = j then true else listed.getD i false := by funext i; exact getD_set hlt i
    rw [e1, hr.put hreg]
    exact put_rel (I.slots.mono hmono) _ hv
  · rcases hdm b L hb with h1 | ⟨h1, h2, h3⟩
    · rcases I.dm b L h1 with h4 | ⟨i, h4, h5, h6⟩
      · exact .inl h4
      · refine .inr ⟨i, h4, ?_, h6⟩
        rw [getD_set hlt]
        split
        · rfl
        · exact h5
    · exact .inr ⟨j, hj, by rw [getD_set hlt, if_pos rfl], h1, h2⟩
  · rcases hdm b L hb with h1 | ⟨h1, h2, h3⟩
    · exact I.new b L h1
    · exact .inr ⟨by omega, .inl (Nat.le_trans I.size h3)⟩
  · rw [hw B (Nat.lt_of_lt_of_le hB I.size)]
    exact I.frame B hB hr'
/-- A read tells the same now. -/
theorem Inv.readNow (X : Tr P call ops (befL [] ops.toList) 0 tT tH sk vl) (A : Along ops tT tH m0) (I : Inv P ops tT tH sk vl B0 w0 m0 wI listed q m a w) {j : Nat} {o : Oper} (hr : Ready ops (fun i => listed.getD i false) j o) (hs : sk j = false) {f : AH → Option Value}
    (hf : opRead P (opv (tT j)) o.op = some f) : f (tH q) = some (vl j) := by
  have hj : j < ops.size := (Array.getElem?_eq_some_iff.1 hr.op).1
  have hnj : eE ops sk j = false := by simp [eE, hr.op, read_not_eff hf]
  rcases Nat.lt_or_ge j q with hlt | hge
  · have key : ∀ d, j + 1 + d ≤ q → f (tH (j + 1 + d)) = some (vl j) := by
      intro d
      induction d with
      | zero =>
        intro _
        obtain ⟨h1, h2⟩ := X.read j o f (Nat.zero_le _) hr.op hs hf
        rw [Nat.add_zero, h2]
        exact h1
      | succ d ih =>
        intro hd
        have hprev := ih (by omega)
        have hq := I.hq
        cases hE : eE ops sk (j + 1 + d) with
        | true =>
          obtain ⟨oe, he1, he2, he3⟩ := eE_inv hE
          have hl := I.hq2 (j + 1 + d) (by omega) hE
          have hord : ordB (befL [] ops.toList) j (j + 1 + d) = false := by
            cases hc : ordB (befL [] ops.toList) j (j + 1 + d) with
            | false => rfl
            | true => have := hr.behind he1 hc; rw [hl] at this; cases this
          exact X.futR j o f (j + 1 + d) oe (Nat.zero_le _) (by omega) hr.op he1 hs he3 he2 hf hord
        | false =>
          rcases X.noeff (j := j + 1 + d) (by omega) hE with h3 | ⟨k, _, h3⟩
          · rw [show j + 1 + (d + 1) = j + 1 + d + 1 by omega, h3]; exact hprev
          · rw [show j + 1 + (d + 1) = j + 1 + d + 1 by omega, h3]
            exact opRead_keep hf (fun b k' hk => by rw [blk_app_old _ (blk_lt' hk)]; exact hk) hprev
    have := key (q - (j + 1)) (by omega)
    rwa [show j + 1 + (q - (j + 1)) = q by omega] at this
  · have hne : q ≠ j := by
      intro he
      subst he
      have := (I.hq1 hj).1
      rw [hnj] at this
      cases this
    obtain ⟨h1, h2⟩ := I.hq1 (by omega)
    obtain ⟨oe, he1, he2, he3⟩ := eE_inv h1
    refine X.pastR j o f q oe (Nat.zero_le _) (by omega) hr.op he1 hs he3 he2 hf ?_
    cases hc : ordB (befL [] ops.toList) q j with
    | false => rfl
    | true => have := hr.before hc; rw [h2] at this; cases this
/-- A block that is yet to be made stands as it will be made. -/
theorem Inv.makeNow (X : Tr P call ops (befL [] ops.toList) 0 tT tH sk vl) (A : Along ops tT tH m0) (I : Inv P ops tT tH sk vl B0 w0 m0 wI listed q m a w) {j : Nat} {o : Oper} (hr : Ready ops (fun i => listed.getD i false) j o) (hs : sk j = false)
    (hf : opRead P (opv (tT j)) o.op = none) (ha : isAlloc o.op = true) {k : Blk} (hk : tH (j + 1) = tH j ++ [some k]) : kb tH ops.size q (tH j).length = some k := by
  have hj : j < ops.size := (Array.getElem?_eq_some_iff.1 hr.op).1
  have hnew : blk (tH (j + 1)) (tH j).length = some k := by rw [hk]; unfold blk; simp
  have hlen : (tH (j + 1)).length = (tH j).length + 1 := by rw [hk]; simp
  have hnj : eE ops sk j = false := by simp [eE, hr.op, alloc_not_eff ha]
  rcases Nat.lt_or_ge j q with hlt | hge
  · have key : ∀ d, j + 1 + d ≤ q → blk (tH (j + 1 + d)) (tH j).length = some k := by
      intro d
      induction d with
      | zero => intro _; exact hnew
      | succ d ih =>
        intro hd
        have hprev := ih (by omega)
        have hq := I.hq
        cases hE : eE ops sk (j + 1 + d) with
        | true =>
          obtain ⟨oe, he1, he2, he3⟩ := eE_inv hE
          have hl := I.hq2 (j + 1 + d) (by omega) hE
          have hord : ordB (befL [] ops.toList) j (j + 1 + d) = false := by
            cases hc : ordB (befL [] ops.toList) j (j + 1 + d) with
            | false => rfl
            | true => have := hr.behind he1 hc; rw [hl] at this; cases this
          have := X.futA j o (j + 1 + d) oe (Nat.zero_le _) (by omega) hr.op he1 hs he3 he2 hf ha hord
          rw [show j + 1 + (d + 1) = j + 1 + d + 1 by omega, this]
          exact hnew
        | false =>
          rcases X.noeff (j := j + 1 + d) (by omega) hE with h3 | ⟨k', _, h3⟩
          · rw [show j + 1 + (d + 1) = j + 1 + d + 1 by omega, h3]; exact hprev
          · rw [show j + 1 + (d + 1) = j + 1 + d + 1 by omega, h3, blk_app_old _ (blk_lt' hprev)]
            exact hprev
    have := key (q - (j + 1)) (by omega)
    rw [show j + 1 + (q - (j + 1)) = q by omega] at this
    rw [kb_lt (blk_lt' this)]
    exact this
  · have hle := A.le hge (by omega)
    rw [kb_ge hle, ini_eq A.lens hj (Nat.le_refl _) (by omega)]
    exact hnew
end
end
end Go.AM
set_option linter.unusedVariables false
set_option linter.unusedSimpArgs false
namespace Go.AM
open Go.RowKit

section
variable {P : Program} {call : CallF} {ops : Array Oper} {tT : Nat → List Value} {tH : Nat → AH} {sk : Nat → Bool} {vl : Nat → Value} {B0 : Nat} {w0 : World} {m0 : Mp} {wI : World} {listed : Array Bool} {q : Nat} {m : Mp} {a : Act} {w : World}

theorem Tr.sv (X : Tr P call ops (befL [] ops.toList) 0 tT tH sk vl) {j : Nat} (hj : j ≤ ops.size) : (tT j).length = (tT 0).length ∧ ∀ s, s < (tT 0).length → (tT j).getD s undef = AM.sv ops vl (tT 0) (fun _ => true) j s :=
  tT_sv rfl (fun j o ho => X.step j o (Nat.zero_le _) ho) j hj
/-- What the operation looks at holds what it held in the text's own order. -/
theorem Inv.looks (hreg : regOK ops = true) (X : Tr P call ops (befL [] ops.toList) 0 tT tH sk vl) (I : Inv P ops tT tH sk vl B0 w0 m0 wI listed q m a w) {j : Nat} {o : Oper} (hr : Ready ops (fun i => listed.getD i false) j o) :
    ∀ s ∈ o.looksAt ops, s < (svL ops vl (tT 0) (fun i => listed.getD i false)).length → (svL ops vl (tT 0) (fun i => listed.getD i false)).getD s undef = (tT j).getD s undef := by
  intro s hs hlt
  rw [svL_length] at hlt
  rw [svL_getD _ hlt, hr.slots hreg hs, ((X.sv (Nat.le_of_lt (Array.getElem?_eq_some_iff.1 hr.op).1)).2 s hlt)]
theorem Inv.opv (hreg : regOK ops = true) (X : Tr P call ops (befL [] ops.toList) 0 tT tH sk vl) (I : Inv P ops tT tH sk vl B0 w0 m0 wI listed q m a w) {j : Nat} {o : Oper} (hr : Ready ops (fun i => listed.getD i false) j o) :
    (∀ x ∈ o.op.operands, AM.opv (svL ops vl (tT 0) (fun i => listed.getD i false)) x = AM.opv (tT j) x) ∧ ∀ g want, o.guard = some (g, want) → yieldV ops (svL ops vl (tT 0) (fun i => listed.getD i false)) g = yieldV ops (tT j) g := by
  have hj := Nat.le_of_lt (Array.getElem?_eq_some_iff.1 hr.op).1
  exact opv_slots (by rw [svL_length, (X.sv hj).1]) (I.looks hreg X hr)
theorem Inv.wanted (hreg : regOK ops = true) (X : Tr P call ops (befL [] ops.toList) 0 tT tH sk vl) (I : Inv P ops tT tH sk vl B0 w0 m0 wI listed q m a w) {j : Nat} {o : Oper} (hr : Ready ops (fun i => listed.getD i false) j o) :
    Region.wanted o (yielded ops a.tmps) = !sk j := by
  obtain ⟨_, hy⟩ := I.opv hreg X hr
  cases hs : sk j with
  | true =>
    obtain ⟨⟨g, want, hg, hu⟩, _⟩ := X.skip j o (Nat.zero_le _) hr.op hs
    rcases hu with ⟨b, hu, hb⟩ | ⟨vs, hu, _⟩
    · rw [wanted_of hg ((yield_rel I.slots g).1 b (by rw [hy g want hg]; exact hu))]
      simp [hb]
    · rw [wanted_of hg ((yield_rel I.slots g).2 vs (by rw [hy g want hg]; exact hu))]
      rfl
  | false =>
    rcases X.go j o (Nat.zero_le _) hr.op hs with hg | ⟨g, want, hg, hu⟩
    · unfold Region.wanted; rw [hg]; rfl
    · rw [wanted_of hg ((yield_rel I.slots g).1 want (by rw [hy g want hg]; exact hu))]
      simp
/-- What acts next is the one. -/
theorem Inv.isq (hreg : regOK ops = true) (I : Inv P ops tT tH sk vl B0 w0 m0 wI listed q m a w) {j : Nat} {o : Oper} (hr : Ready ops (fun i => listed.getD i false) j o) (hE : eE ops sk j = true) : j = q := by
  have hj : j < ops.size := (Array.getElem?_eq_some_iff.1 hr.op).1
  rcases Nat.lt_trichotomy j q with h | h | h
  · have := I.hq2 j h hE
    have h2 := hr.not
    rw [this] at h2
    cases h2
  · exact h
  · obtain ⟨h1, h2⟩ := I.hq1 (by omega)
    obtain ⟨oq, hq1, hq2, _⟩ := eE_inv h1
    obtain ⟨oj, hj1, hj2, _⟩ := eE_inv hE
    rcases regOK_pair hreg h hq1 hj1 with h3 | ⟨h3, _⟩
    · have := hr.before h3; rw [h2] at this; cases this
    · exact (h3 hq2 hj2).elim
/-- The slots that an operation looks at, under the lesser map. -/
theorem Inv.masked (hreg : regOK ops = true) (X : Tr P call ops (befL [] ops.toList) 0 tT tH sk vl) (A : Along ops tT tH m0) (I : Inv P ops tT tH sk vl B0 w0 m0 wI listed q m a w) {j : Nat} {o : Oper} (hr : Ready ops (fun i => listed.getD i false) j o) :
    ∃ T, LRel (cutM m (tH j).length) T a.tmps.toList ∧ ∀ x ∈ o.op.operands, AM.opv T x = AM.opv (tT j) x := by
  have hj : j ≤ ops.size := Nat.le_of_lt (Array.getElem?_eq_some_iff.1 hr.op).1
  refine ⟨(List.range (tT 0).length).map fun s => if s ∈ o.looksAt ops then (tT j).getD s undef else unk, ⟨?_, ?_⟩, ?_⟩
  · rw [List.length_map, List.length_range, ← I.slots.1, svL_length]
  · intro s x y hx hy
    rw [List.getElem?_map] at hx
    have hlt : s < (tT 0).length := by
      rcases Nat.lt_or_ge s (tT 0).length with h1 | h1
      · exact h1
      · rw [List.getElem?_eq_none (by simpa using h1)] at hx; cases hx
    rw [List.getElem?_range hlt, Option.map_some] at hx
    cases hx
    split
    · rename_i hs
      have h1 := I.looks hreg X hr s hs (by rw [svL_length]; exact hlt)
      have h2 : (svL ops vl (tT 0) (fun i => listed.getD i false))[s]? = some ((tT j).getD s undef) := by
        rw [← h1, List.getD_eq_getElem?_getD, List.getElem?_eq_getElem (by rw [svL_length]; exact hlt)]
        rfl
      have h3 := I.slots.2 s _ y h2 hy
      have h4 : (tT j)[s]? = some ((tT j).getD s undef) := by
        rw [List.getD_eq_getElem?_getD, List.getElem?_eq_getElem (by rw [(X.sv hj).1]; exact hlt)]
        rfl
      exact h3.cutB (A.bel j s _ hj h4)
    · exact .unk _
  · refine (opv_slots (ops := ops) (by rw [List.length_map, List.length_range, (X.sv hj).1]) fun s hs hlt => ?_).1
    rw [List.length_map, List.length_range] at hlt
    rw [List.getD_eq_getElem?_getD, List.getElem?_map, List.getElem?_range hlt, Option.map_some, Option.getD_some, if_pos hs]
theorem Inv.act (hreg : regOK ops = true) (X : Tr P call ops (befL [] ops.toList) 0 tT tH sk vl) (A : Along ops tT tH m0) (I : Inv P ops tT tH sk vl B0 w0 m0 wI listed q m a w) {o : Oper} (hr : Ready ops (fun i => listed.getD i false) q o) (hE : eE ops sk q = true)
    {m1 : Mp} {w1 : World} {v' : Value} (E : Ext (cutM m (tH q).length) (tH q) w m1 (tH (q + 1)) w1) (R1 : Rel P B0 w0 m1 (tH (q + 1)) w1) (hv : VRel m1 (vl q) v') :
    ∃ q' m2, Inv P ops tT tH sk vl B0 w0 m0 wI (listed.setIfInBounds q true) q' m2 (a.put o.dst v') w1 := by
  have hq : q < ops.size := (Array.getElem?_eq_some_iff.1 hr.op).1
  have hlt : q < listed.size := by rw [I.lsize]; exact hq
  obtain ⟨q', hq1, hq2, hq3, hq4⟩ := nextE (ops := ops) (sk := sk) (q + 1) (ops.size - (q + 1)) (by omega)
  have hlen := A.le (i := q) (j := q + 1) (by omega) (by omega)
  have hsame := X.same (q + 1) (q' - (q + 1)) (by omega) (fun e h1 h2 => hq3 e h1 (by omega))
  rw [show q + 1 + (q' - (q + 1)) = q' by omega] at hsame
  have hini : ∀ b, (tH (q + 1)).length ≤ b → b < (tH q').length → blk (tH q') b = ini tH ops.size b := by
    intro b h1 h2
    obtain ⟨j, h3, h4, h5, h6⟩ := crossing (fun i => (tH i).length) (q + 1) b h1 (q' - (q + 1)) (by rw [show q + 1 + (q' - (q + 1)) = q' by omega]; exact h2)
    rw [ini_eq A.lens (show j < ops.size by omega) h5 h6]
    have h7 := X.same (j + 1) (q' - (j + 1)) (by omega) (fun e h7 h8 => hq3 e (by omega) (by omega))
    rw [show j + 1 + (q' - (j + 1)) = q' by omega] at h7
    exact h7.2 b h6
  have hnew : ∀ b, (tH q).length ≤ b → b < (tH (q + 1)).length → m b = none := by
    intro b h1 h2
    cases hb : m b with
    | none => rfl
    | some L =>
      exfalso
      rcases I.dm b L hb with h3 | ⟨i, h3, h4, h5, h6⟩
      · have := A.le (i := 0) (j := q) (by omega) (by omega); omega
      · rcases Nat.lt_trichotomy i q with h7 | h7 | h7
        · have := A.le (i := i + 1) (j := q) (by omega) (by omega); omega
        · subst h7
          have := hr.not
          rw [h4] at this
          cases this
        · have := A.le (i := q + 1) (j := i) (by omega) (by omega); omega
  obtain ⟨V, hmono⟩ := I.vr.eff (by omega) hq2 hlen hsame hini (A.le hq2 (Nat.le_refl _)) R1 E hnew
  have hmono1 : ∀ b L, m1 b = some L → mrg m1 m (tH (q + 1)).length b = some L := by
    intro b L hb
    unfold mrg
    rw [if_pos (R1.dom b L hb).1]
    exact hb
  have split_ : ∀ b L, mrg m1 m (tH (q + 1)).length b = some L → m b = some L ∨ ((tH q).length ≤ b ∧ b < (tH (q + 1)).length ∧ (w.heap.size ≤ L.blk ∨ ∃ b0 L0 k0, m b0 = some L0 ∧ blk (tH q) b0 = some k0 ∧ b0 < (tH q).length ∧ k0.kind ≠ .ro ∧ L0.blk = L.blk)) := by
    intro b L hb
    unfold mrg at hb
    split at hb
    · rename_i h1
      rcases E.new b L hb with h2 | ⟨h2, h3 | ⟨b0, L0, k0, h3, h4, h5, h6⟩⟩
      · exact .inl (cutM_some h2).2
      · exact .inr ⟨h2, h1, .inl h3⟩
      · obtain ⟨h7, h8⟩ := cutM_some h3
        exact .inr ⟨h2, h1, .inr ⟨b0, L0, k0, h8, h4, h7, h5, h6⟩⟩
    · exact .inl hb
  -- an own block that there was
  have own0 : ∀ b L k, m b = some L → blk (tH q) b = some k → k.kind ≠ .ro → (wI.heap.size ≤ L.blk ∨ ∃ b0 L0 k0, m0 b0 = some L0 ∧ blk (tH 0) b0 = some k0 ∧ k0.kind ≠ .ro ∧ L0.blk = L.blk) := by
    intro b L k h1 h2 h3
    rcases I.new b L h1 with h4 | ⟨_, h4⟩
    · obtain ⟨k0, h5, h6⟩ := A.alive q (by omega) b k (A.dom0 b L h4) h2
      exact .inr ⟨b, L, k0, h4, h5, by rw [h6]; exact h3, rfl⟩
    · exact h4
  refine ⟨q', mrg m1 m (tH (q + 1)).length, ⟨by simp [I.lsize], I.down' hr, hq2, fun h => ⟨hq4 h, ?_⟩, fun e he hEe => ?_, ?_, by rw [AM.put_defers]; exact I.defers, V, fun b L hb => ?_, fun b L hb => hmono b L (I.mono0 b L hb), Nat.le_trans I.size E.size, fun b L hb => ?_, fun B hB hr' => ?_⟩⟩
  · rw [getD_set hlt, if_neg (by omega)]
    cases hc : listed.getD q' false with
    | false => rfl
    | true =>
      exfalso
      obtain ⟨oq', h1, h2, _⟩ := eE_inv (hq4 h)
      obtain ⟨oq, h3, h4, _⟩ := eE_inv hE
      rcases regOK_pair hreg (show q < q' by omega) h3 h1 with h5 | ⟨h5, _⟩
      · have := hr.behind h1 h5
        rw [hc] at this
        cases this
      · exact h5 h4 h2
  · rw [getD_set hlt]
    split
    · rfl
    · rename_i hne
      rcases Nat.lt_or_ge e q with h1 | h1
      · exact I.hq2 e h1 hEe
      · have := hq3 e (by omega) he
        rw [hEe] at this
        cases this
  · have e1 : (fun i => (listed.setIfInBounds q true).getD i false) = fun i => if i = q then true else listed.getD i false := by funext i; exact getD_set hlt i
    rw [e1, hr.put hreg]
    exact put_rel (I.slots.mono hmono) _ (hv.mono hmono1)
  · rcases split_ b L hb with h1 | ⟨h1, h2, _⟩
    · rcases I.dm b L h1 with h4 | ⟨i, h4, h5, h6⟩
      · exact .inl h4
      · refine .inr ⟨i, h4, ?_, h6⟩
        rw [getD_set hlt]
        split
        · rfl
        · exact h5
    · exact .inr ⟨q, hq, by rw [getD_set hlt, if_pos rfl], h1, h2⟩
  · rcases split_ b L hb with h1 | ⟨h1, h2, h3⟩
    · exact I.new b L h1
    · have := A.le (i := 0) (j := q) (by omega) (by omega)
      refine .inr ⟨by omega, ?_⟩
      rcases h3 with h3 | ⟨b0, L0, k0, h3, h4, _, h5, h6⟩
      · exact .inl (Nat.le_trans I.size h3)
      · have := own0 b0 L0 k0 h3 h4 h5
        rw [h6] at this
        exact this
  · rw [E.frame B (Nat.lt_of_lt_of_le hB I.size), I.frame B hB hr']
    intro b L k hb hk hne
    obtain ⟨h1, h2⟩ := cutM_some hb
    rcases own0 b L k h2 hk hne with h3 | ⟨b0, L0, k0, h3, h4, h5, h6⟩
    · omega
    · rw [← h6]; exact hr' b0 L0 k0 h3 h4 h5
def left (ops : Array Oper) (listed : Array Bool) : List Nat := (List.range ops.size).filter fun i => !listed.getD i false
theorem filter_less {f g : Nat → Bool} : ∀ (l : List Nat) (j : Nat), j ∈ l → f j = true → g j = false → (∀ i, g i = true → f i = true) → (l.filter g).length < (l.filter f).length
  | [], j, hj, _, _, _ => by cases hj
  | i :: l, j, hj, hf, hg, hgf => by
    have hle : (l.filter g).length ≤ (l.filter f).length := by
      clear hj
      induction l with
      | nil => simp
      | cons i l ih =>
        simp only [List.filter_cons]
        cases hgi : g i with
        | true => rw [hgf i hgi]; simp; exact ih
        | false => cases f i <;> simp <;> omega
    by_cases hij : i = j
    · subst hij
      simp only [List.filter_cons, hf, hg, if_true]
      simp
      omega
    · have hjl : j ∈ l := by cases hj with | head => exact (hij rfl).elim | tail _ h => exact h
      have := filter_less l j hjl hf hg hgf
      simp only [List.filter_cons]
      cases hgi : g i with
      | true => rw [hgf i hgi]; simp; exact this
      | false => cases f i <;> simp <;> omega
theorem Inv.any (hcall : CallOK P call) (hreg : regOK ops = true) (X : Tr P call ops (befL [] ops.toList) 0 tT tH sk vl) (A : Along ops tT tH m0) {Q : Exit → Act → World → Prop}
    (hq : ∀ (m' : Mp) (a' : Act) (w' : World), After P B0 w0 m0 (tH 0) wI (tT ops.size) (tH ops.size) m' a' w' → Q .normal a' w') :
    ∀ (fuel : Nat) (listed : Array Bool) (q : Nat) (m : Mp) (a : Act) (w : World), Inv P ops tT tH sk vl B0 w0 m0 wI listed q m a w → (left ops listed).length ≤ fuel → wpAny P .any ops Q fuel listed a w := by
  -- when nothing is ready, all is done
  have fin : ∀ (listed : Array Bool) (q : Nat) (m : Mp) (a : Act) (w : World), Inv P ops tT tH sk vl B0 w0 m0 wI listed q m a w → (∀ j, j < ops.size → listed.getD j false = true) → Q .normal a w := by
    intro listed q m a w I hall
    have hqn : q = ops.size := by
      rcases Nat.lt_or_ge q ops.size with h | h
      · have := (I.hq1 h).2
        rw [hall q h] at this
        cases this
      · have := I.hq; omega
    subst hqn
    have hN : ∀ b L, m b = some L → cutM m (tH ops.size).length b = some L := fun b L hb => cutM_of (I.vr.dom b L hb).1 hb
    have hT : svL ops vl (tT 0) (fun i => listed.getD i false) = tT ops.size := by
      obtain ⟨h1, h2⟩ := X.sv (Nat.le_refl ops.size)
      apply List.ext_getElem?
      intro s
      rcases Nat.lt_or_ge s (tT 0).length with hs | hs
      · have e1 : (svL ops vl (tT 0) (fun i => listed.getD i false))[s]? = some (AM.sv ops vl (tT 0) (fun i => listed.getD i false) ops.size s) := by
          unfold svL; rw [List.getElem?_map, List.getElem?_range hs]; rfl
        rw [e1, AM.sv_congr (D' := fun _ => true) _ (fun j hj _ => hall j hj), ← h2 s hs, List.getD_eq_getElem?_getD, List.getElem?_eq_getElem (by omega)]
        rfl
      · rw [List.getElem?_eq_none (by rw [svL_length]; exact hs), List.getElem?_eq_none (by omega)]
    refine hq (cutM m (tH ops.size).length) a w ⟨⟨fun b L hb => hN b L (I.mono0 b L hb), A.le (Nat.zero_le _) (Nat.le_refl _), I.size, fun b k' hb hk => A.alive ops.size (Nat.le_refl _) b k' hb hk, fun b L hb => I.new b L (cutM_some hb).2, I.frame⟩, I.vr.rel, ?_, I.defers⟩
    rw [← hT]
    exact I.slots.mono hN
  have ready_nil : ∀ (listed : Array Bool), Region.ready .any ops listed = [] → listed.size = ops.size → ∀ j, j < ops.size → listed.getD j false = true := by
    intro listed hnil hsz j
    induction j using Nat.strongRecOn with
    | _ j ih =>
      intro hj
      cases hl : listed.getD j false with
      | true => rfl
      | false =>
        exfalso
        have ho : ops[j]? = some ops[j] := Array.getElem?_eq_getElem hj
        have hmem : j ∈ Region.ready .any ops listed := by
          unfold Region.ready
          rw [List.mem_filter]
          refine ⟨List.mem_range.2 hj, ?_⟩
          rw [Bool.and_eq_true, ho]
          have hlt : j < listed.size := by omega
          refine ⟨by simp [Array.getD, hlt] at hl ⊢; exact hl, ?_⟩
          simp only [Option.map_some, Option.getD_some]
          refine Array.all_eq_true'.2 fun e he => ?_
          cases hb : Region.binds .any e with
          | false => rfl
          | true =>
            have hlte := regOK_edge hreg ho he hb
            simp [ih e.on hlte (by omega)]
        rw [hnil] at hmem
        cases hmem
  intro fuel
  induction fuel with
  | zero =>
    intro listed q m a w I hf
    have hall : ∀ j, j < ops.size → listed.getD j false = true := by
      intro j hj
      cases hl : listed.getD j false with
      | true => rfl
      | false =>
        exfalso
        have : j ∈ left ops listed := List.mem_filter.2 ⟨List.mem_range.2 hj, by simp [hl]⟩
        have hnil : left ops listed = [] := List.eq_nil_of_length_eq_zero (by omega)
        rw [hnil] at this
        cases this
    refine ⟨?_, fin listed q m a w I hall⟩
    cases hr : Region.ready .any ops listed with
    | nil => rfl
    | cons j rest =>
      exfalso
      obtain ⟨o, hrd⟩ := I.rdy (j := j) (by rw [hr]; simp)
      have := hrd.not
      rw [hall j (Array.getElem?_eq_some_iff.1 hrd.op).1] at this
      cases this
  | succ fuel ih =>
    intro listed q m a w I hf
    refine ⟨fun hnil => fin listed q m a w I (ready_nil listed hnil I.lsize), fun j hjr => ?_⟩
    obtain ⟨o, hr⟩ := I.rdy hjr
    have hj : j < ops.size := (Array.getElem?_eq_some_iff.1 hr.op).1
    have hlt : j < listed.size := by rw [I.lsize]; exact hj
    have hfuel : (left ops (listed.setIfInBounds j true)).length ≤ fuel := by
      have : (left ops (listed.setIfInBounds j true)).length < (left ops listed).length := by
        refine filter_less _ j (List.mem_range.2 hj) (by have := hr.not; simpa using this) (by rw [getD_set hlt]; simp) fun i hi => ?_
        rw [getD_set hlt] at hi
        split at hi
        · cases hi
        · exact hi
      omega
    have h0 : (tH 0).length ≤ (tH j).length := A.le (Nat.zero_le _) (by omega)
    unfold wpOp
    rw [hr.op]
    simp only
    rw [I.wanted hreg X hr]
    cases hs : sk j with
    | true =>
      simp only [Bool.not_true, Bool.false_eq_true, if_false]
      obtain ⟨_, h2, _⟩ := X.skip j o (Nat.zero_le _) hr.op hs
      refine ih _ q m _ w (I.mark hreg hr (by simp [eE, hs]) (fun _ _ h => h) (by rw [h2]; exact VRel.undef _) I.vr (fun b L h => .inl h) h0 (Nat.le_refl _) fun _ _ => rfl) hfuel
    | false =>
      simp only [Bool.not_false, if_true]
      refine .inl ?_
      obtain ⟨hop, _⟩ := I.opv hreg X hr
      cases hE : eE ops sk j with
      | true =>
        have hjq := I.isq hreg hr hE
        subst hjq
        obtain ⟨T, hT, hTo⟩ := I.masked hreg X A hr
        have hres := X.res hr.op hs
        rw [← aRes_congr o.op hTo] at hres
        refine res_sound hcall hres I.vr.rel hT _ _ fun m1 v' w1 E R1 hv => ?_
        obtain ⟨q', m2, I2⟩ := I.act hreg X A hr hE E R1 hv
        exact ih _ q' m2 _ w1 I2 hfuel
      | false =>
        have heff : isEff o.op = false := by simpa [eE, hr.op, hs] using hE
        cases hf' : opRead P (AM.opv (tT j)) o.op with
        | some f =>
          have hnow := I.readNow X A hr hs hf'
          have hpad : f (padH tH ops.size q) = some (vl j) := opRead_keep hf' (fun b k hk => by
            unfold padH blk
            rw [List.getElem?_append_left (blk_lt' hk)]
            exact hk) hnow
          rw [← opRead_congr o.op hop] at hf'
          obtain ⟨v', q1, q2⟩ := read_sound (I.vr.pad (A.le I.hq (Nat.le_refl _))) I.slots hf' hpad
          unfold Oper.wp
          rw [q1]
          exact ih _ q m _ w (I.mark hreg hr hE (fun _ _ h => h) q2 I.vr (fun b L h => .inl h) h0 (Nat.le_refl _) fun _ _ => rfl) hfuel
        | none =>
          have hres := X.other j o (Nat.zero_le _) hr.op hs hf'
          cases ha : isAlloc o.op with
          | false =>
            obtain ⟨_, hpure⟩ := pure_res heff hf' ha hres
            have hp2 := hpure (List.replicate (tH ops.size).length none)
            rw [← aRes_congr o.op hop] at hp2
            have hN : ∀ b L, m b = some L → cutM m (tH ops.size).length b = some L := fun b L hb => cutM_of (I.vr.dom b L hb).1 hb
            refine res_sound hcall hp2 (I.vr.dead _) (I.slots.mono hN) _ _ fun m1 v' w1 E R1 hv => ?_
            have hback : ∀ b L, m1 b = some L → m b = some L := by
              intro b L hb
              rcases E.new b L hb with h1 | ⟨h1, _⟩
              · exact (cutM_some h1).2
              · have := (R1.dom b L hb).1; omega
            have hw : ∀ B, B < w.heap.size → w1.heap[B]? = w.heap[B]? := fun B hB => E.frame B hB fun b L k _ hk => by rw [blk_dead] at hk; cases hk
            exact ih _ q m _ w1 (I.mark hreg hr hE (fun _ _ h => h) (hv.mono hback) (I.vr.still R1.below E.size hw) (fun b L h => .inl h) h0 E.size hw) hfuel
          | true =>
            obtain ⟨k, hk1, hk2, hall⟩ := alloc_res ha hres
            have hp2 := hall (List.replicate (tH j).length none) (by simp)
            have hkb := I.makeNow X A hr hs hf' ha hk2
            have hlen : (tH (j + 1)).length = (tH j).length + 1 := by rw [hk2]; simp
            have hnone : m (tH j).length = none := by
              cases hb : m (tH j).length with
              | none => rfl
              | some L =>
                exfalso
                rcases I.dm _ L hb with h3 | ⟨i, h3, h4, h5, h6⟩
                · omega
                · rcases Nat.lt_trichotomy i j with h7 | h7 | h7
                  · have := A.le (i := i + 1) (j := j) (by omega) (by omega); omega
                  · subst h7
                    have := hr.not
                    rw [h4] at this
                    cases this
                  · have := A.le (i := j + 1) (j := i) (by omega) (by omega); omega
            obtain ⟨T, hT, hTo⟩ := I.masked hreg X A hr
            rw [← aRes_congr o.op hTo] at hp2
            refine res_sound hcall hp2 (I.vr.dead _) hT _ _ fun m1 v' w1 E R1 hv => ?_
            have hmap : ∃ L, m1 (tH j).length = some L := by
              rcases hk1.2 with h1 | ⟨n, c, h1⟩
              · rw [h1] at hv; obtain ⟨L, h2, _⟩ := VRel.ptr_inv hv; exact ⟨L, h2⟩
              · rw [h1] at hv; obtain ⟨L, _, _, h2, _⟩ := VRel.slice_inv hv; exact ⟨L, h2⟩
            obtain ⟨L, hL⟩ := hmap
            have hup : ∀ b L', m1 b = some L' → upd m (tH j).length L b = some L' ∧ b < (tH j).length + 1 := by
              intro b L' hb
              have h2 := (R1.dom b L' hb).1
              rw [List.length_append, List.length_replicate, List.length_singleton] at h2
              refine ⟨?_, h2⟩
              unfold upd
              by_cases hbl : b = (tH j).length
              · subst hbl; rw [if_pos rfl, ← hL]; exact hb
              · rw [if_neg hbl]
                rcases E.new b L' hb with h1 | ⟨h1, _⟩
                · exact (cutM_some h1).2
                · rw [List.length_replicate] at h1; omega
            have hblk : blk (List.replicate (tH j).length none ++ [some k]) (tH j).length = some k := by
              unfold blk
              rw [List.getElem?_append_right (by simp)]
              simp
            have hfresh : w.heap.size ≤ L.blk := by
              rcases E.new _ L hL with h1 | ⟨_, h1 | ⟨b0, L0, k0, _, h1, _⟩⟩
              · have := (cutM_some h1).1; omega
              · exact h1
              · rw [blk_dead] at h1; cases h1
            have hw : ∀ B, B < w.heap.size → w1.heap[B]? = w.heap[B]? := fun B hB => E.frame B hB fun b L k _ hk => by rw [blk_dead] at hk; cases hk
            have hmono : ∀ b L', m b = some L' → upd m (tH j).length L b = some L' := by
              intro b L' hb
              unfold upd
              rw [if_neg]
              · exact hb
              · intro he; rw [he, hnone] at hb; cases hb
            have hV := I.vr.alloc R1.below E.size hw (l := (tH j).length) (L := L) (k := k) (by have := A.le (i := j + 1) (j := ops.size) (by omega) (Nat.le_refl _); omega) hnone hkb hfresh (R1.dom _ L hL).2
              ((R1.blks _ L k hL hblk).mono fun b L' hb => cutM_of (hup b L' hb).2 (hup b L' hb).1)
            refine ih _ q _ _ w1 (I.mark hreg hr hE hmono (hv.mono fun b L' hb => (hup b L' hb).1) hV (fun b L' hb => ?_) h0 E.size hw) hfuel
            unfold upd at hb
            split at hb
            · rename_i he
              cases hb
              exact .inr ⟨by omega, by omega, hfresh⟩
            · exact .inl hb
theorem getD_replicate (n i : Nat) : (Array.replicate n false).getD i false = false := by
  unfold Array.getD
  split
  · simp
  · rfl
theorem draw_ok {P : Program} {call : CallF} (hcall : CallOK P call) : DrawOK P call := by
  intro ops hreg R T H K r h
  obtain ⟨tT, tH, sk, vl, h0, h1, X, _, hK⟩ := evD_inv ops (befL [] ops.toList) ops.toList 0 T H [] [] (fun j => by simp) h
  simp only [Array.length_toList, Nat.zero_add] at hK
  subst h0 h1
  refine ⟨_, _, hK, fun B0 w0 m a w Q R0 hT hd hq => ?_⟩
  have A : Along ops tT tH m := ⟨fun i d hd => (X.lens hcall R0 hT i d hd).1, fun d hd b k' hb hk => by
      have := (X.lens hcall R0 hT 0 d (by omega)).2 b k' hb (by rw [Nat.zero_add]; exact hk)
      exact this, fun j s x hj hx => X.bel hcall R0 hT hj s x hx, fun b L hb => (R0.dom b L hb).1⟩
  obtain ⟨q, _, hq1, hq2, hq3⟩ := nextE (ops := ops) (sk := sk) 0 ops.size (by omega)
  have hsame := X.same 0 q (by omega) (fun e h1 h2 => hq2 e h1 (by omega))
  rw [Nat.zero_add] at hsame
  have hle := A.le hq1 (Nat.le_refl _)
  refine Inv.any hcall hreg X A hq ops.size _ q m a w ⟨by simp, fun j o ho hD => (by have hD' : (Array.replicate ops.size false).getD j false = true := hD; rw [getD_replicate] at hD'; cases hD'), hq1, fun hlt => ⟨hq3 hlt, getD_replicate _ _⟩, fun e he hE => ?_, ?_, hd, ?_, fun b L hb => .inl (R0.dom b L hb).1, fun _ _ h => h, Nat.le_refl _, fun b L hb => .inl hb, fun _ _ _ => rfl⟩ ?_
  · have := hq2 e (Nat.zero_le _) he
    rw [hE] at this
    cases this
  · have e1 : svL ops vl (tT 0) (fun i => (Array.replicate ops.size false).getD i false) = tT 0 := by
      apply List.ext_getElem?
      intro s
      rcases Nat.lt_or_ge s (tT 0).length with hs | hs
      · have e2 : (svL ops vl (tT 0) (fun i => (Array.replicate ops.size false).getD i false))[s]? = some (AM.sv ops vl (tT 0) (fun i => (Array.replicate ops.size false).getD i false) ops.size s) := by
          unfold svL; rw [List.getElem?_map, List.getElem?_range hs]; rfl
        have e3 := sv_cut (ops := ops) (vl := vl) (T0 := tT 0) (D := fun i => (Array.replicate ops.size false).getD i false) (s := s) (i := 0) ops.size fun j _ _ _ => getD_replicate _ _
        rw [Nat.zero_add] at e3
        rw [e2, e3]
        unfold AM.sv
        rw [List.getD_eq_getElem?_getD, List.getElem?_eq_getElem hs]
        rfl
      · rw [List.getElem?_eq_none (by rw [svL_length]; exact hs), List.getElem?_eq_none hs]
    rw [e1]
    exact hT
  · have kb0 : ∀ b, b < (tH 0).length → kb tH ops.size q b = blk (tH 0) b := fun b hb => by rw [kb_lt (by omega)]; exact hsame.2 b hb
    have hcut : ∀ l, (tH 0).length ≤ l → ∀ b L, m b = some L → cutM m l b = some L := fun l hl b L hb => cutM_of (by have := (R0.dom b L hb).1; omega) hb
    refine ⟨R0.below, R0.hB, fun b L hb => ⟨by have := (R0.dom b L hb).1; omega, (R0.dom b L hb).2⟩, fun b L k hb hk => ?_, fun b1 b2 L1 L2 k1 k2 hm1 hm2 hk1 hk2 hne hbb => ?_⟩
    · rw [kb0 b (R0.dom b L hb).1] at hk
      exact (R0.blks b L k hb hk).mono (hcut _ (by omega))
    · rw [kb0 b1 (R0.dom b1 L1 hm1).1] at hk1
      rw [kb0 b2 (R0.dom b2 L2 hm2).1] at hk2
      exact R0.inj b1 b2 L1 L2 k1 k2 hm1 hm2 hk1 hk2 hne hbb
  · unfold left
    exact Nat.le_trans (List.length_filter_le _ _) (by simp)
end
/-- What the evaluator tells of a call, the machine comes to. -/
theorem run_ok {P : Program} (hmix : P.follows .mixedOrders = true) {tbs : FuncId → Tbl} {gv : Given} (hgv : GivenOK P gv) (k : Nat) : CallOK P (run P tbs gv k) := run_sound (fun _ h => draw_ok h) hmix hgv k
end Go.AM
set_option linter.unusedVariables false
set_option linter.unusedSimpArgs false
namespace Go.AM
open Go.ChangeShapes Go.WideShapes Go.Deep Go.RowKit
variable {P : Program}

structure Ro (P : Program) (W : World) (m : Mp) (H : AH) : Prop where
  rel : Rel P W.heap.size W m H W
  ro : ∀ b k, blk H b = some k → k.kind = .ro
def Sub (m m' : Mp) : Prop := ∀ b L, m b = some L → m' b = some L
theorem Sub.refl (m : Mp) : Sub m m := fun _ _ h => h
theorem Sub.trans {a b c : Mp} (h : Sub a b) (k : Sub b c) : Sub a c := fun x L hx => k x L (h x L hx)
theorem Ro.empty (W : World) : Ro P W (fun _ => none) [] :=
  ⟨⟨Below.refl _ _, Nat.le_refl _, fun _ _ h => (by cases h), fun _ _ _ h => (by cases h), fun _ _ _ _ _ _ h => (by cases h)⟩, fun b k h => (by simp [blk] at h)⟩
def SlOK (W : World) (cs : List Value) : Prop := ∀ a len cap, Value.slice (some a) len cap ∈ cs → a.spot = none ∧ ∃ c e fr, W.heap[a.block]? = some (.cells c e fr)

/-- One more that came in. -/
theorem Ro.add {W : World} {m : Mp} {H : AH} {ks : List Value} {e : TypeId} {bl base : Nat} {c : Array Value} {te : TypeId} {fr : Nat × Nat} (R : Ro P W m H) (hb : W.heap[bl]? = some (.cells c te fr))
    (hl : LRel m ks ((c.toList.drop base).take ks.length)) :
    ∃ m' : Mp, Sub m m' ∧ m' H.length = some ⟨bl, base, .ro, 0, 0⟩ ∧ Ro P W m' (mkB H ks e .ro) := by
  refine ⟨fun b => if b = H.length then some ⟨bl, base, .ro, 0, 0⟩ else m b, ?_, if_pos rfl, ?_⟩
  · intro b L h
    have := (R.rel.dom b L h).1
    show (if b = H.length then _ else m b) = _
    rw [if_neg (by omega)]; exact h
  have hsub : Sub m (fun b => if b = H.length then some ⟨bl, base, .ro, 0, 0⟩ else m b) := by
    intro b L h
    have := (R.rel.dom b L h).1
    show (if b = H.length then _ else m b) = _
    rw [if_neg (by omega)]; exact h
  have hro : ∀ b k, blk (mkB H ks e .ro) b = some k → k.kind = .ro := by
    intro b k h
    by_cases hbn : b < H.length
    · rw [blk_mkB_old hbn] at h; exact R.ro b k h
    · have := blk_lt h
      rw [length_mkB] at this
      have : b = H.length := by omega
      subst this
      rw [blk_mkB_new] at h; cases h; rfl
  refine ⟨⟨R.rel.below, R.rel.hB, ?_, ?_, ?_⟩, hro⟩
  · intro b L h
    replace h : (if b = H.length then some _ else m b) = some L := h
    rw [length_mkB]
    by_cases hb2 : b = H.length
    · rw [if_pos hb2] at h; cases h
      exact ⟨by omega, (Array.getElem?_eq_some_iff.1 hb).1⟩
    · rw [if_neg hb2] at h
      have := R.rel.dom b L h
      exact ⟨by omega, this.2⟩
  · intro b L k h hk
    replace h : (if b = H.length then some _ else m b) = some L := h
    by_cases hb2 : b = H.length
    · rw [if_pos hb2] at h; cases h
      subst hb2
      rw [blk_mkB_new] at hk; cases hk
      exact ⟨rfl, ⟨c, te, fr, hb, hl.mono hsub, fun hh => absurd rfl hh, fun hh => (by cases hh), fun hh => (by cases hh)⟩, fun hh => absurd rfl hh, fun hh => (by cases hh)⟩
    · rw [if_neg hb2] at h
      have hlt := (R.rel.dom b L h).1
      rw [blk_mkB_old hlt] at hk
      have h1 := R.rel.blks b L k h hk
      obtain ⟨c', e', fr', q1, q2, q3, q4, q5⟩ := h1.there
      exact ⟨h1.kind, ⟨c', e', fr', q1, q2.mono hsub, q3, q4, q5⟩, h1.own, h1.esz⟩
  · intro b1 b2 L1 L2 k1 k2 _ _ h1 _ hne _
    exact absurd (hro b1 k1 h1) hne

/-- A kind of datum over the abstract heap. -/
structure Kn (α : Type) where
  K : AH → α → List Value → Prop
  mono : ∀ {H H' : AH} {a : α} {cs : List Value}, Mo H H' → K H a cs → K H' a cs
def Kn.int (k : IntKind) : Kn Int := ⟨fun _ n cs => cs = [.int k n], fun _ h => h⟩
def Kn.bool : Kn Bool := ⟨fun _ n cs => cs = [.bool n], fun _ h => h⟩
def Kn.string : Kn ByteArray := ⟨fun _ n cs => cs = [.string n], fun _ h => h⟩
def Kn.pair {α β : Type} (a : Kn α) (b : Kn β) : Kn (α × β) :=
  ⟨fun H x cs => ∃ c d, cs = c ++ d ∧ a.K H x.1 c ∧ b.K H x.2 d, fun hm ⟨c, d, h, h1, h2⟩ => ⟨c, d, h, a.mono hm h1, b.mono hm h2⟩⟩
def Kn.unit : Kn Unit := ⟨fun _ _ cs => cs = [], fun _ h => h⟩
/-- A slice that came in. -/
def Kn.slice {α : Type} (e : TypeId) (sz : Nat) (d : Kn α) : Kn (List α) :=
  ⟨fun H l cs => (cs = [.slice none 0 0] ∧ l = []) ∨ ∃ (b : Nat) (css : List (List Value)), cs = [sl b 0 l.length (l.length + 1)] ∧ blk H b = some ⟨css.flatten, e, .ro⟩ ∧ css.length = l.length ∧ ∀ (i : Nat) (a : α) (c : List Value), l[i]? = some a → css[i]? = some c → c.length = sz ∧ d.K H a c,
   by
    intro H H' l cs hm h
    rcases h with h | ⟨b, css, h1, h2, h3, h4⟩
    · exact .inl h
    · exact .inr ⟨b, css, h1, hm _ _ h2, h3, fun i a c h5 h6 => ⟨(h4 i a c h5 h6).1, d.mono hm (h4 i a c h5 h6).2⟩⟩⟩
/-- What follows from a cells' list: each is one. -/
def OpA (P : Program) (t : TypeId) {α : Type} (d : Kn α) (G : α → Prop) : Prop :=
  ∀ (Hh : Type) (enc : TypeId × Value → Hh) (W : World) (spare : Nat → Bool) (held : Bool) (fuel : Nat) (cs : List Value) (x : DataW Hh × List MemPlace),
    DataW.trod enc P W 0 spare held fuel t cs = some x → SlOK W cs → ∀ (m : Mp) (H : AH), Ro P W m H →
    ∃ m' H' cs' a, Ro P W m' H' ∧ Sub m m' ∧ Fr H H' ∧ LRel m' cs' cs ∧ d.K H' a cs' ∧ G a
theorem LRel.one {m : Mp} {x y : Value} (h : VRel m x y) : LRel m [x] [y] := LRel.cons h (LRel.nil m)
theorem opA_int {t : TypeId} {k : IntKind} (ht : P.underlying t = some (.int k)) : OpA P t (Kn.int k) (fun n => (Lit.int k n).wf = true) := by
  intro Hh enc W spare held fuel cs x h _ m H R
  obtain ⟨n, rfl, _, hw⟩ := DataW.trod_int ht h
  exact ⟨m, H, _, n, R, Sub.refl m, Fr.refl H, LRel.one (.flat _ rfl), rfl, hw⟩
theorem opA_bool {t : TypeId} (ht : P.underlying t = some .bool) : OpA P t Kn.bool (fun _ => True) := by
  intro Hh enc W spare held fuel cs x h _ m H R
  obtain ⟨n, rfl, _⟩ := DataW.trod_bool ht h
  exact ⟨m, H, _, n, R, Sub.refl m, Fr.refl H, LRel.one (.flat _ rfl), rfl, trivial⟩
theorem opA_string {t : TypeId} (ht : P.underlying t = some .string) : OpA P t Kn.string (fun s => s.size ≤ maxLen) := by
  intro Hh enc W spare held fuel cs x h _ m H R
  obtain ⟨n, rfl, _, hw⟩ := DataW.trod_string ht h
  exact ⟨m, H, _, n, R, Sub.refl m, Fr.refl H, LRel.one (.flat _ rfl), rfl, hw⟩
/-- No slice among a type's cells. -/
def NoSl (P : Program) (t : TypeId) : Prop :=
  ∀ (Hh : Type) (enc : TypeId × Value → Hh) (W : World) (spare : Nat → Bool) (held : Bool) (fuel : Nat) (cs : List Value) (x : DataW Hh × List MemPlace), DataW.trod enc P W 0 spare held fuel t cs = some x → SlOK W cs
theorem noSl_int {t : TypeId} {k : IntKind} (ht : P.underlying t = some (.int k)) : NoSl P t := by
  intro Hh enc W spare held fuel cs x h
  obtain ⟨n, rfl, _, hw⟩ := DataW.trod_int ht h
  intro a l c hm; simp at hm
theorem flatten_snoc {α : Type} (l : List (List α)) (x : List α) : (l ++ [x]).flatten = l.flatten ++ x := by simp
theorem opA_slice {t e : TypeId} {α : Type} {d : Kn α} {G : α → Prop} {sz : Nat} (ht : P.underlying t = some (.slice e)) (hsz : P.cellsOf e = sz) (he : OpA P e d G) (hn : NoSl P e) :
    OpA P t (Kn.slice e sz d) (fun l => l.length ≤ maxLen ∧ ∀ x ∈ l, G x) := by
  intro Hh enc W spare held fuel cs x h hs m H R
  rcases open_slice ht h with ⟨rfl, _⟩ | ⟨a, len, cap, mm, n, D, Pl, rfl, _, hlc, hcm, hm, _, hel⟩
  · exact ⟨m, H, [.slice none 0 0], [], R, Sub.refl m, Fr.refl H, LRel.one (.flat _ rfl), Or.inl ⟨rfl, rfl⟩, by simp, fun x hx => by simp at hx⟩
  · have hlm : len ≤ mm := by rw [hm]; split <;> omega
    obtain ⟨hsp, c, te, fr, hb⟩ := hs a len cap (by simp)
    have hcell : ∀ i, i < mm → ∃ cs', cs' = (c.toList.drop (a.off + i * sz)).take sz ∧ cs'.length = sz ∧ DataW.trod enc P W 0 spare held n e cs' = some (D i, Pl i) := by
      intro i hi
      obtain ⟨cs', h1, h2⟩ := hel i hi
      obtain ⟨_, h3, h4⟩ := World.cells?_some h1
      rw [hsz] at h3 h4
      refine ⟨cs', ?_, h3, h2⟩
      apply List.ext_getElem?
      intro j
      by_cases hj : j < sz
      · rw [List.getElem?_take_of_lt hj, List.getElem?_drop, ← h4 j hj]
        have e1 : (a.add (i * sz)).add j = a.add (i * sz + j) := add_add _ _ _
        have e2 : (a.add (i * sz + j)).block = a.block ∧ (a.add (i * sz + j)).spot = none ∧ (a.add (i * sz + j)).off = a.off + (i * sz + j) := by
          unfold Addr.add
          by_cases h0 : i * sz + j = 0
          · rw [if_pos h0, h0]; exact ⟨rfl, hsp, rfl⟩
          · rw [if_neg h0]; exact ⟨rfl, rfl, rfl⟩
        rw [e1]
        unfold World.cell?
        rw [e2.1, hb]
        simp only [e2.2.1, e2.2.2]
        simp [Nat.add_assoc]
      · rw [List.getElem?_eq_none (by omega), List.getElem?_eq_none (by rw [List.length_take]; omega)]
    have key : ∀ q, q ≤ len → ∃ (m' : Mp) (H' : AH) (l : List α) (css : List (List Value)), Ro P W m' H' ∧ Sub m m' ∧ Fr H H' ∧ l.length = q ∧ css.length = q ∧ (∀ x ∈ l, G x) ∧ css.flatten.length = q * sz ∧ LRel m' css.flatten ((c.toList.drop a.off).take (q * sz)) ∧
        ∀ (i : Nat) (y : α) (c : List Value), l[i]? = some y → css[i]? = some c → c.length = sz ∧ d.K H' y c := by
      intro q
      induction q with
      | zero => exact fun _ => ⟨m, H, [], [], R, Sub.refl m, Fr.refl H, rfl, rfl, fun x hx => by simp at hx, by simp, by simpa using LRel.nil m, fun i y c h => by simp at h⟩
      | succ q ih =>
        intro hq
        obtain ⟨m1, H1, l, css, R1, s1, f1, hl, hcs, hG, hfl, hLR, hK⟩ := ih (by omega)
        obtain ⟨cs', e1, e2, e3⟩ := hcell q (by omega)
        obtain ⟨m2, H2, ds, y, R2, s2, f2, hLR2, hK2, hG2⟩ := he Hh enc W spare held n cs' _ e3 (hn Hh enc W spare held n cs' _ e3) m1 H1 R1
        refine ⟨m2, H2, l ++ [y], css ++ [ds], R2, s1.trans s2, f1.trans f2, by simp [hl], by simp [hcs], ?_, ?_, ?_, ?_⟩
        · intro x hx
          rcases List.mem_append.1 hx with hx | hx
          · exact hG x hx
          · simp at hx; subst hx; exact hG2
        · rw [flatten_snoc, List.length_append, hfl, hLR2.1, e2, Nat.succ_mul]
        · rw [flatten_snoc, Nat.succ_mul, List.take_add, List.drop_drop, ← e1]
          exact (hLR.mono s2).append hLR2
        · intro i y' c' h1 h2
          by_cases hi : i < q
          · rw [List.getElem?_append_left (by omega)] at h1 h2
            exact ⟨(hK i y' c' h1 h2).1, d.mono f2.mo (hK i y' c' h1 h2).2⟩
          · have hi2 := (List.getElem?_eq_some_iff.1 h1).1
            have : i = q := by simp [hl] at hi2; omega
            subst this
            rw [List.getElem?_append_right (by omega), hl, Nat.sub_self] at h1
            rw [List.getElem?_append_right (by omega), hcs, Nat.sub_self] at h2
            simp at h1 h2
            subst h1 h2
            exact ⟨by rw [hLR2.1, e2], hK2⟩
    obtain ⟨m1, H1, l, css, R1, s1, f1, hl, hcs, hG, hfl, hLR, hK⟩ := key len (Nat.le_refl _)
    obtain ⟨m2, s2, hm2, R2⟩ := R1.add (ks := css.flatten) (e := e) (base := a.off) hb (by rw [hfl]; exact hLR)
    have fnew : Fr H1 (mkB H1 css.flatten e .ro) := ⟨by rw [length_mkB]; omega, fun b hb => blk_mkB_old hb⟩
    refine ⟨m2, mkB H1 css.flatten e .ro, [sl H1.length 0 l.length (l.length + 1)], l, R2, s1.trans s2, f1.trans fnew, ?_, Or.inr ⟨H1.length, css, rfl, blk_mkB_new, by omega, fun i y c h1 h2 => ⟨(hK i y c h1 h2).1, d.mono fnew.mo (hK i y c h1 h2).2⟩⟩, by omega, hG⟩
    refine LRel.one ?_
    rw [hl]
    have ea : a = ⟨a.block, a.off, none⟩ := by rw [← hsp]
    rw [ea]
    exact .slice H1.length 0 a.off len (len + 1) cap ⟨a.block, a.off, .ro, 0, 0⟩ hm2 (by omega) hlc (.inl (by simp)) (fun h => (by cases h)) (fun h => (by cases h)) (fun _ => .inl (by omega))

/-- The fields of a struct from one on. -/
def OpFs (P : Program) (fs : List Field) (off tot : Nat) {α : Type} (d : Kn α) (G : α → Prop) : Prop :=
  ∀ (Hh : Type) (enc : TypeId × Value → Hh) (W : World) (spare : Nat → Bool) (held : Bool) (fuel : Nat) (cs : List Value),
    (∀ f ∈ fs, ∃ x, DataW.trod enc P W 0 spare held fuel f.type ((cs.drop f.offset).take (P.cellsOf f.type)) = some x) → cs.length = tot → SlOK W cs → ∀ (m : Mp) (H : AH), Ro P W m H →
    ∃ m' H' cs' a, Ro P W m' H' ∧ Sub m m' ∧ Fr H H' ∧ LRel m' cs' (cs.drop off) ∧ d.K H' a cs' ∧ G a
theorem opFs_nil {off : Nat} : OpFs P [] off off Kn.unit (fun _ => True) := by
  intro Hh enc W spare held fuel cs _ hl hs m H R
  refine ⟨m, H, [], (), R, Sub.refl m, Fr.refl H, ?_, rfl, trivial⟩
  rw [List.drop_eq_nil_of_le (by omega)]; exact LRel.nil m
theorem opFs_cons {f : Field} {fs : List Field} {off tot sz : Nat} {α β : Type} {a : Kn α} {b : Kn β} {G0 : α → Prop} {G1 : β → Prop} (ho : f.offset = off) (hc : P.cellsOf f.type = sz) (A : OpA P f.type a G0)
    (B : OpFs P fs (off + sz) tot b G1) : OpFs P (f :: fs) off tot (Kn.pair a b) (fun x => G0 x.1 ∧ G1 x.2) := by
  intro Hh enc W spare held fuel cs hf hl hs m H R
  obtain ⟨x, hx⟩ := hf f (by simp)
  rw [ho, hc] at hx
  obtain ⟨m1, H1, c1, y1, R1, s1, f1, l1, k1, g1⟩ := A Hh enc W spare held fuel _ x hx (fun a l c h => hs a l c (List.mem_of_mem_drop (List.mem_of_mem_take h))) m H R
  obtain ⟨m2, H2, c2, y2, R2, s2, f2, l2, k2, g2⟩ := B Hh enc W spare held fuel cs (fun g hg => hf g (by simp [hg])) hl hs m1 H1 R1
  refine ⟨m2, H2, c1 ++ c2, (y1, y2), R2, s1.trans s2, f1.trans f2, ?_, ⟨c1, c2, rfl, a.mono f2.mo k1, k2⟩, g1, g2⟩
  have := (l1.mono s2).append l2
  rw [← List.drop_drop, List.take_append_drop] at this
  exact this
theorem opA_struct {t : TypeId} {fs : List Field} {tot : Nat} {α : Type} {d : Kn α} {G : α → Prop} (ht : P.underlying t = some (.struct ⟨fs⟩)) (hc : P.cellsOf t = tot) (A : OpFs P fs 0 tot d G) : OpA P t d G := by
  intro Hh enc W spare held fuel cs x h hs m H R
  obtain ⟨xs, n, _, rfl, hl, hlen, hf⟩ := DataW.trod_struct ht h
  refine A Hh enc W spare held n cs (fun f hfm => ?_) (by rw [hl, hc]) hs m H R
  obtain ⟨i, hi, he⟩ := List.mem_iff_getElem.1 hfm
  have h1 := hf i f (by simp [← he, hi])
  rw [h1]
  have : i < xs.length := by rw [hlen]; simpa using hi
  exact ⟨_, List.getElem?_eq_getElem this⟩
theorem slOK_cell {W : World} {base : Nat} {u : TypeId} {a : Addr} {len cap : Nat} (h : Cell.okWide P W .any base u (.slice (some a) len cap)) : a.spot = none ∧ ∃ c e fr, W.heap[a.block]? = some (.cells c e fr) := by
  have hc : ∃ e n, W.has P .any base a e n := by
    unfold Cell.okWide at h
    cases hu : P.underlying u with
    | none => rw [hu] at h; simp [Cell.ok, hu] at h
    | some D =>
      rw [hu] at h
      cases D <;> simp [Cell.ok, hu] at h
      exact ⟨_, _, h.2.2⟩
  obtain ⟨e, n, hh⟩ := hc
  obtain ⟨_, h1, row, cells, h2, _⟩ := hh
  refine ⟨h1, ?_⟩
  unfold World.shape? at h2
  split at h2
  · rename_i c' e' fr' hb; exact ⟨c', e', fr', hb⟩
  · cases h2
theorem slOK_of {W : World} {base : Nat} {t : TypeId} {v : Value} (h : Value.okWide P W .any base t v) : SlOK W v.cells.toList := by
  intro a len cap hm
  have key : (∃ u, Cell.okWide P W .any base u (.slice (some a) len cap)) := by
    unfold Value.okWide at h
    split at h
    · obtain ⟨cs, rfl, _, ts, _, _, hr⟩ := h
      obtain ⟨i, hi⟩ := List.getElem?_of_mem hm
      obtain ⟨u, _, hu⟩ := hr i _ (by simpa [Value.cells] using hi)
      exact ⟨u, hu⟩
    · obtain ⟨cs, rfl, _, ts, _, _, hr⟩ := h
      obtain ⟨i, hi⟩ := List.getElem?_of_mem hm
      obtain ⟨u, _, hu⟩ := hr i _ (by simpa [Value.cells] using hi)
      exact ⟨u, hu⟩
    · cases v with
      | agg cs =>
        exfalso
        unfold Cell.okWide at h
        cases hu : P.underlying t with
        | none => rw [hu] at h; simp [Cell.ok, hu] at h
        | some D => rw [hu] at h; cases D <;> simp [Cell.ok, hu] at h
      | slice p l c =>
        simp [Value.cells] at hm
        obtain ⟨rfl, rfl, rfl⟩ := hm
        exact ⟨t, h⟩
      | _ => simp [Value.cells] at hm
  obtain ⟨u, hu⟩ := key
  exact slOK_cell hu
/-- An argument. -/
structure OpV (P : Program) (t : TypeId) {α : Type} (d : Kn α) (G : α → Prop) (KV : AH → α → Value → Prop) : Prop where
  op : OpA P t d G
  val : ∀ (W : World) (base : Nat) (v : Value), Value.okWide P W .any base t v → (∃ cs, v = .agg cs) ∧ (∀ H a cs, d.K H a cs → KV H a (.agg cs.toArray)) ∨ v.cells = #[v] ∧ (∀ H a v, d.K H a [v] → KV H a v)
  mono : ∀ {H H' : AH} {a : α} {v : Value}, Mo H H' → KV H a v → KV H' a v
def KvS {α : Type} (d : Kn α) (H : AH) (a : α) (v : Value) : Prop := ∃ cs, v = .agg cs.toArray ∧ d.K H a cs
def KvC {α : Type} (d : Kn α) (H : AH) (a : α) (v : Value) : Prop := d.K H a [v]
theorem opV_struct {t : TypeId} {fs : Array Field} {α : Type} {d : Kn α} {G : α → Prop} (ht : P.underlying t = some (.struct fs)) (A : OpA P t d G) : OpV P t d G (KvS d) := by
  refine ⟨A, fun W base v h => .inl ⟨?_, fun H a cs h => ⟨cs, rfl, h⟩⟩, fun hm ⟨cs, h1, h2⟩ => ⟨cs, h1, d.mono hm h2⟩⟩
  unfold Value.okWide at h
  rw [ht] at h
  obtain ⟨cs, rfl, _⟩ := h
  exact ⟨cs, rfl⟩
theorem opV_cell {t : TypeId} {D : TypeDesc} {α : Type} {d : Kn α} {G : α → Prop} (ht : P.underlying t = some D) (hD : (∀ fs, D ≠ .struct fs) ∧ ∀ n e, D ≠ .array n e) (A : OpA P t d G) : OpV P t d G (KvC d) := by
  refine ⟨A, fun W base v h => .inr ⟨?_, fun H a v h => h⟩, fun hm h => d.mono hm h⟩
  unfold Value.okWide at h
  rw [ht] at h
  have h' : Cell.okWide P W .any base t v := by
    cases D with
    | struct fs => exact absurd rfl (hD.1 fs)
    | array n e => exact absurd rfl (hD.2 n e)
    | _ => exact h
  cases v with
  | agg cs =>
    exfalso
    unfold Cell.okWide at h'
    rw [ht] at h'
    cases D <;> simp [Cell.ok, ht] at h'
  | _ => rfl
/-- All arguments. -/
structure OpAs (P : Program) (ts : List TypeId) {α : Type} (G : α → Prop) (KV : AH → α → List Value → Prop) : Prop where
  op : ∀ (Hh : Type) (enc : TypeId × Value → Hh) (W : World) (base : Nat) (spare : Nat → Bool) (held : Bool) (vs : List Value) (ds : List (DataW Hh)) (ps : List MemPlace),
    DataW.TrodAll enc P W 0 spare held ts vs ds ps → (∀ (j : Nat) t v, ts[j]? = some t → vs[j]? = some v → Value.okWide P W .any base t v) → ∀ (m : Mp) (H : AH), Ro P W m H →
    ∃ m' H' vs' a, Ro P W m' H' ∧ Sub m m' ∧ Fr H H' ∧ LRel m' vs' vs ∧ KV H' a vs' ∧ G a
  mono : ∀ {H H' : AH} {a : α} {vs : List Value}, Mo H H' → KV H a vs → KV H' a vs
theorem opAs_nil : OpAs P [] (fun _ : Unit => True) (fun _ _ vs => vs = []) := by
  refine ⟨?_, fun _ h => h⟩
  intro Hh enc W base spare held vs ds ps h _ m H R
  obtain ⟨rfl, rfl, rfl⟩ := trodAll_nil h
  exact ⟨m, H, [], (), R, Sub.refl m, Fr.refl H, LRel.nil m, rfl, trivial⟩
theorem opAs_cons {t : TypeId} {ts : List TypeId} {α β : Type} {d : Kn α} {G : α → Prop} {KV : AH → α → Value → Prop} {G' : β → Prop} {KV' : AH → β → List Value → Prop} (A : OpV P t d G KV) (B : OpAs P ts G' KV') :
    OpAs P (t :: ts) (fun x : α × β => G x.1 ∧ G' x.2) (fun H x vs => ∃ v vs', vs = v :: vs' ∧ KV H x.1 v ∧ KV' H x.2 vs') := by
  refine ⟨?_, fun hm ⟨v, vs', h1, h2, h3⟩ => ⟨v, vs', h1, A.mono hm h2, B.mono hm h3⟩⟩
  intro Hh enc W base spare held vs ds ps h hv m H R
  obtain ⟨v, vs', d0, ds', p, q, rfl, rfl, rfl, ⟨fuel, h0⟩, hr⟩ := trodAll_cons h
  have hok := hv 0 t v rfl rfl
  obtain ⟨m2, H2, us, y2, R2, s2, f2, l2, k2, g2⟩ := B.op Hh enc W base spare held vs' ds' q hr (fun j t' v' h1 h2 => hv (j + 1) t' v' h1 h2) m H R
  obtain ⟨m1, H1, cs', y1, R1, s1, f1, l1, k1, g1⟩ := A.op Hh enc W spare held fuel _ _ h0 (slOK_of hok) m2 H2 R2
  rcases A.val W base v hok with ⟨⟨cs, rfl⟩, hk⟩ | ⟨hc, hk⟩
  · exact ⟨m1, H1, .agg cs'.toArray :: us, (y1, y2), R1, s2.trans s1, f2.trans f1, LRel.cons (VRel.aggL (by simpa [Value.cells] using l1)) (l2.mono s1), ⟨_, _, rfl, hk _ _ _ k1, B.mono f1.mo k2⟩, g1, g2⟩
  · rw [hc] at l1
    obtain ⟨x, rfl⟩ : ∃ x, cs' = [x] := List.length_eq_one_iff.1 l1.1
    exact ⟨m1, H1, x :: us, (y1, y2), R1, s2.trans s1, f2.trans f1, LRel.cons (l1.2 0 x v rfl rfl) (l2.mono s1), ⟨_, _, rfl, hk _ _ _ k1, B.mono f1.mo k2⟩, g1, g2⟩
/-- Behind a call: nothing that was there is another. -/
theorem walk_of {W : World} {f : FuncId} {args vs : List Value} {m : Mp} {H H' : AH} {v : Value} {call : CallF} (hc : CallOK P call) (R : Ro P W m H) (hl : LRel m args vs) (h : call f args H = some (v, H')) (hf : flat1 v = true) :
    Calls P f vs.toArray W fun e W' => e = .returned v ∧ Below W.heap.size W W' := by
  refine ((hc f args H v H' h).2 W.heap.size W m W vs R.rel hl).mono fun e w' ⟨m', v', he, hv, hr, _⟩ => ?_
  rw [VRel.flat_inv hf hv] at he
  exact ⟨he, hr.below⟩
end Go.AM
set_option linter.unusedVariables false
set_option linter.unusedSimpArgs false
set_option maxRecDepth 100000
namespace Go.AM.Z
open Go Go.AM Go.Proofs
attribute [local irreducible] run bin un ld st box newV mkS fldA fld ixA ix slc slc3 build buildS cv cvS ap cpy lenV gOp pickV b2 aIf aChk evalK resume iterD Option.bind


theorem wf_u32 {n : Int} (h : (Lit.int .u32 n).wf = true) : 0 ≤ n ∧ n < 4294967296 := by
  simp [Lit.wf, IntKind.min, IntKind.max, IntKind.bits, IntKind.signed] at h; omega
theorem rd_slice {H : AH} {l : List Int} {m : Value} (h : (Kn.slice 70 1 (Kn.int .u32)).K H l [m]) (hw : ∀ n ∈ l, (Lit.int .u32 n).wf = true) : RdN H m (l.map Int.toNat) := by
  have hsm : small (l.map Int.toNat) := by
    intro x hx
    obtain ⟨n, hn, rfl⟩ := List.mem_map.mp hx
    have := wf_u32 (hw n hn); omega
  rcases h with ⟨h1, rfl⟩ | ⟨b, css, h1, h2, h3, h4⟩
  · cases h1; exact RdN.nil
  · cases h1
    refine ⟨.inr ⟨b, 0, l.length + 1, by simp, by simp, ?_⟩, hsm⟩
    by_cases hn : l = []
    · left; rw [hn]; rfl
    · right
      refine ⟨_, h2, ?_⟩
      have e : css.flatten = (l.map Int.toNat).map u32 := by
        have : css = l.map fun n => [Value.int .u32 n] := by
          apply List.ext_getElem?
          intro i
          by_cases hi : i < l.length
          · rw [List.getElem?_map, List.getElem?_eq_getElem hi, List.getElem?_eq_getElem (by omega)]
            have := (h4 i _ _ (List.getElem?_eq_getElem hi) (List.getElem?_eq_getElem (by omega))).2
            exact congrArg some this
          · rw [List.getElem?_eq_none (by omega), List.getElem?_eq_none (by simp; omega)]
        rw [this, List.map_map]
        clear this h2 h3 h4 hn hsm
        induction l with
        | nil => rfl
        | cons a l ih =>
          have := wf_u32 (hw a (by simp))
          simp only [List.map_cons, List.flatten_cons, List.cons_append, List.nil_append, Function.comp]
          rw [ih (fun n hn => hw n (by simp [hn]))]
          congr 2
          show a = ((a.toNat : Nat) : Int)
          omega
      rw [e]
      simp [rdN, List.take_of_length_le]
end Go.AM.Z
set_option linter.unusedVariables false
set_option linter.unusedSimpArgs false
set_option maxRecDepth 100000
namespace Go.AM.Z
open Go Go.AM Go.Proofs
attribute [local irreducible] run bin un ld st box newV mkS fldA fld ixA ix slc slc3 build buildS cv cvS ap cpy lenV gOp pickV b2 aIf aChk evalK resume iterD Option.bind

abbrev Dc (X E : Int) (m : Value) : Value := .agg #[.bool (canon X E).neg, m, .int .i64 (canon X E).e]
def ResC (B : AH) (v : Value) (X E : Int) : Prop := ∃ m, v = .tuple #[Dc X E m, .int .i64 0] ∧ RdN B m (canon X E).mag
section
variable {B H : AH} {X Y E F : Int} {m m2 : Value}
theorem ResV.c {v : Value} {r : Dy × Int} (h : ResV B v r.1 r.2) (e : r = (canon X E, 0)) : ResC B v X E := by
  subst e
  obtain ⟨x, rfl, m, rfl, hr⟩ := h
  exact ⟨m, rfl, hr⟩
theorem An.imp {Post Post' : AH → Value → Prop} {g : Nat → Nat → Option (Value × AH)} (h : Ev g (An B H Post)) (hp : ∀ B' v, Post B' v → Post' B' v) : Ev g (An B H Post') :=
  h.mono fun r ⟨B', h1, h2, h3, h4⟩ => ⟨B', h1, h2, h3, hp B' r.1 h4⟩
theorem An.tt {B H : AH} {g : Nat → Nat → Option (Value × AH)} (h : Ev g (An B H fun _ v => v = .bool true)) : Ev g (fun r => r.1 = .bool true) := h.mono fun r ⟨_, _, _, _, e⟩ => e
end
end Go.AM.Z
set_option linter.unusedVariables false
set_option linter.unusedSimpArgs false
set_option maxRecDepth 100000
namespace Go.AM.Z
open Go Go.AM Go.Proofs
attribute [local irreducible] run bin un ld st box newV mkS fldA fld ixA ix slc slc3 build buildS cv cvS ap cpy lenV gOp pickV b2 aIf aChk evalK resume iterD Option.bind

end Go.AM.Z
set_option linter.unusedVariables false
set_option linter.unusedSimpArgs false
set_option maxRecDepth 100000
namespace Go.AM.Z
open Go Go.AM Go.Proofs
attribute [local irreducible] run bin un ld st box newV mkS fldA fld ixA ix slc slc3 build buildS cv cvS ap cpy lenV gOp pickV b2 aIf aChk evalK resume iterD Option.bind

end Go.AM.Z
set_option linter.unusedVariables false
set_option linter.unusedSimpArgs false
set_option maxRecDepth 100000
namespace Go.AM.Z
open Go Go.AM Go.Proofs
attribute [local irreducible] run bin un ld st box newV mkS fldA fld ixA ix slc slc3 build buildS cv cvS ap cpy lenV gOp pickV b2 aIf aChk evalK resume iterD Option.bind

end Go.AM.Z
set_option linter.unusedVariables false
set_option linter.unusedSimpArgs false
set_option maxRecDepth 100000
namespace Go.AM.Z
open Go Go.AM Go.Proofs
attribute [local irreducible] run bin un ld st box newV mkS fldA fld ixA ix slc slc3 build buildS cv cvS ap cpy lenV gOp pickV b2 aIf aChk evalK resume iterD Option.bind

end Go.AM.Z
set_option linter.unusedVariables false
set_option linter.unusedSimpArgs false
set_option maxRecDepth 100000
namespace Go.AM.Z
open Go Go.AM Go.Proofs
attribute [local irreducible] run bin un ld st box newV mkS fldA fld ixA ix slc slc3 build buildS cv cvS ap cpy lenV gOp pickV b2 aIf aChk evalK resume iterD Option.bind

end Go.AM.Z
set_option linter.unusedVariables false
set_option linter.unusedSimpArgs false
set_option maxRecDepth 100000
namespace Go.AM.Z
open Go Go.AM Go.Proofs
attribute [local irreducible] run bin un ld st box newV mkS fldA fld ixA ix slc slc3 build buildS cv cvS ap cpy lenV gOp pickV b2 aIf aChk evalK resume iterD Option.bind

end Go.AM.Z
set_option linter.unusedVariables false
set_option linter.unusedSimpArgs false
set_option maxRecDepth 100000
namespace Go.AM.Z
open Go Go.AM Go.Proofs
attribute [local irreducible] run bin un ld st box newV mkS fldA fld ixA ix slc slc3 build buildS cv cvS ap cpy lenV gOp pickV b2 aIf aChk evalK resume iterD Option.bind

end Go.AM.Z
set_option linter.unusedVariables false
namespace Go.AM
variable {R : Type} {P : Program}
abbrev str (l : List UInt8) : Value := .string ⟨l.toArray⟩
theorem str_of (s : ByteArray) : Value.string s = str s.data.toList := by
  obtain ⟨⟨l⟩⟩ := s; rfl
instance {t : TypeId} {l : List UInt8} [h : Und P t .string] : PrimEq (lenV P t (str l)) (i64 l.length) := ⟨by unfold lenV; rw [h.eq]; rfl⟩
theorem ix_str {t : TypeId} {l : List UInt8} {k : IntKind} {n : Int} [h : Und P t .string] (i : Nat) (hn : n = (i : Int)) (hi : i < l.length) : ix P t (str l) (.int k n) = some (u8 (l.getD i 0).toNat) := by
  subst hn
  unfold ix; rw [h.eq]
  have : ByteArray.size ⟨l.toArray⟩ = l.length := rfl
  simp only [this]
  rw [if_pos ⟨by omega, by omega⟩]
  simp [List.getD_eq_getElem?_getD]
theorem slc_str {t : TypeId} {l : List UInt8} {k : IntKind} {n : Int} [h : Und P t .string] (i : Nat) (hn : n = (i : Int)) (hi : i ≤ l.length) : slc P t (str l) (some (.int k n)) none = some (str (l.drop i)) := by
  subst hn
  unfold slc; rw [h.eq]
  have : ByteArray.size ⟨l.toArray⟩ = l.length := rfl
  simp only [this, intOr, Option.bind_some]
  rw [if_pos ⟨by omega, by omega, by omega⟩]
  congr 2
  simp [ByteArray.extract, ByteArray.copySlice]
  rw [List.take_of_length_le (by simp)]
theorem toList_loop (a : Array UInt8) : ∀ (n i : Nat) (r : List UInt8), i + n = a.size → ByteArray.toList.loop ⟨a⟩ i r = r.reverse ++ a.toList.drop i := by
  intro n
  induction n with
  | zero =>
    intro i r h
    have h1 : ¬ i < ByteArray.size ⟨a⟩ := by show ¬ i < a.size; omega
    unfold ByteArray.toList.loop
    rw [if_neg h1, List.drop_eq_nil_of_le (by simp; omega), List.append_nil]
  | succ n ih =>
    intro i r h
    have h1 : i < ByteArray.size ⟨a⟩ := by show i < a.size; omega
    have h2 : i < a.size := by omega
    unfold ByteArray.toList.loop
    rw [if_pos h1, ih (i + 1) _ (by omega), List.reverse_cons, List.append_assoc]
    congr 1
    have e : a.toList.drop i = a.toList[i]'(by simpa using h2) :: a.toList.drop (i + 1) := List.drop_eq_getElem_cons (by simpa using h2)
    rw [e]
    have e2 : ByteArray.get! ⟨a⟩ i = a[i] := by
      show a[i]! = a[i]
      rw [getElem!_pos a i h2]
    rw [e2]
    simp
theorem toList_str (l : List UInt8) : ByteArray.toList ⟨l.toArray⟩ = l := by
  unfold ByteArray.toList
  rw [toList_loop l.toArray l.length 0 [] (by simp)]
  simp
theorem add_str {t : TypeId} {a b : List UInt8} (h : a.length + b.length ≤ 9223372036854775807) : bin P .add t (str a) (str b) = some (str (a ++ b)) := by
  have e : binOp .add t (str a) (str b) = .pure (str (a ++ b)) := by
    show Op.stringOp .add _ _ = _
    unfold Op.stringOp
    have e1 : ByteArray.size ⟨a.toArray⟩ = a.length := rfl
    have e2 : ByteArray.size ⟨b.toArray⟩ = b.length := rfl
    have e3 : IntKind.i64.max = 9223372036854775807 := rfl
    simp only [e1, e2, e3]
    rw [if_neg (by omega)]
    have e4 : ((⟨a.toArray⟩ : ByteArray) ++ (⟨b.toArray⟩ : ByteArray)) = ⟨(a ++ b).toArray⟩ := by
      refine ByteArray.ext ?_
      simp
    rw [e4]; rfl
  unfold bin
  rw [if_pos ⟨rfl, rfl, rfl⟩, e]
  rfl
theorem eql_str {t : TypeId} {a b : List UInt8} : bin P .eql t (str a) (str b) = some (.bool (decide (a = b))) := by
  have e : binOp .eql t (str a) (str b) = .pure (.bool (decide (a = b))) := by
    show Op.stringOp .eql _ _ = _
    unfold Op.stringOp
    simp only [toList_str]
    show Sem.pure _ = _
    congr 2
    exact Bool.eq_iff_iff.mpr (by simp)
  unfold bin
  rw [if_pos ⟨rfl, rfl, rfl⟩, e]
  rfl
instance {t : TypeId} {a b : List UInt8} : PrimEq (bin P .eql t (str a) (str b)) (.bool (decide (a = b))) := ⟨eql_str⟩
instance (priority := 2000) {t : TypeId} {a : List UInt8} : PrimEq (bin P .eql t (str a) (str a)) (.bool true) := ⟨by rw [eql_str, decide_eq_true rfl]⟩
theorem bytesOf_map (l : List Nat) : bytesOf (l.map u8) = some (l.map fun n => UInt8.ofNat n) := by
  induction l with
  | nil => rfl
  | cons a l ih => show (bytesOf (l.map u8)).map _ = _; rw [ih]; rfl
/-- Bytes of ours, as a string. -/
theorem cvS_own {t d e : TypeId} {B0 H0 B H : AH} {L : List (Nat × Blk)} {b cap n : Nat} {ds rest : List Nat} {kd : BK} [h1 : Und P t (.slice e)] [h2 : Und P d .string] [h3 : Und P e (.int .u8)] (hS : St H0 B0 B L H) (hm : (b, ⟨(ds ++ rest).map u8, e, kd⟩) ∈ L) (hn : n = ds.length) :
    cvS P t d H (sl b 0 n cap) = some (str (ds.map fun n => UInt8.ofNat n)) := by
  subst hn
  unfold cvS
  rw [h1.eq, h2.eq]
  simp only [sl, h3.eq, sliceCells]
  by_cases h0 : ds.length = 0
  · rw [if_pos h0]
    have : ds = [] := List.length_eq_zero_iff.mp h0
    subst this; rfl
  · rw [if_neg h0, if_pos (Nat.le_refl _), hS.get hm, Option.bind_some]
    have : rdN ⟨(ds ++ rest).map u8, e, kd⟩ 0 (ds.length * 1) = some (ds.map u8) := by
      unfold rdN
      rw [if_pos (by simp), Nat.mul_one, List.drop_zero, List.map_append, List.take_left' (by simp)]
    rw [this, Option.bind_some, bytesOf_map]; rfl
/-- Into room that is there. -/
theorem Ev.apRoom {t u e u' : TypeId} {z : Value} {sz : Nat} {f : Nat → Nat → Value → AH → Option R} {Q : R → Prop} {B0 H0 B H : AH} {L L' : List (Nat × Blk)} {b cap n : Nat} {cs ds : List Value} {v : Value} (hE : Elt P t e z sz) (hu : P.underlying u = some (.slice u')) (hS : St H0 B0 B L H)
    (hm : (b, ⟨cs, e, .fix⟩) ∈ L) (hx : Sc H v ds) (hd : ds.all isCell = true) (hn : ds ≠ []) (hc : n + ds.length ≤ cap) (hl : n + ds.length ≤ cs.length) (hl2 : (n + ds.length) * sz ≤ 140737488355328 ∧ n + ds.length ≤ 9223372036854775807)
    (hu2 : Upd b ⟨cs, e, .fix⟩ ⟨spl cs n ds, e, .fix⟩ L L') (h : ∀ H', St H0 B0 B L' H' → Ev (fun k m => f k m (sl b 0 (n + ds.length) cap) H') Q) :
    Ev (fun k m => Go.AM.b2 (Go.AM.ap P t u H (sl b 0 n cap) v) (f k m)) Q := by
  have hn' : ds.length ≠ 0 := fun e => hn (List.length_eq_zero_iff.mp e)
  refine Ev.prim2 ?_ (h _ (hS.put hu2))
  rw [ap_eq hE hu hx hd]
  simp only [apS, sl, if_neg hn', hS.get hm, Option.bind_some, rdN, Nat.mul_one, Nat.zero_add]
  rw [if_neg (by omega), if_pos (by omega), Option.bind_some, if_pos ⟨hl2.1, hl2.2, trivial⟩, if_pos hc, if_pos (by omega)]
/-- Room for later. -/
theorem Ev.mkCap {t e : TypeId} {z : Value} {sz : Nat} {f : Nat → Nat → Value → AH → Option R} {Q : R → Prop} {B0 H0 B H : AH} {L : List (Nat × Blk)} {m : Nat} (hE : Elt P t e z sz) (hS : St H0 B0 B L H) (hm : m * sz ≤ 281474976710656) (hm' : m ≤ 9223372036854775807)
    (h : ∀ b B' H', Mo B B' → St H0 B0 B' ((b, ⟨List.replicate m z, e, .fix⟩) :: L) H' → Ev (fun k n => f k n (sl b 0 0 m) H') Q) :
    Ev (fun k n => Go.AM.b2 (Go.AM.mkS P t H (.int .i64 0) (.int .i64 (m : Int))) (f k n)) Q := by
  obtain ⟨B', hm1, hS'⟩ := hS.mkB (List.replicate m z) e .fix
  refine Ev.prim2 ?_ (h H.length B' _ hm1 hS')
  unfold Go.AM.mkS
  rw [hE.U]; simp only [hE.Z, hE.Y, hE.S, hE.zn, Option.bind_some, rep_one]
  rw [if_pos ⟨by omega, by omega, by omega, by omega, size_cells hE.zn, okCells_of hE.zc⟩]
  simp
/-- A literal, whose number counts. -/
theorem Ev.bsL {t e : TypeId} {z : Value} {sz : Nat} {B0 H0 B H : AH} {L : List (Nat × Blk)} {m : Nat} {parts : List (Nat × Value)} {l cs : List Value} {f : Nat → Nat → Value → AH → Option R} {Q : R → Prop} [hE : Elt P t e z sz] [hS : St H0 B0 B L H] [hr : Rep m z l] [hf : FillL l parts cs] (hm : m ≤ 16777216)
    (h : ∀ H', St H0 B0 B ((H.length, ⟨cs, e, .fix⟩) :: L) H' → Ev (fun k n => f k n (sl H.length 0 m m) H') Q) : Ev (fun k n => Go.AM.b2 (Go.AM.buildS P t H m parts) (f k n)) Q := by
  refine Ev.prim2 ?_ (h _ (hS.mkB' cs e .fix))
  unfold Go.AM.buildS
  rw [hE.U]; simp only [hE.Z, hE.S, hE.zn, Option.bind_some, rep_one]
  rw [if_pos ⟨by omega, size_cells hE.zn⟩, hr.eq, hf.eq]; rfl
theorem Acc.cell {e : TypeId} {H0 B0 B L H v ds} (h : Acc e H0 B0 B L H v ds) : IsCell v := by
  rcases h with ⟨_, rfl | ⟨b, off, rfl⟩, _⟩ | ⟨_, b, kd, cap, rfl, _, _⟩
  · exact inferInstance
  · exact inferInstance
  · exact inferInstance
theorem Acc.stC {t e e' : TypeId} {H0 B0 B : AH} {L L' : List (Nat × Blk)} {H : AH} {v : Value} {ds : List Nat} {b off : Nat} {cs0 cs : List Value} {w : Value} {f : Nat → Nat → AH → Option R} {Q : R → Prop} (h : Acc e H0 B0 B L H v ds) [hm : InL b ⟨cs0, e', .fix⟩ L] [hs : PrimEq (stK P t cs0 off w) cs]
    [hu : UpL b ⟨cs0, e', .fix⟩ ⟨cs, e', .fix⟩ L L'] (hk : ∀ H', Acc e H0 B0 B L' H' v ds → Ev (fun k n => f k n H') Q) : Ev (fun k n => (Go.AM.st P t H (ptr b off) w).bind (f k n)) Q := by
  rcases h with ⟨h1, hv, hS⟩ | ⟨hne, b2, kd, cap, hv, hkc, hS⟩
  · exact Ev.st hS hm.mem hs.eq (fun h => by cases h) hu.upd fun H' hS' => hk H' (.inl ⟨h1, hv, hS'⟩)
  · exact Ev.st hS (.tail _ hm.mem) hs.eq (fun h => by cases h) (.tail _ hu.upd) fun H' hS' => hk H' (.inr ⟨hne, b2, kd, cap, hv, hkc, hS'⟩)
theorem shl8I {t : TypeId} {a : Nat} {k' : IntKind} (h : a < 1000) : bin P .shl t (i64 a) (.int k' 8) = some (i64 (a * 256)) := by
  rw [bin_shl (by decide), show min (8 : Int).toNat IntKind.i64.bits = 8 from rfl, wrap64 (by omega)]
  have : (a : Int) * 2 ^ 8 = ((a * 256 : Nat) : Int) := by omega
  rw [this]
theorem orI {t : TypeId} {a b : Nat} (h : a < 1073741824 ∧ b < 1073741824) : bin P .or t (i64 a) (i64 b) = some (i64 (a ||| b)) := by
  rw [bin_or]
  have e : (BitVec.ofInt IntKind.i64.bits (a : Int) ||| BitVec.ofInt IntKind.i64.bits (b : Int)).toNat = a ||| b := by
    rw [BitVec.toNat_or, BitVec.ofInt_natCast, BitVec.ofInt_natCast, BitVec.toNat_ofNat, BitVec.toNat_ofNat, show 2 ^ IntKind.i64.bits = 18446744073709551616 from rfl, Nat.mod_eq_of_lt (by omega), Nat.mod_eq_of_lt (by omega)]
  have : a ||| b < 2 ^ 30 := Nat.or_lt_two_pow h.1 h.2
  rw [e, wrap64 (by omega)]
theorem shlWL {t : TypeId} {a n : Nat} {k' : IntKind} (h : n < 32 ∧ a * 2 ^ n < 4294967296) : bin P .shl t (u32 a) (.int k' (n : Int)) = some (u32 (a * 2 ^ n)) := by
  rw [shlW h.1, Nat.mod_eq_of_lt h.2]
instance {t : TypeId} {a b : List UInt8} : PrimC (bin P .add t (str a) (str b)) (a.length + b.length ≤ 9223372036854775807) (str (a ++ b)) := ⟨add_str⟩
end Go.AM
set_option linter.unusedVariables false
set_option linter.unusedSimpArgs false
namespace Go.AM
variable {α β R : Type} {P : Program}
section
variable {t e : TypeId} {z : Value} {sz : Nat}
def BAcc (e : TypeId) (H0 B0 B : AH) (L : List (Nat × Blk)) (H : AH) (v : Value) (ds : List Nat) : Prop :=
  (ds = [] ∧ (v = .slice none 0 0) ∧ St H0 B0 B L H) ∨
  (∃ b, v = sl b 0 ds.length (ds.length + 1) ∧ St H0 B0 B ((b, ⟨ds.map u8, e, .grow⟩) :: L) H)
theorem BAcc.nil {H0 B0 B L H} (hS : St H0 B0 B L H) : BAcc e H0 B0 B L H (.slice none 0 0) [] := .inl ⟨rfl, rfl, hS⟩
theorem BAcc.st {H0 B0 B L H v ds} (h : BAcc e H0 B0 B L H v ds) : St H0 B0 B L H := by
  rcases h with ⟨_, _, hS⟩ | ⟨b, _, hS⟩
  · exact hS
  · exact hS.drop1
theorem BAcc.cell {H0 B0 B L H v ds} (h : BAcc e H0 B0 B L H v ds) : IsCell v := by
  rcases h with ⟨_, rfl, _⟩ | ⟨b, rfl, _⟩ <;> exact inferInstance
theorem BAcc.apS {H0 B0 B : AH} {L : List (Nat × Blk)} {H : AH} {v : Value} {ds ns : List Nat} {bytes : Nat} (h : BAcc e H0 B0 B L H v ds) (hl : (ds.length + ns.length) * bytes ≤ 140737488355328 ∧ ds.length + ns.length ≤ 9223372036854775807) :
    ∃ v' H' B', AM.apS 1 bytes e H v ns.length (ns.map u8) = some (v', H') ∧ MoC B B' ∧ BAcc e H0 B0 B' L H' v' (ds ++ ns) := by
  by_cases hn : ns = []
  · subst hn
    refine ⟨v, H, B, ?_, ⟨Mo.refl B⟩, by rw [List.append_nil]; exact h⟩
    rcases h with ⟨_, rfl, _⟩ | ⟨b, rfl, _⟩ <;> rfl
  have hn' : ns.length ≠ 0 := fun e => hn (List.length_eq_zero_iff.mp e)
  rcases h with ⟨rfl, rfl, hS⟩ | ⟨b, rfl, hS⟩
  · obtain ⟨B', hm1, hS'⟩ := hS.mkB (ns.map u8) e .grow
    have hl2 : ns.length * bytes ≤ 140737488355328 ∧ ns.length ≤ 9223372036854775807 := by simpa using hl
    refine ⟨sl H.length 0 ns.length (ns.length + 1), _, B', ?_, ⟨hm1⟩, .inr ⟨H.length, ?_, hS'⟩⟩
    · simp only [AM.apS, if_neg hn', if_pos hl2]
    · rw [List.nil_append]
  · have hb := hS.get (.head _)
    obtain ⟨B', hm1, hS'⟩ := hS.kill.mkB (ds.map u8 ++ ns.map u8) e .grow
    rw [length_kill] at hS'
    have e1 : (ds.map u8).length = ds.length := List.length_map ..
    refine ⟨sl H.length 0 (ds.length + ns.length) (ds.length + ns.length + 1), _, B', ?_, ⟨hm1⟩, .inr ⟨H.length, ?_, by rw [List.map_append]; exact hS'⟩⟩
    · simp only [AM.apS, sl, if_neg hn', hb, Option.bind_some, rdN, Nat.mul_one, Nat.zero_add, e1, Nat.le_refl, if_true, List.drop_zero, hl, and_self]
      rw [if_neg (by omega)]
      have e2 : (ds.map u8).take ds.length = ds.map u8 := List.take_of_length_le (by omega)
      rw [e2]
    · rw [List.length_append]
/-- One more byte. -/
theorem BAcc.push {H0 B0 B : AH} {L : List (Nat × Blk)} {H : AH} {v : Value} {ds : List Nat} {d : Nat} {f : Nat → Nat → Value → AH → Option R} {Q : R → Prop} [hE : Elt P t e (.int .u8 0) sz] (h : BAcc e H0 B0 B L H v ds)
    (hl : (ds.length + 1) * sz ≤ 140737488355328 ∧ ds.length + 1 ≤ 9223372036854775807) (hk : ∀ v' B' H', MoC B B' → BAcc e H0 B0 B' L H' v' (ds ++ [d]) → Ev (fun k n => f k n v' H') Q) :
    Ev (fun k n => Go.AM.b2 (Go.AM.buildS P t H 1 [(0, u8 d)]) fun w h => Go.AM.b2 (Go.AM.ap P t t h v w) (f k n)) Q := by
  rcases h with ⟨rfl, rfl, hS⟩ | ⟨b, rfl, hS⟩
  · refine Ev.bsC (P := P) (t := t) (by decide) fun bw H1 hS1 => ?_
    have hx : Sc H1 (sl bw 0 1 1) ([d].map u8) := hS1.sc (.head _) (Nat.le_refl 1)
    obtain ⟨v', H', B', q1, q2, q3⟩ := BAcc.apS (e := e) (ns := [d]) (bytes := sz) (.inl ⟨rfl, rfl, hS1.drop1⟩) (by simpa using hl)
    refine Ev.prim2 ?_ (hk v' B' H' q2 q3)
    rw [ap_eq hE hE.U hx rfl]
    exact q1
  · refine Ev.bsC (P := P) (t := t) (by decide) fun bw H1 hS1 => ?_
    have hx : Sc H1 (sl bw 0 1 1) ([d].map u8) := hS1.sc (.head _) (Nat.le_refl 1)
    obtain ⟨v', H', B', q1, q2, q3⟩ := BAcc.apS (e := e) (ns := [d]) (bytes := sz) (.inr ⟨b, rfl, hS1.drop1⟩) hl
    refine Ev.prim2 ?_ (hk v' B' H' q2 q3)
    rw [ap_eq hE hE.U hx rfl]
    exact q1
/-- A string's bytes. -/
theorem BAcc.str {u : TypeId} {H0 B0 B : AH} {L : List (Nat × Blk)} {H : AH} {v : Value} {ds : List Nat} {l : List UInt8} {f : Nat → Nat → Value → AH → Option R} {Q : R → Prop} [hE : Elt P t e (.int .u8 0) 1] [hu : Und P u .string] (hs : szT P e = 1) (h : BAcc e H0 B0 B L H v ds)
    (hl : ds.length + l.length ≤ 140737488355328) (hb : byT P e = 1) (hk : ∀ v' B' H', MoC B B' → BAcc e H0 B0 B' L H' v' (ds ++ l.map UInt8.toNat) → Ev (fun k n => f k n v' H') Q) :
    Ev (fun k n => Go.AM.b2 (Go.AM.ap P t u H v (AM.str l)) (f k n)) Q := by
  obtain ⟨v', H', B', q1, q2, q3⟩ := h.apS (ns := l.map UInt8.toNat) (bytes := 1) (by rw [List.length_map]; omega)
  refine Ev.prim2 ?_ (hk v' B' H' q2 q3)
  rw [List.length_map] at q1
  unfold Go.AM.ap
  rw [hE.U, hu.eq]
  simp only [hE.Z, Option.bind_some]
  rw [if_pos ⟨hs, by rw [hs]; exact size_cells hE.zn⟩]
  have e1 : lenOf (AM.str l) = some l.length := rfl
  have e2 : sliceCells (szT P e) H (AM.str l) l.length = some ((l.map UInt8.toNat).map u8) := by
    show (if l.length ≤ l.length then some ((cellsOfBytes ⟨l.toArray⟩).take l.length) else none) = _
    rw [if_pos (Nat.le_refl _)]
    congr 1
    unfold cellsOfBytes
    rw [List.take_of_length_le (by simp)]
    simp
  rw [e1, Option.bind_some, e2, Option.bind_some, if_pos (by simp [isCell]), hs, hb]
  exact q1
/-- What it says at last. -/
theorem BAcc.said {pt : TypeId} {H0 B0 B : AH} {L : List (Nat × Blk)} {H : AH} {v : Value} {ds : List Nat} (h : BAcc e H0 B0 B L H v ds) (hne : ds ≠ []) (hp : P.underlying pt = some (.pointer e)) (hs : szT P e = 1) (hl : ds.length ≤ 9223372036854775807) :
    ∃ p H', sdV v = some p ∧ usV P pt H p (i64 ds.length) = some (AM.str (ds.map fun n => UInt8.ofNat n), H') ∧ St H0 B0 B L H' := by
  rcases h with ⟨rfl, rfl, hS⟩ | ⟨b, rfl, hS⟩
  · exact absurd rfl hne
  · have hn : ds.length ≠ 0 := fun e => hne (List.length_eq_zero_iff.mp e)
    have hb := hS.get (.head _)
    refine ⟨ptr b 0, kill H b, by simp only [sdV, sl, if_neg hn]; rfl, ?_, hS.kill⟩
    have e0 : usV P pt H (ptr b 0) (i64 ds.length) = (match P.underlying pt with
        | some (.pointer e) =>
          (blk H b).bind fun k => if 0 < (ds.length : Int) ∧ (ds.length : Int) ≤ 9223372036854775807 ∧ k.kind ≠ .ro ∧ k.elem = e ∧ szT P e = 1 then (rdN k 0 ((ds.length : Int)).toNat).bind fun cs => (bytesOf cs).map fun l => (.string ⟨l.toArray⟩, kill H b) else none
        | _ => none) := rfl
    rw [e0, hp]
    simp only [hb, Option.bind_some]
    rw [if_pos ⟨by omega, by omega, (by intro h; cases h), trivial, hs⟩]
    have e1 : rdN ⟨ds.map u8, e, .grow⟩ 0 ((ds.length : Int)).toNat = some (ds.map u8) := by
      unfold rdN
      rw [Int.toNat_natCast, if_pos (by simp), List.drop_zero, List.take_of_length_le (by simp)]
    rw [e1, Option.bind_some, bytesOf_map]
    rfl
theorem BAcc.upd {H0 B0 B : AH} {L L' : List (Nat × Blk)} {H : AH} {v : Value} {ds : List Nat} {b : Nat} {K : Blk} {cs : List Value} (h : BAcc e H0 B0 B L H v ds) (hu : Upd b K ⟨cs, K.elem, K.kind⟩ L L') : BAcc e H0 B0 B L' (put H b K cs) v ds := by
  rcases h with ⟨h1, hv, hS⟩ | ⟨b2, hv, hS⟩
  · exact .inl ⟨h1, hv, hS.put hu⟩
  · exact .inr ⟨b2, hv, hS.put (.tail _ hu)⟩
theorem BAcc.stC {t e' : TypeId} {H0 B0 B : AH} {L L' : List (Nat × Blk)} {H : AH} {v : Value} {ds : List Nat} {b off : Nat} {cs0 cs : List Value} {w : Value} {f : Nat → Nat → AH → Option R} {Q : R → Prop} (h : BAcc e H0 B0 B L H v ds) [hm : InL b ⟨cs0, e', .fix⟩ L] [hs : PrimEq (stK P t cs0 off w) cs]
    [hu : UpL b ⟨cs0, e', .fix⟩ ⟨cs, e', .fix⟩ L L'] (hk : ∀ H', BAcc e H0 B0 B L' H' v ds → Ev (fun k n => f k n H') Q) : Ev (fun k n => (Go.AM.st P t H (ptr b off) w).bind (f k n)) Q := by
  rcases h with ⟨h1, hv, hS⟩ | ⟨b2, hv, hS⟩
  · exact Ev.st hS hm.mem hs.eq (fun h => by cases h) hu.upd fun H' hS' => hk H' (.inl ⟨h1, hv, hS'⟩)
  · exact Ev.st hS (.tail _ hm.mem) hs.eq (fun h => by cases h) (.tail _ hu.upd) fun H' hS' => hk H' (.inr ⟨b2, hv, hS'⟩)
end
end Go.AM
set_option linter.unusedVariables false
set_option linter.unusedSimpArgs false
set_option maxRecDepth 100000
namespace Go.AM.Z
open Go Go.AM Go.Proofs
attribute [local irreducible] run bin un ld st box newV mkS fldA fld ixA ix slc slc3 build buildS cv cvS ap cpy lenV gOp pickV b2 aIf aChk evalK resume iterD Option.bind

abbrev BldT : List TypeId := [100]
theorem copy_eq (k : Nat) (a0 : Value) (H : AH) : rn (k + 1) 95 [a0] H = gCopy Tryd.prog BldT [a0] H := by kernel_rfl
theorem copy_spec {H0 B0 B H : AH} {L : List (Nat × Blk)} {p : Nat} {c0 v : Value} {rest : List Value} {T : TypeId} {ds : List Nat} (hT : T ∈ BldT) (hl : rest.length + 2 = szT Tryd.prog T) (hc : c0 = .pointer none ∨ c0 = ptr p 0)
    (hA : BAcc 5 H0 B0 B ((p, ⟨c0 :: v :: rest, T, .fix⟩) :: L) H v ds) :
    Ev (fun k _ => rn k 95 [ptr p 0] H) (fun r => r.1 = .tuple #[] ∧ BAcc 5 H0 B0 B ((p, ⟨ptr p 0 :: v :: rest, T, .fix⟩) :: L) r.2 v ds) := by
  refine Ev.fn (fun k => copy_eq k _ H) ?_
  have hb := hA.st.get (.head _)
  rcases hc with rfl | rfl
  · have e : gCopy Tryd.prog BldT [ptr p 0] H = some (.tuple #[], put H p ⟨.pointer none :: v :: rest, T, .fix⟩ (ptr p 0 :: v :: rest)) := by
      show (blk H p).bind _ = _
      rw [hb]
      simp only [Option.bind_some]
      rw [if_pos ⟨trivial, hT, by simpa using hl⟩]
      rfl
    rw [e]
    exact Ev.ret ⟨rfl, hA.upd (.head _)⟩
  · have e : gCopy Tryd.prog BldT [ptr p 0] H = some (.tuple #[], H) := by
      show (blk H p).bind _ = _
      rw [hb]
      simp only [Option.bind_some]
      rw [if_pos ⟨trivial, hT, by simpa using hl⟩]
      exact if_pos rfl
    rw [e]
    exact Ev.ret ⟨rfl, hA⟩
theorem WriteString_spec {H0 B0 B H : AH} {L : List (Nat × Blk)} {p : Nat} {l : List UInt8} {c0 v : Value} {rest : List Value} {T : TypeId} {ds : List Nat} (hT : T ∈ BldT) (hl : rest.length + 2 = szT Tryd.prog T) (hc : c0 = .pointer none ∨ c0 = ptr p 0) (hd : ds.length + l.length ≤ 140737488355328)
    (hA : BAcc 5 H0 B0 B ((p, ⟨c0 :: v :: rest, T, .fix⟩) :: L) H v ds) :
    Ev (fun k _ => rn k 86 [ptr p 0, str l] H) (fun r => r.1 = .tuple #[i64 l.length, .nilIface] ∧ ∃ v' B', MoC B B' ∧ BAcc 5 H0 B0 B' ((p, ⟨ptr p 0 :: v' :: rest, T, .fix⟩) :: L) r.2 v' (ds ++ l.map UInt8.toNat)) := by
  refine Ev.fn (fun k => f86_eq k _ _ H) ?_
  refine Ev.b2 (copy_spec hT hl hc hA) fun v1 H1 h1 => ?_
  obtain ⟨h1, hA1⟩ := h1
  simp only at h1 hA1
  have hSt := hA1.st
  have hcell := hA1.cell
  repeat (first | refine Ev.s ?_ | refine Ev.newC fun _ _ _ => ?_ | refine Ev.boxC fun _ _ _ => ?_ | refine Ev.stC fun _ _ => ?_ | refine Ev.sc (by omega) ?_ | refine Ev.scg (by omega) ?_)
  refine hA1.str (by kernel_rfl) hd (by kernel_rfl) fun v' B' H' hm hA' => ?_
  have hcell' := hA'.cell
  refine Ev.s ?_
  refine Ev.s ?_
  refine BAcc.stC (P := Tryd.prog) (t := 76) (b := p) (off := 1) (w := v') hA' fun H2 hA2 => ?_
  refine Ev.s ?_
  exact Ev.ret ⟨rfl, v', B', hm, hA2⟩
theorem bacc_len {e t : TypeId} [hu : Und Tryd.prog t (.slice e)] {H0 B0 B H : AH} {L : List (Nat × Blk)} {v : Value} {ds : List Nat} (h : BAcc e H0 B0 B L H v ds) : lenV Tryd.prog t v = some (i64 ds.length) := by
  rcases h with ⟨rfl, rfl, _⟩ | ⟨b, rfl, _⟩
  · unfold lenV; rw [hu.eq]; rfl
  · unfold lenV; rw [hu.eq]; rfl
theorem String_spec {H0 B0 B H : AH} {L : List (Nat × Blk)} {p : Nat} {c0 v : Value} {rest : List Value} {T : TypeId} {ds : List Nat} (hd : ds.length ≤ 140737488355328) (hne : ds ≠ [])
    (hA : BAcc 5 H0 B0 B ((p, ⟨c0 :: v :: rest, T, .fix⟩) :: L) H v ds) :
    Ev (fun k _ => rn k 87 [ptr p 0] H) (fun r => r.1 = str (ds.map fun n => UInt8.ofNat n) ∧ St H0 B0 B ((p, ⟨c0 :: v :: rest, T, .fix⟩) :: L) r.2) := by
  refine Ev.fn (fun k => f87_eq k _ H) ?_
  have hSt := hA.st
  have hcell := hA.cell
  obtain ⟨q, H', q1, q2, q3⟩ := hA.said (P := Tryd.prog) (pt := 114) hne (by exact Tryd.underlying114) (by kernel_rfl) (by omega)
  have hlen := bacc_len (t := 76) hA
  repeat (first | refine Ev.s ?_ | refine Ev.newC fun _ _ _ => ?_ | refine Ev.boxC fun _ _ _ => ?_ | refine Ev.stC fun _ _ => ?_ | refine Ev.sc (by omega) ?_ | refine Ev.scg (by omega) ?_)
  refine Ev.prim q1 ?_
  repeat (first | refine Ev.s ?_ | refine Ev.newC fun _ _ _ => ?_ | refine Ev.boxC fun _ _ _ => ?_ | refine Ev.stC fun _ _ => ?_ | refine Ev.sc (by omega) ?_ | refine Ev.scg (by omega) ?_)
  refine Ev.prim hlen ?_
  refine Ev.prim2 q2 ?_
  exact Ev.ret ⟨rfl, q3⟩
end Go.AM.Z
set_option linter.unusedVariables false
set_option linter.unusedSimpArgs false
namespace Go.AM
variable {α β R : Type} {P : Program}
/-- A type of slices, by the cells of its elements. -/
class EltS (P : Program) (t : TypeId) (e : outParam TypeId) (z : outParam (List Value)) (sz by_ : outParam Nat) : Prop where
  U : P.underlying t = some (.slice e)
  I : (P.info? e).isSome = true
  S : szT P e = sz
  Y : byT P e = by_
  Z : ∃ zv, zeroT P e = some zv ∧ zv.cells.toList = z
  n : z.length = sz
  p : 0 < sz
instance {t e : TypeId} {z : Value} {sz : Nat} [h : Elt P t e z sz] : EltS P t e [z] 1 sz := ⟨h.U, h.I, h.S, h.Y, ⟨z, h.Z, h.zn⟩, rfl, by decide⟩
section
variable {t u e u' : TypeId} {z : List Value} {sz by_ : Nat}
/-- A slice that stands: so many elements, their cells. -/
def ScN (B : AH) (v : Value) (n sz : Nat) (cs : List Value) : Prop :=
  (v = .slice none 0 0 ∧ n = 0 ∧ cs = []) ∨ ∃ b off cap, v = sl b off n cap ∧ n ≤ cap ∧ cs.length = n * sz ∧ (n = 0 ∨ ∃ K, blk B b = some K ∧ rdN K off (n * sz) = some cs)
theorem ScN.mono {B B' : AH} {v : Value} {n : Nat} {cs : List Value} (hm : Mo B B') (h : ScN B v n sz cs) : ScN B' v n sz cs := by
  rcases h with h | ⟨b, off, cap, h1, hc, hl, h2⟩
  · exact .inl h
  · exact .inr ⟨b, off, cap, h1, hc, hl, h2.imp id fun ⟨K, h3, h4⟩ => ⟨K, hm _ _ h3, h4⟩⟩
theorem ScN.cell {B : AH} {v : Value} {n : Nat} {cs : List Value} (h : ScN B v n sz cs) : IsCell v := by
  rcases h with ⟨rfl, _⟩ | ⟨b, off, cap, rfl, _⟩ <;> exact inferInstance
theorem ScN.nil {B : AH} : ScN B (.slice none 0 0) 0 sz [] := .inl ⟨rfl, rfl, rfl⟩
theorem ScN.length {B : AH} {v : Value} {n : Nat} {cs : List Value} (h : ScN B v n sz cs) : cs.length = n * sz := by
  rcases h with ⟨_, rfl, rfl⟩ | ⟨_, _, _, _, _, h, _⟩
  · simp
  · exact h
theorem ScN.len {B : AH} {v : Value} {n : Nat} {cs : List Value} {e : TypeId} (hU : P.underlying t = some (.slice e)) (h : ScN B v n sz cs) : lenV P t v = some (i64 n) := by
  rcases h with ⟨rfl, rfl, _⟩ | ⟨b, off, cap, rfl, _⟩
  · exact lenV_sl hU
  · exact lenV_sl hU
theorem ScN.lenOf {B : AH} {v : Value} {n : Nat} {cs : List Value} (h : ScN B v n sz cs) : AM.lenOf v = some n := by
  rcases h with ⟨rfl, rfl, _⟩ | ⟨b, off, cap, rfl, _⟩ <;> rfl
theorem ScN.notStr {B : AH} {v : Value} {n : Nat} {cs : List Value} (h : ScN B v n sz cs) : isNotStr v = true := by
  rcases h with ⟨rfl, rfl, _⟩ | ⟨b, off, cap, rfl, _⟩ <;> rfl
theorem ScN.cells {H : AH} {v : Value} {n : Nat} {cs : List Value} (h : ScN H v n sz cs) : sliceCells sz H v n = some cs := by
  rcases h with ⟨rfl, rfl, rfl⟩ | ⟨b, off, cap, rfl, hc, hl, h⟩
  · rfl
  · show (if n = 0 then some [] else if n ≤ n then (blk H b).bind fun k => rdN k off (n * sz) else none) = some cs
    by_cases hn : n = 0
    · rw [if_pos hn]
      rw [hn, Nat.zero_mul] at hl
      rw [List.length_eq_zero_iff.mp hl]
    · rw [if_neg hn, if_pos (Nat.le_refl _)]
      rcases h with rfl | ⟨K, h1, h2⟩
      · exact absurd rfl hn
      · rw [h1, Option.bind_some, h2]
/-- The i-th element's cells. -/
def nth (sz : Nat) (cs : List Value) (i : Nat) : List Value := (cs.drop (i * sz)).take sz
theorem nth_lt {i n : Nat} (h : i < n) : i * sz + sz ≤ n * sz := by
  rw [← Nat.succ_mul]; exact Nat.mul_le_mul_right _ h
/-- Where an element stands. -/
theorem ScN.ix {B : AH} {v : Value} {n i : Nat} {cs : List Value} {k : IntKind} (hU : P.underlying t = some (.slice e)) (hI : (P.info? e).isSome = true) (hS : szT P e = sz) (h : ScN B v n sz cs) (hi : i < n) :
    ∃ b o, ixA P t v (.int k (i : Int)) = some (ptr b o) ∧ ∃ K, blk B b = some K ∧ o + sz ≤ K.cells.length ∧ (K.cells.drop o).take sz = nth sz cs i := by
  rcases h with ⟨rfl, rfl, rfl⟩ | ⟨b, off, cap, rfl, hc, hl, h⟩
  · omega
  · rcases h with rfl | ⟨K, h1, h2⟩
    · omega
    refine ⟨b, off + i * sz, ?_, K, h1, ?_, ?_⟩
    · unfold ixA sl; rw [hU]; simp only; rw [if_pos ⟨hI, by omega, by omega⟩, hS, Int.toNat_natCast]
    · have := (rdN_some h2).1
      have := nth_lt (sz := sz) hi
      omega
    · obtain ⟨h3, h4⟩ := rdN_some h2
      have := nth_lt (sz := sz) hi
      rw [h4]
      unfold nth
      rw [List.drop_take, List.drop_drop, List.take_take, Nat.min_eq_left (by omega)]
/-- A part of it. -/
theorem ScN.slc {B : AH} {v : Value} {n i j : Nat} {cs : List Value} {lo hi : Option Value} (hU : P.underlying t = some (.slice e)) (hI : (P.info? e).isSome = true) (hS : szT P e = sz) (h : ScN B v n sz cs) (h1 : intOr lo 0 = some (i : Int)) (h2 : intOr hi n = some (j : Int)) (hij : i ≤ j) (hjn : j ≤ n) :
    ∃ v', Go.AM.slc P t v lo hi = some v' ∧ ScN B v' (j - i) sz ((cs.drop (i * sz)).take ((j - i) * sz)) := by
  rcases h with ⟨rfl, rfl, rfl⟩ | ⟨b, off, cap, rfl, hc, hl, h⟩
  · have hj : j = 0 := by omega
    have hi0 : i = 0 := by omega
    subst hj hi0
    refine ⟨.slice none 0 0, ?_, .inl ⟨rfl, rfl, by simp⟩⟩
    unfold Go.AM.slc; rw [hU]; simp only [h1, h2, Option.bind_some]
    rw [if_pos ⟨hI, rfl, rfl⟩]
  · have hle : i * sz + (j - i) * sz ≤ n * sz := by rw [← Nat.add_mul]; exact Nat.mul_le_mul_right _ (by omega)
    refine ⟨sl b (if cap = i then off else off + i * sz) (j - i) (cap - i), ?_, .inr ⟨b, _, _, rfl, by omega, by rw [List.length_take, List.length_drop]; omega, ?_⟩⟩
    · unfold Go.AM.slc sl; rw [hU]; simp only [h1, h2, Option.bind_some]
      rw [if_pos ⟨hI, by omega, by omega, by omega⟩, hS]
      simp
    · rcases h with rfl | ⟨K, h3, h4⟩
      · exact .inl (by omega)
      · by_cases h0 : j - i = 0
        · exact .inl h0
        · refine .inr ⟨K, h3, ?_⟩
          obtain ⟨h5, h6⟩ := rdN_some h4
          rw [if_neg (by omega), rdN, if_pos (by omega)]
          conv => rhs; rw [h6]
          rw [List.drop_take, List.take_take, List.drop_drop, Nat.min_eq_left (by omega)]
theorem Ev.ixN {B : AH} {v x : Value} {n : Nat} {cs : List Value} {k : IntKind} {z0 : Value} {sz0 : Nat} {f : Nat → Nat → Value → Option R} {Q : R → Prop} {i : Int} [hE : Elt P t e z0 sz0] (h : ScN B v n 1 cs) (j : Nat) (hi : i = (j : Int)) (hj : j < n) (hx : cs[j]? = some x)
    (hk : ∀ p, LdB P e p B x → Ev (fun k n => f k n p) Q) : Ev (fun k' n => (ixA P t v (.int k i)).bind (f k' n)) Q := by
  subst hi
  obtain ⟨b, o, h1, K, h2, h3, h4⟩ := h.ix (k := k) hE.U hE.I hE.S hj
  refine Ev.prim h1 (hk _ ⟨fun H' hm => ?_⟩)
  have hl := h.length
  unfold nth at h4
  rw [Nat.mul_one] at h4
  have e1 : K.cells[o]? = some x := by
    have e2 := congrArg (fun l => l[0]?) h4
    simp only [List.getElem?_take_of_lt (show 0 < 1 by decide), List.getElem?_drop, Nat.add_zero] at e2
    rw [e2, hx]
  rw [ld_blk (hm _ _ h2)]
  unfold ldK
  rw [hE.A]; exact e1
theorem Ev.slcN {B : AH} {v : Value} {n : Nat} {cs : List Value} {lo hi : Option Value} {f : Nat → Nat → Value → Option R} {Q : R → Prop} [hE : EltS P t e z sz by_] (h : ScN B v n sz cs) (i j : Nat) (h1 : intOr lo 0 = some (i : Int)) (h2 : intOr hi n = some (j : Int)) (hij : i ≤ j) (hjn : j ≤ n)
    (hk : ∀ w, ScN B w (j - i) sz ((cs.drop (i * sz)).take ((j - i) * sz)) → Ev (fun k n => f k n w) Q) : Ev (fun k' n => (Go.AM.slc P t v lo hi).bind (f k' n)) Q := by
  obtain ⟨w, q1, q2⟩ := h.slc (P := P) (t := t) hE.U hE.I hE.S h1 h2 hij hjn
  exact Ev.prim q1 (hk w q2)
theorem ap_eqS {H : AH} {s v : Value} {n : Nat} {ds : List Value} [hE : EltS P t e z sz by_] (hu : P.underlying u = some (.slice u')) (hx : ScN H v n sz ds) (hd : ds.all isCell = true) :
    ap P t u H s v = apS sz by_ e H s n ds := by
  obtain ⟨zv, hz1, hz2⟩ := hE.Z
  have hsz : zv.cells.size = sz := by rw [← Array.length_toList, hz2, hE.n]
  unfold ap
  rw [hE.U, hu]
  simp only [hz1, hE.S, hE.Y, Option.bind_some]
  rw [if_pos ⟨hE.p, hsz, hx.notStr⟩, hx.lenOf, Option.bind_some, hx.cells, Option.bind_some, if_pos hd]
/-- What grows: so many elements, their cells. -/
def GAcc (e : TypeId) (sz : Nat) (H0 B0 B : AH) (L : List (Nat × Blk)) (H : AH) (v : Value) (n : Nat) (cs : List Value) : Prop :=
  (n = 0 ∧ cs = [] ∧ (v = .slice none 0 0 ∨ ∃ b off, v = sl b off 0 0) ∧ St H0 B0 B L H) ∨
  (n ≠ 0 ∧ cs.length = n * sz ∧ ∃ b kd cap, v = sl b 0 n cap ∧ (kd = .grow ∧ cap ≠ 0 ∧ n ≤ cap ∨ kd = .fix ∧ cap = n) ∧ St H0 B0 B ((b, ⟨cs, e, kd⟩) :: L) H)
theorem GAcc.nil {H0 B0 B L H} (hS : St H0 B0 B L H) : GAcc e sz H0 B0 B L H (.slice none 0 0) 0 [] := .inl ⟨rfl, rfl, .inl rfl, hS⟩
theorem GAcc.st {H0 B0 B L H v n cs} (h : GAcc e sz H0 B0 B L H v n cs) : St H0 B0 B L H := by
  rcases h with ⟨_, _, _, hS⟩ | ⟨_, _, b, kd, cap, _, _, hS⟩
  · exact hS
  · exact hS.drop1
theorem GAcc.cell {H0 B0 B L H v n cs} (h : GAcc e sz H0 B0 B L H v n cs) : IsCell v := by
  rcases h with ⟨_, _, rfl | ⟨b, off, rfl⟩, _⟩ | ⟨_, _, b, kd, cap, rfl, _⟩ <;> exact inferInstance
theorem GAcc.len {H0 B0 B L H v n cs} {e' : TypeId} (hU : P.underlying t = some (.slice e')) (h : GAcc e sz H0 B0 B L H v n cs) : lenV P t v = some (i64 n) := by
  rcases h with ⟨rfl, _, rfl | ⟨b, off, rfl⟩, _⟩ | ⟨_, _, b, kd, cap, rfl, _⟩ <;> exact lenV_sl hU
theorem GAcc.length {H0 B0 B L H v n cs} (h : GAcc e sz H0 B0 B L H v n cs) : cs.length = n * sz := by
  rcases h with ⟨rfl, rfl, _⟩ | ⟨_, h, _⟩
  · simp
  · exact h
/-- Cells are put behind. -/
theorem GAcc.ap {H0 B0 B : AH} {L : List (Nat × Blk)} {H : AH} {v w : Value} {n m : Nat} {cs ds : List Value} [hE : EltS P t e z sz by_] (hu : P.underlying u = some (.slice u')) (h : GAcc e sz H0 B0 B L H v n cs) (hx : ScN H w m sz ds) (hd : ds.all isCell = true)
    (hl : (n + m) * by_ ≤ 140737488355328 ∧ n + m ≤ 9223372036854775807) : ∃ v' H' B', AM.ap P t u H v w = some (v', H') ∧ MoC B B' ∧ GAcc e sz H0 B0 B' L H' v' (n + m) (cs ++ ds) := by
  rw [ap_eqS hu hx hd]
  have hml := hx.length
  by_cases hm : m = 0
  · subst hm
    have hds : ds = [] := List.length_eq_zero_iff.mp (by rw [hml]; simp)
    subst hds
    refine ⟨v, H, B, ?_, ⟨Mo.refl B⟩, by rw [Nat.add_zero, List.append_nil]; exact h⟩
    rcases h with ⟨rfl, rfl, rfl | ⟨b, off, rfl⟩, hS⟩ | ⟨hn, hl, b, kd, cap, rfl, hk, hS⟩ <;> rfl
  rcases h with ⟨rfl, rfl, hv, hS⟩ | ⟨hn, hcl, b, kd, cap, rfl, hk, hS⟩
  · obtain ⟨B', hm1, hS'⟩ := hS.mkB ds e .grow
    have hl' : m * by_ ≤ 140737488355328 ∧ m ≤ 9223372036854775807 := by simpa using hl
    refine ⟨sl H.length 0 m (m + 1), _, B', ?_, ⟨hm1⟩, .inr ⟨by omega, by simpa using hml, H.length, .grow, m + 1, by rw [Nat.zero_add], .inl ⟨rfl, by omega, by omega⟩, hS'⟩⟩
    rcases hv with rfl | ⟨b, off, rfl⟩
    · simp only [apS, if_neg hm, if_pos hl']
    · simp only [apS, sl, if_neg hm, if_pos hl', if_true]
  · have hrd : rdN ⟨cs, e, kd⟩ 0 (n * sz) = some cs := by
      unfold rdN
      rw [if_pos (by simp only; omega), List.drop_zero, List.take_of_length_le (by simp only; omega)]
    have hb := hS.get (.head _)
    rcases hk with ⟨rfl, hc, hcl2⟩ | ⟨rfl, hcap⟩
    · obtain ⟨B', hm1, hS'⟩ := hS.kill.mkB (cs ++ ds) e .grow
      rw [length_kill] at hS'
      refine ⟨sl H.length 0 (n + m) (n + m + 1), _, B', ?_, ⟨hm1⟩, .inr ⟨by omega, by rw [List.length_append, hcl, hml, Nat.add_mul], H.length, .grow, _, rfl, .inl ⟨rfl, by omega, by omega⟩, hS'⟩⟩
      simp only [apS, sl, if_neg hm, if_neg hc, hb, Option.bind_some, hrd, hl, and_self, if_true]
    · obtain ⟨B', hm1, hS'⟩ := hS.mkB (cs ++ ds) e .grow
      have hS'' : St H0 B0 B' ((H.length, ⟨cs ++ ds, e, .grow⟩) :: L) (mkB H (cs ++ ds) e .grow) := drop2 hS'
      refine ⟨sl H.length 0 (n + m) (n + m + 1), _, B', ?_, ⟨hm1⟩, .inr ⟨by omega, by rw [List.length_append, hcl, hml, Nat.add_mul], H.length, .grow, _, rfl, .inl ⟨rfl, by omega, by omega⟩, hS''⟩⟩
      simp only [apS, sl, if_neg hm, if_neg (show cap ≠ 0 by omega), hb, Option.bind_some, hrd, hl, and_self, if_true]
      rw [if_neg (by omega)]
/-- One more element. -/
theorem GAcc.push {H0 B0 B : AH} {L : List (Nat × Blk)} {H : AH} {v x : Value} {n : Nat} {cs ds : List Value} {f : Nat → Nat → Value → AH → Option R} {Q : R → Prop} [hE : EltS P t e z sz by_] (h : GAcc e sz H0 B0 B L H v n cs) (hx : x.cells.toList = ds) (hxl : ds.length = sz) (hxc : okCells x = true) (hd : ds.all isCell = true)
    (hsz : sz ≤ 16777216) (hl : (n + 1) * by_ ≤ 140737488355328 ∧ n + 1 ≤ 9223372036854775807) (hk : ∀ v' B' H', MoC B B' → GAcc e sz H0 B0 B' L H' v' (n + 1) (cs ++ ds) → Ev (fun k n => f k n v' H') Q) :
    Ev (fun k n => Go.AM.b2 (Go.AM.buildS P t H 1 [(0, x)]) fun w h => Go.AM.b2 (Go.AM.ap P t t h v w) (f k n)) Q := by
  obtain ⟨zv, hz1, hz2⟩ := hE.Z
  have hzs : zv.cells.size = sz := by rw [← Array.length_toList, hz2, hE.n]
  have hxs : x.cells.size = sz := by rw [← Array.length_toList, hx, hxl]
  have hb : Go.AM.buildS P t H 1 [(0, x)] = some (sl H.length 0 1 1, mkB H ds e .fix) := by
    unfold Go.AM.buildS
    rw [hE.U]; simp only [hz1, Option.bind_some, hE.S]
    rw [if_pos ⟨by omega, hzs⟩]
    simp only [fillB, rep, hz2, List.append_nil, Nat.zero_mul]
    rw [if_pos ⟨hxs, by rw [hE.n]; omega, hxc⟩]
    have : spl z 0 x.cells.toList = ds := by
      unfold spl; rw [List.take_zero, List.nil_append, Nat.zero_add, hx, List.drop_eq_nil_of_le (by rw [hE.n]; omega), List.append_nil]
    rw [this]; rfl
  refine Ev.prim2 hb ?_
  have hG : GAcc e sz H0 B0 B L (mkB H ds e .fix) v n cs := by
    rcases h with ⟨h1, h2, h3, hS⟩ | ⟨hn, hcl, b, kd, cap, h1, h2, hS⟩
    · exact .inl ⟨h1, h2, h3, (hS.mkB' ds e .fix).drop1⟩
    · exact .inr ⟨hn, hcl, b, kd, cap, h1, h2, (hS.mkB' ds e .fix).drop1⟩
  have hw : ScN (mkB H ds e .fix) (sl H.length 0 1 1) 1 sz ds := by
    refine .inr ⟨H.length, 0, 1, rfl, Nat.le_refl _, by omega, .inr ⟨_, blk_mkB_new, ?_⟩⟩
    unfold rdN
    rw [if_pos (by simp only; omega), List.drop_zero, List.take_of_length_le (by simp only; omega)]
  obtain ⟨v', H', B', q1, q2, q3⟩ := hG.ap (P := P) (t := t) (u := t) hE.U hw hd hl
  exact Ev.prim2 q1 (hk v' B' H' q2 q3)
/-- A slice behind it. -/
theorem GAcc.more {H0 B0 B : AH} {L : List (Nat × Blk)} {H : AH} {v w : Value} {n m : Nat} {cs ds : List Value} {f : Nat → Nat → Value → AH → Option R} {Q : R → Prop} [hE : EltS P t e z sz by_] (hu : P.underlying u = some (.slice u')) (h : GAcc e sz H0 B0 B L H v n cs) (hx : ScN H w m sz ds) (hd : ds.all isCell = true)
    (hl : (n + m) * by_ ≤ 140737488355328 ∧ n + m ≤ 9223372036854775807) (hk : ∀ v' B' H', MoC B B' → GAcc e sz H0 B0 B' L H' v' (n + m) (cs ++ ds) → Ev (fun k n => f k n v' H') Q) :
    Ev (fun k n => Go.AM.b2 (Go.AM.ap P t u H v w) (f k n)) Q := by
  obtain ⟨v', H', B', q1, q2, q3⟩ := h.ap (P := P) (t := t) (u := u) hu hx hd hl
  exact Ev.prim2 q1 (hk v' B' H' q2 q3)
/-- It is done. -/
theorem GAcc.freeze {H0 B0 B : AH} {L : List (Nat × Blk)} {H : AH} {v : Value} {n : Nat} {cs : List Value} (h : GAcc e sz H0 B0 B L H v n cs) : ∃ B', MoC B B' ∧ ScN B' v n sz cs ∧ St H0 B0 B' L H := by
  rcases h with ⟨rfl, rfl, hv, hS⟩ | ⟨hn, hcl, b, kd, cap, rfl, hk, hS⟩
  · refine ⟨B, ⟨Mo.refl B⟩, ?_, hS⟩
    rcases hv with rfl | ⟨b, off, rfl⟩
    · exact ScN.nil
    · exact .inr ⟨b, off, 0, rfl, Nat.le_refl _, by simp, .inl rfl⟩
  · obtain ⟨B', h1, h2, h3⟩ := hS.freeze
    refine ⟨B', ⟨h1⟩, .inr ⟨b, 0, cap, rfl, by rcases hk with ⟨_, _, h⟩ | ⟨_, h⟩ <;> omega, hcl, .inr ⟨_, h2, ?_⟩⟩, h3⟩
    unfold rdN
    rw [if_pos (by simp only; omega), List.drop_zero, List.take_of_length_le (by simp only; omega)]
/-- A call beside it. -/
theorem GAcc.mo {H0 B0 B : AH} {L : List (Nat × Blk)} {H : AH} {v : Value} {n : Nat} {cs : List Value} (h : GAcc e sz H0 B0 B L H v n cs) {r : Value × AH} {Post : AH → Value → Prop} (ha : An B H Post r) : ∃ B', MoC B B' ∧ GAcc e sz H0 B0 B' L r.2 v n cs ∧ Post B' r.1 := by
  rcases h with ⟨h1, h2, hv, hS⟩ | ⟨hn, hcl, b, kd, cap, h1, hk, hS⟩
  · obtain ⟨B', q1, q2, q3⟩ := hS.call ha
    exact ⟨B', ⟨q1⟩, .inl ⟨h1, h2, hv, q2⟩, q3⟩
  · obtain ⟨B', q1, q2, q3⟩ := hS.call ha
    exact ⟨B', ⟨q1⟩, .inr ⟨hn, hcl, b, kd, cap, h1, hk, q2⟩, q3⟩
theorem GAcc.call {H0 B0 B : AH} {L : List (Nat × Blk)} {H : AH} {v : Value} {n : Nat} {cs : List Value} {g : Nat → Nat → Option (Value × AH)} {Post : AH → Value → Prop} {f : Nat → Nat → Value → AH → Option R} {Q : R → Prop} (h : GAcc e sz H0 B0 B L H v n cs)
    (hc : Le B H → Ev g (An B H Post)) (hk : ∀ w B' H', MoC B B' → GAcc e sz H0 B0 B' L H' v n cs → Post B' w → Ev (fun k n => f k n w H') Q) : Ev (fun k n => Go.AM.b2 (g k n) (f k n)) Q :=
  Ev.b2 (hc h.st.lel) fun w H' ha => by
    obtain ⟨B', q1, q2, q3⟩ := h.mo ha
    exact hk w B' H' q1 q2 q3
/-- Its blocks, as any others; and back again. -/
theorem GAcc.split {H0 B0 B : AH} {L : List (Nat × Blk)} {H : AH} {v : Value} {n : Nat} {cs : List Value} (h : GAcc e sz H0 B0 B L H v n cs) :
    ∃ Lx, St H0 B0 B Lx H ∧ (∀ B' H', St H0 B0 B' Lx H' → GAcc e sz H0 B0 B' L H' v n cs) ∧ ∀ p ∈ L, p ∈ Lx := by
  rcases h with ⟨h1, h2, hv, hS⟩ | ⟨hne, hcl, b2, kd, cap, hv, hkc, hS⟩
  · exact ⟨L, hS, fun B' H' hS' => .inl ⟨h1, h2, hv, hS'⟩, fun p hp => hp⟩
  · exact ⟨_, hS, fun B' H' hS' => .inr ⟨hne, hcl, b2, kd, cap, hv, hkc, hS'⟩, fun p hp => .tail _ hp⟩
/-- A store beside it. -/
theorem GAcc.stC {t' e' : TypeId} {H0 B0 B : AH} {L L' : List (Nat × Blk)} {H : AH} {v : Value} {n : Nat} {cs : List Value} {b off : Nat} {cs0 cs1 : List Value} {w : Value} {f : Nat → Nat → AH → Option R} {Q : R → Prop} (h : GAcc e sz H0 B0 B L H v n cs) [hm : InL b ⟨cs0, e', .fix⟩ L] [hs : PrimEq (stK P t' cs0 off w) cs1]
    [hu : UpL b ⟨cs0, e', .fix⟩ ⟨cs1, e', .fix⟩ L L'] (hk : ∀ H', GAcc e sz H0 B0 B L' H' v n cs → Ev (fun k n => f k n H') Q) : Ev (fun k n => (Go.AM.st P t' H (ptr b off) w).bind (f k n)) Q := by
  rcases h with ⟨h1, h2, hv, hS⟩ | ⟨hne, hcl, b2, kd, cap, hv, hkc, hS⟩
  · exact Ev.st hS hm.mem hs.eq (fun h => by cases h) hu.upd fun H' hS' => hk H' (.inl ⟨h1, h2, hv, hS'⟩)
  · exact Ev.st hS (.tail _ hm.mem) hs.eq (fun h => by cases h) (.tail _ hu.upd) fun H' hS' => hk H' (.inr ⟨hne, hcl, b2, kd, cap, hv, hkc, hS'⟩)
end
end Go.AM
namespace Go.AM
/-- The digits, as bytes, the greatest first. -/
def dg (n : Nat) : List Nat := if _h : n = 0 then [] else dg (n / 10) ++ [48 + n % 10]
termination_by n
decreasing_by omega
theorem dg_zero : dg 0 = [] := by unfold dg; rfl
theorem dg_pos {n : Nat} (h : n ≠ 0) : dg n = dg (n / 10) ++ [48 + n % 10] := by
  conv => lhs; unfold dg
  rw [dif_neg h]
/-- So many digits, with noughts ahead. -/
def ldg (n : Nat) : Nat → List Nat
  | 0 => []
  | k + 1 => ldg (n / 10) k ++ [48 + n % 10]
theorem ldg_length (n k : Nat) : (ldg n k).length = k := by
  induction k generalizing n with
  | zero => rfl
  | succ k ih => rw [ldg, List.length_append, ih]; rfl
theorem ldg_cons (n k : Nat) : ldg n (k + 1) = (48 + n / 10 ^ k % 10) :: ldg n k := by
  induction k generalizing n with
  | zero => simp [ldg]
  | succ k ih =>
    rw [ldg, ih (n / 10), ldg, Nat.div_div_eq_div_mul, List.cons_append]
    rw [show 10 * 10 ^ k = 10 ^ (k + 1) by rw [Nat.pow_succ, Nat.mul_comm]]
theorem dg_ldg {q : Nat} (hq : q ≠ 0) : ∀ (k r : Nat), r < 10 ^ k → dg (q * 10 ^ k + r) = dg q ++ ldg r k := by
  intro k
  induction k with
  | zero => intro r hr; rw [Nat.pow_zero] at hr; rw [Nat.pow_zero, Nat.mul_one, show r = 0 by omega]; simp [ldg]
  | succ k ih =>
    intro r hr
    have hp : 0 < 10 ^ k := Nat.pow_pos (by decide)
    have e0 : q * 10 ^ (k + 1) = q * 10 ^ k * 10 := by rw [Nat.pow_succ, Nat.mul_assoc]
    have hqp : 0 < q * 10 ^ k := Nat.mul_pos (Nat.pos_of_ne_zero hq) hp
    rw [Nat.pow_succ] at hr
    rw [e0]
    generalize hz : q * 10 ^ k = z at *
    rw [dg_pos (by omega), show (z * 10 + r) / 10 = z + r / 10 by omega, show (z * 10 + r) % 10 = r % 10 by omega, ih (r / 10) (by omega), ldg, List.append_assoc]
theorem ldg_dg : ∀ (k d : Nat), d < 10 ^ k → ∃ j, ldg d k = List.replicate j 48 ++ dg d := by
  intro k
  induction k with
  | zero => intro d hd; rw [Nat.pow_zero] at hd; exact ⟨0, by rw [show d = 0 by omega, dg_zero]; rfl⟩
  | succ k ih =>
    intro d hd
    rw [Nat.pow_succ] at hd
    obtain ⟨j, hj⟩ := ih (d / 10) (by omega)
    by_cases h : d = 0
    · subst h
      refine ⟨j + 1, ?_⟩
      rw [ldg, hj, show 0 / 10 = 0 from rfl, dg_zero, List.append_nil, List.append_nil, List.replicate_succ']
    · exact ⟨j, by rw [ldg, hj, dg_pos h, List.append_assoc]⟩
theorem dg_head : ∀ n : Nat, (dg n).head? ≠ some 48 := by
  intro n
  induction n using Nat.strongRecOn with
  | _ n ih =>
    by_cases h : n = 0
    · subst h; rw [dg_zero]; simp
    · rw [dg_pos h]
      by_cases h10 : n / 10 = 0
      · rw [h10, dg_zero]
        simp
        omega
      · have := ih (n / 10) (by omega)
        cases hd : dg (n / 10) with
        | nil => rw [dg_pos h10] at hd; simp at hd
        | cons a l => rw [hd] at this; simpa using this
theorem dropWhile_rep {l : List Nat} {c : Nat} (h : l.head? ≠ some c) (j : Nat) : (List.replicate j c ++ l).dropWhile (· == c) = l := by
  induction j with
  | zero =>
    cases l with
    | nil => rfl
    | cons a l =>
      have : (a == c) = false := by simpa using h
      simp [this]
  | succ j ih => rw [List.replicate_succ, List.cons_append, List.dropWhile_cons]; simp only [beq_self_eq_true, if_true]; exact ih
/-- By nine digits each, the least first. -/
def chk (n : Nat) : List (List Nat) := if _h : n = 0 then [] else ldg (n % 1000000000) 9 :: chk (n / 1000000000)
termination_by n
decreasing_by omega
theorem chk_zero : chk 0 = [] := by unfold chk; rfl
theorem chk_pos {n : Nat} (h : n ≠ 0) : chk n = ldg (n % 1000000000) 9 :: chk (n / 1000000000) := by
  conv => lhs; unfold chk
  rw [dif_neg h]
theorem chk_flat : ∀ n : Nat, ∃ j, (chk n).reverse.flatten = List.replicate j 48 ++ dg n := by
  intro n
  induction n using Nat.strongRecOn with
  | _ n ih =>
    by_cases h : n = 0
    · subst h; exact ⟨0, by rw [chk_zero, dg_zero]; rfl⟩
    · rw [chk_pos h, List.reverse_cons, List.flatten_append, List.flatten_singleton]
      have hr : n % 1000000000 < 10 ^ 9 := by omega
      by_cases hq : n / 1000000000 = 0
      · obtain ⟨j, hj⟩ := ldg_dg 9 (n % 1000000000) hr
        refine ⟨j, ?_⟩
        rw [hq, chk_zero, hj, show n % 1000000000 = n by omega]; rfl
      · obtain ⟨j, hj⟩ := ih (n / 1000000000) (by omega)
        refine ⟨j, ?_⟩
        have := dg_ldg hq 9 (n % 1000000000) hr
        rw [show n / 1000000000 * 10 ^ 9 + n % 1000000000 = n by omega] at this
        rw [hj, this, List.append_assoc]
theorem chk_trim (n : Nat) : (chk n).reverse.flatten.dropWhile (· == 48) = dg n := by
  obtain ⟨j, hj⟩ := chk_flat n
  rw [hj, dropWhile_rep (dg_head n)]
theorem chk_len : ∀ (k n : Nat), n < 1000000000 ^ k → (chk n).length ≤ k := by
  intro k
  induction k with
  | zero => intro n hn; rw [Nat.pow_zero] at hn; rw [show n = 0 by omega, chk_zero]; simp
  | succ k ih =>
    intro n hn
    by_cases h : n = 0
    · subst h; rw [chk_zero]; simp
    · rw [chk_pos h, List.length_cons]
      have := ih (n / 1000000000) (by rw [Nat.pow_succ] at hn; exact Nat.div_lt_of_lt_mul (by rw [Nat.mul_comm]; exact hn))
      omega
theorem chk_all {n : Nat} : ∀ l ∈ chk n, l.length = 9 := by
  induction n using Nat.strongRecOn with
  | _ n ih =>
    by_cases h : n = 0
    · subst h; rw [chk_zero]; simp
    · rw [chk_pos h]
      intro l hl
      rcases List.mem_cons.mp hl with rfl | hl
      · exact ldg_length _ _
      · exact ih _ (by omega) l hl
theorem dg_byte {n : Nat} : ∀ d ∈ dg n, 48 ≤ d ∧ d < 58 := by
  induction n using Nat.strongRecOn with
  | _ n ih =>
    by_cases h : n = 0
    · subst h; rw [dg_zero]; simp
    · rw [dg_pos h]
      intro d hd
      rcases List.mem_append.mp hd with hd | hd
      · exact ih _ (by omega) d hd
      · simp at hd; omega
theorem ldg_byte {k : Nat} : ∀ n : Nat, ∀ d ∈ ldg n k, 48 ≤ d ∧ d < 58 := by
  induction k with
  | zero => intro n d hd; simp [ldg] at hd
  | succ k ih =>
    intro n d hd
    rw [ldg] at hd
    rcases List.mem_append.mp hd with hd | hd
    · exact ih _ d hd
    · simp at hd; omega
/-- A number's text. -/
def txt (n : Nat) : List Nat := if n = 0 then [48] else dg n
end Go.AM
set_option linter.unusedVariables false
set_option linter.unusedSimpArgs false
set_option maxRecDepth 100000
namespace Go.AM.Z
open Go Go.AM Go.Proofs
attribute [local irreducible] run bin un ld st box newV mkS fldA fld ixA ix slc slc3 build buildS cv cvS ap cpy lenV gOp pickV b2 aIf aChk evalK resume iterD Option.bind

theorem trimB_loop {H : AH} {c : Nat} (hc : c < 256) : ∀ (l : List UInt8), l.length ≤ 9223372036854775807 →
    Ev (fun k n => f81_L0 k (str l) (u8 c) n H) (fun o => o = (.exit 0, f81_X_L0 (str (l.dropWhile fun b => b.toNat == c)), H)) := by
  intro l
  induction l with
  | nil =>
    intro _
    refine Ev.succ (fun k n => f81_L0_succ k _ _ n H) ?_
    repeat (first | refine Ev.s ?_ | refine Ev.newC fun _ _ _ => ?_ | refine Ev.boxC fun _ _ _ => ?_ | refine Ev.stC fun _ _ => ?_ | refine Ev.sc (by omega) ?_ | refine Ev.scg (by omega) ?_)
    rw [decide_eq_false (show ¬ 0 < ([] : List UInt8).length by simp)]
    repeat (first | refine Ev.s ?_ | refine Ev.newC fun _ _ _ => ?_ | refine Ev.boxC fun _ _ _ => ?_ | refine Ev.stC fun _ _ => ?_ | refine Ev.sc (by omega) ?_ | refine Ev.scg (by omega) ?_)
    exact Ev.ret rfl
  | cons a l ih =>
    intro hl
    refine Ev.succ (fun k n => f81_L0_succ k _ _ n H) ?_
    repeat (first | refine Ev.s ?_ | refine Ev.newC fun _ _ _ => ?_ | refine Ev.boxC fun _ _ _ => ?_ | refine Ev.stC fun _ _ => ?_ | refine Ev.sc (by omega) ?_ | refine Ev.scg (by omega) ?_)
    rw [decide_eq_true (show 0 < (a :: l).length by simp)]
    repeat (first | refine Ev.s ?_ | refine Ev.newC fun _ _ _ => ?_ | refine Ev.boxC fun _ _ _ => ?_ | refine Ev.stC fun _ _ => ?_ | refine Ev.sc (by omega) ?_ | refine Ev.scg (by omega) ?_)
    refine Ev.gPrim (ix_str 0 rfl (by simp)) rfl ?_
    rw [List.getD_cons_zero]
    repeat (first | refine Ev.s ?_ | refine Ev.newC fun _ _ _ => ?_ | refine Ev.boxC fun _ _ _ => ?_ | refine Ev.stC fun _ _ => ?_ | refine Ev.sc (by omega) ?_ | refine Ev.scg (by omega) ?_)
    by_cases h : a.toNat = c
    · rw [decide_eq_true h]
      repeat (first | refine Ev.s ?_ | refine Ev.newC fun _ _ _ => ?_ | refine Ev.boxC fun _ _ _ => ?_ | refine Ev.stC fun _ _ => ?_ | refine Ev.sc (by omega) ?_ | refine Ev.scg (by omega) ?_)
      refine Ev.prim (slc_str 1 rfl (by simp)) ?_
      rw [List.drop_succ_cons, List.drop_zero, List.dropWhile_cons]
      rw [show (a.toNat == c) = true by simpa using h]
      simp only [if_true]
      exact ih (by simp at hl; omega)
    · rw [decide_eq_false h]
      repeat (first | refine Ev.s ?_ | refine Ev.newC fun _ _ _ => ?_ | refine Ev.boxC fun _ _ _ => ?_ | refine Ev.stC fun _ _ => ?_ | refine Ev.sc (by omega) ?_ | refine Ev.scg (by omega) ?_)
      rw [List.dropWhile_cons, show (a.toNat == c) = false by simpa using h]
      exact Ev.ret rfl
theorem trimB_spec {H : AH} {c : Nat} {l : List UInt8} (hc : c < 256) (hl : l.length ≤ 9223372036854775807) :
    Ev (fun k _ => rn k 81 [str l, u8 c] H) (fun r => r = (str (l.dropWhile fun b => b.toNat == c), H)) := by
  refine Ev.fn (fun k => f81_eq k _ _ H) ?_
  refine Ev.bind (Ev.loop (trimB_loop hc l hl)) ?_
  rintro _ rfl
  refine Ev.eq (fun k _ => f81_A0_x0 k _ _) ?_
  exact Ev.ret rfl
theorem trimL_spec {H : AH} {c : UInt8} {l : List UInt8} (hc : c.toNat < 128) (hl : l.length ≤ 9223372036854775807) :
    Ev (fun k _ => rn k 64 [str l, str [c]] H) (fun r => r = (str (l.dropWhile fun b => b.toNat == c.toNat), H)) := by
  refine Ev.fn (fun k => f64_eq k _ _ H) ?_
  have e0 : (.string ⟨#[]⟩ : Value) = str [] := rfl
  rw [e0]
  repeat (first | refine Ev.s ?_ | refine Ev.newC fun _ _ _ => ?_ | refine Ev.boxC fun _ _ _ => ?_ | refine Ev.stC fun _ _ => ?_ | refine Ev.sc (by omega) ?_ | refine Ev.scg (by omega) ?_)
  by_cases h : l = []
  · rw [decide_eq_true h]
    subst h
    repeat (first | refine Ev.s ?_ | refine Ev.newC fun _ _ _ => ?_ | refine Ev.boxC fun _ _ _ => ?_ | refine Ev.stC fun _ _ => ?_ | refine Ev.sc (by omega) ?_ | refine Ev.scg (by omega) ?_)
    exact Ev.ret rfl
  · rw [decide_eq_false h]
    repeat (first | refine Ev.s ?_ | refine Ev.newC fun _ _ _ => ?_ | refine Ev.boxC fun _ _ _ => ?_ | refine Ev.stC fun _ _ => ?_ | refine Ev.sc (by omega) ?_ | refine Ev.scg (by omega) ?_)
    rw [decide_eq_false (show ¬ [c] = [] by simp)]
    repeat (first | refine Ev.s ?_ | refine Ev.newC fun _ _ _ => ?_ | refine Ev.boxC fun _ _ _ => ?_ | refine Ev.stC fun _ _ => ?_ | refine Ev.sc (by omega) ?_ | refine Ev.scg (by omega) ?_)
    have hix : ix Tryd.prog 9 (str [c]) (.int .i64 0) = some (u8 c.toNat) := ix_str 0 rfl (by simp)
    refine Ev.gPrim hix rfl ?_
    repeat (first | refine Ev.s ?_ | refine Ev.newC fun _ _ _ => ?_ | refine Ev.boxC fun _ _ _ => ?_ | refine Ev.stC fun _ _ => ?_ | refine Ev.sc (by omega) ?_ | refine Ev.scg (by omega) ?_)
    rw [decide_eq_true hc]
    repeat (first | refine Ev.s ?_ | refine Ev.newC fun _ _ _ => ?_ | refine Ev.boxC fun _ _ _ => ?_ | refine Ev.stC fun _ _ => ?_ | refine Ev.sc (by omega) ?_ | refine Ev.scg (by omega) ?_)
    refine Ev.prim hix ?_
    refine Ev.callP (trimB_spec (by omega) hl) ?_
    exact Ev.ret rfl
/-- Turned round so far. -/
def RevAt (cs : List Value) (i : Nat) (c : List Value) : Prop := c.length = cs.length ∧ ∀ t, t < cs.length → c[t]? = if t < i ∨ cs.length - i ≤ t then cs[cs.length - 1 - t]? else cs[t]?
theorem rev_loop {H0 B0 B : AH} {L : List (Nat × Blk)} {b cap : Nat} {e : TypeId} {kd : BK} {cs : List Value} (hE : Elt Tryd.prog 78 9 (.string ByteArray.empty) 16) (hk : kd ≠ .ro) (he : e = 9) (hcs : ∀ v ∈ cs, isCell v = true) (hn : cs.length < 1152921504606846976) :
    ∀ (m i : Nat) (c : List Value) (H : AH), 2 * i + m = cs.length → RevAt cs i c → St H0 B0 B ((b, ⟨c, e, kd⟩) :: L) H →
    Ev (fun k n => f63_L0 k (sl b 0 cs.length cap) (i64 i) (.int .i64 ((cs.length : Int) - 1 - i)) n H) (fun o => ∃ H', o = (.exit 0, f63_X_L0, H') ∧ St H0 B0 B ((b, ⟨cs.reverse, e, kd⟩) :: L) H') := by
  subst he
  have fin : ∀ (i : Nat) (c : List Value), RevAt cs i c → cs.length ≤ 2 * i + 1 → 2 * i ≤ cs.length → c = cs.reverse := by
    intro i c ⟨h1, h2⟩ h3 h4
    apply List.ext_getElem?
    intro t
    by_cases ht : t < cs.length
    · rw [h2 t ht, List.getElem?_reverse ht]
      by_cases hc : t < i ∨ cs.length - i ≤ t
      · rw [if_pos hc]
      · rw [if_neg hc]
        congr 1; omega
    · rw [List.getElem?_eq_none (by omega), List.getElem?_eq_none (by rw [List.length_reverse]; omega)]
  intro m
  induction m using Nat.strongRecOn with
  | _ m ih =>
    intro i c H hi hc hS
    refine Ev.succ (fun k n => f63_L0_succ k _ _ _ n H) ?_
    by_cases hm : m ≤ 1
    · repeat (first | refine Ev.s ?_ | refine Ev.newC fun _ _ _ => ?_ | refine Ev.boxC fun _ _ _ => ?_ | refine Ev.stC fun _ _ => ?_ | refine Ev.sc (by omega) ?_ | refine Ev.scg (by omega) ?_)
      rw [decide_eq_false (show ¬ ((i : Nat) : Int) < (cs.length : Int) - 1 - i by omega)]
      repeat (first | refine Ev.s ?_ | refine Ev.newC fun _ _ _ => ?_ | refine Ev.boxC fun _ _ _ => ?_ | refine Ev.stC fun _ _ => ?_ | refine Ev.sc (by omega) ?_ | refine Ev.scg (by omega) ?_)
      have := fin i c hc (by omega) (by omega)
      subst this
      exact Ev.ret ⟨H, rfl, hS⟩
    · repeat (first | refine Ev.s ?_ | refine Ev.newC fun _ _ _ => ?_ | refine Ev.boxC fun _ _ _ => ?_ | refine Ev.stC fun _ _ => ?_ | refine Ev.sc (by omega) ?_ | refine Ev.scg (by omega) ?_)
      rw [decide_eq_true (show ((i : Nat) : Int) < (cs.length : Int) - 1 - i by omega)]
      have hj : (cs.length : Int) - 1 - i = ((cs.length - 1 - i : Nat) : Int) := by omega
      rw [hj]
      generalize hjj : cs.length - 1 - i = j at *
      have h1 : i < c.length := by rw [hc.1]; omega
      have h2 : j < c.length := by rw [hc.1]; omega
      have xi : c[i]? = cs[i]? := by rw [hc.2 i (by omega), if_neg (by omega)]
      have xj : c[j]? = cs[j]? := by rw [hc.2 j (by omega), if_neg (by omega)]
      obtain ⟨vi, hvi⟩ : ∃ v, cs[i]? = some v := ⟨_, List.getElem?_eq_getElem (by omega)⟩
      obtain ⟨vj, hvj⟩ : ∃ v, cs[j]? = some v := ⟨_, List.getElem?_eq_getElem (by omega)⟩
      refine Ev.tt ?_
      refine Ev.prim (ixA_own hE (by omega)) ?_
      rw [Nat.zero_add]
      refine Ev.ld hS (.head _) ((ldK_own hE).trans (xj.trans hvj)) ?_
      refine Ev.prim (ixA_own hE (by omega)) ?_
      rw [Nat.zero_add]
      refine Ev.ld hS (.head _) ((ldK_own hE).trans (xi.trans hvi)) ?_
      refine Ev.prim (ixA_own hE (by omega)) ?_
      rw [Nat.zero_add]
      refine Ev.st hS (.head _) (stK_own hE h1 (hcs vj (List.mem_of_getElem? hvj))) hk (.head _) fun H1 hS1 => ?_
      refine Ev.prim (ixA_own hE (by omega)) ?_
      rw [Nat.zero_add]
      refine Ev.st hS1 (.head _) (stK_own hE (by rw [List.length_set]; exact h2) (hcs vi (List.mem_of_getElem? hvi))) hk (.head _) fun H2 hS2 => ?_
      clear hS hS1
      repeat (first | refine Ev.s ?_ | refine Ev.newC fun _ _ _ => ?_ | refine Ev.boxC fun _ _ _ => ?_ | refine Ev.stC fun _ _ => ?_ | refine Ev.sc (by omega) ?_ | refine Ev.scg (by omega) ?_)
      have e9 : i64 (j - 1) = .int .i64 ((cs.length : Int) - 1 - ((i + 1 : Nat) : Int)) := int_eq (by omega)
      rw [e9]
      refine ih (m - 2) (by omega) (i + 1) ((c.set i vj).set j vi) H2 (by omega) ⟨by rw [List.length_set, List.length_set]; exact hc.1, fun t ht => ?_⟩ hS2
      rw [List.getElem?_set]
      by_cases htj : j = t
      · subst htj
        rw [if_pos rfl, if_pos (by rw [List.length_set]; exact h2), if_pos (by omega), show cs.length - 1 - j = i by omega, hvi]
      · rw [if_neg htj, List.getElem?_set]
        by_cases hti : i = t
        · subst hti
          rw [if_pos rfl, if_pos h1, if_pos (by omega), hjj, hvj]
        · rw [if_neg hti, hc.2 t ht]
          by_cases hcc : t < i ∨ cs.length - i ≤ t
          · rw [if_pos hcc, if_pos (by omega)]
          · rw [if_neg hcc, if_neg (by omega)]
theorem rev_spec {H0 B0 B H : AH} {L : List (Nat × Blk)} {b cap : Nat} {kd : BK} {cs : List Value} (hk : kd ≠ .ro) (hcs : ∀ v ∈ cs, isCell v = true) (hn : cs.length < 1152921504606846976) (hS : St H0 B0 B ((b, ⟨cs, 9, kd⟩) :: L) H) :
    Ev (fun k _ => rn k 63 [sl b 0 cs.length cap] H) (AnS H0 B0 B ((b, ⟨cs.reverse, 9, kd⟩) :: L) fun _ v => v = .tuple #[]) := by
  refine Ev.fn (fun k => f63_eq k _ H) ?_
  refine Ev.prim (lenV_sl (by exact Tryd.underlying78)) ?_
  refine Ev.prim (bin_sub64 (by omega)) ?_
  have h := rev_loop (cap := cap) (L := L) inferInstance hk rfl hcs hn cs.length 0 cs H (by omega) ⟨rfl, fun t ht => by rw [if_neg (by omega)]⟩ hS
  rw [show (cs.length : Int) - 1 - ((0 : Nat) : Int) = (cs.length : Int) - 1 by omega] at h
  refine Ev.bind (Ev.loop h) ?_
  rintro _ ⟨H', rfl, hS'⟩
  refine Ev.eq (fun k _ => f63_A0_x0 k H') ?_
  exact Ev.doneS (Mo.refl B) rfl
end Go.AM.Z
set_option linter.unusedVariables false
set_option linter.unusedSimpArgs false
set_option maxRecDepth 100000
namespace Go.AM.Z
open Go Go.AM Go.Proofs
attribute [local irreducible] run bin un ld st box newV mkS fldA fld ixA ix slc slc3 build buildS cv cvS ap cpy lenV gOp pickV b2 aIf aChk evalK resume iterD Option.bind

theorem grow_eq (k : Nat) (a0 a1 : Value) (H : AH) : rn (k + 1) 85 [a0, a1] H = gGrow Tryd.prog BldT 5 [a0, a1] H := by kernel_rfl
theorem Grow_spec {H0 B0 B H : AH} {L : List (Nat × Blk)} {p n : Nat} {rest : List Value} {T : TypeId} (hT : T ∈ BldT) (hl : rest.length + 2 = szT Tryd.prog T) (hn0 : 0 < n) (hn : n ≤ 140737488355328) (hS : St H0 B0 B ((p, ⟨.pointer none :: .slice none 0 0 :: rest, T, .fix⟩) :: L) H) :
    Ev (fun k _ => rn k 85 [ptr p 0, i64 n] H) (fun r => r.1 = .tuple #[] ∧ ∃ b' B', MoC B B' ∧ BAcc 5 H0 B0 B' ((p, ⟨ptr p 0 :: sl b' 0 0 1 :: rest, T, .fix⟩) :: L) r.2 (sl b' 0 0 1) []) := by
  refine Ev.fn (fun k => grow_eq k _ _ H) ?_
  have hb := hS.get (.head _)
  obtain ⟨B', hm, hS'⟩ := hS.mkB [] 5 .grow
  have e : gGrow Tryd.prog BldT 5 [ptr p 0, i64 n] H = some (.tuple #[], put (mkB H [] 5 .grow) p ⟨.pointer none :: .slice none 0 0 :: rest, T, .fix⟩ (ptr p 0 :: sl H.length 0 0 1 :: rest)) := by
    show (blk H p).bind _ = _
    rw [hb]
    simp only [Option.bind_some]
    rw [if_pos ⟨⟨trivial, hT, by simpa using hl⟩, by omega, by omega⟩]
    rfl
  rw [e]
  exact Ev.ret ⟨rfl, H.length, B', ⟨hm⟩, .inr ⟨H.length, rfl, hS'.put (.tail _ (.head _))⟩⟩
theorem bld_size : ([] : List Value).length + 2 = szT Tryd.prog 100 := by
  have : szT Tryd.prog 100 = 2 := by kernel_rfl
  rw [this]; rfl
def tot (ls : List (List UInt8)) : Nat := ls.flatten.length
theorem tot_snoc (ls : List (List UInt8)) (l : List UInt8) : tot (ls ++ [l]) = tot ls + l.length := by simp [tot]
theorem take_snoc {α : Type} {l : List α} {i : Nat} {a : α} (h : l[i]? = some a) : l.take (i + 1) = l.take i ++ [a] := by rw [List.take_add_one, h]; rfl
theorem tot_take {ls : List (List UInt8)} (i : Nat) : tot (ls.take i) ≤ tot ls := by
  conv => rhs; rw [← List.take_append_drop i ls]
  unfold tot
  rw [List.flatten_append, List.length_append]; omega
theorem join_sum {H0 B0 B H : AH} {L : List (Nat × Blk)} [hS : St H0 B0 B L H] {v sep : Value} {ls : List (List UInt8)} (h : ScN B v ls.length 1 (ls.map str)) (ht : tot ls ≤ 140737488355328) (hll : ls.length < 1000000) :
    ∀ (m i : Nat), i + m = ls.length → Ev (fun k n => f65_L0 k v sep (i64 (tot (ls.take i))) v (i64 ls.length) (i64 i) n H) (fun o => o = (.exit 1, f65_X_L0 v sep (i64 (tot ls)), H)) := by
  intro m
  induction m with
  | zero =>
    intro i hi
    refine Ev.succ (fun k n => f65_L0_succ k _ _ _ _ _ _ n H) ?_
    repeat (first | refine Ev.s ?_ | refine Ev.newC fun _ _ _ => ?_ | refine Ev.boxC fun _ _ _ => ?_ | refine Ev.stC fun _ _ => ?_ | refine Ev.sc (by omega) ?_ | refine Ev.scg (by omega) ?_)
    rw [decide_eq_false (by omega)]
    repeat (first | refine Ev.s ?_ | refine Ev.newC fun _ _ _ => ?_ | refine Ev.boxC fun _ _ _ => ?_ | refine Ev.stC fun _ _ => ?_ | refine Ev.sc (by omega) ?_ | refine Ev.scg (by omega) ?_)
    rw [List.take_of_length_le (by omega)]
    exact Ev.ret rfl
  | succ m ih =>
    intro i hi
    refine Ev.succ (fun k n => f65_L0_succ k _ _ _ _ _ _ n H) ?_
    obtain ⟨l, hl⟩ : ∃ l, ls[i]? = some l := ⟨_, List.getElem?_eq_getElem (by omega)⟩
    have hs := tot_snoc (ls.take i) l
    rw [← take_snoc hl] at hs
    have ht2 := tot_take (ls := ls) (i + 1)
    repeat (first | refine Ev.s ?_ | refine Ev.newC fun _ _ _ => ?_ | refine Ev.boxC fun _ _ _ => ?_ | refine Ev.stC fun _ _ => ?_ | refine Ev.sc (by omega) ?_ | refine Ev.scg (by omega) ?_)
    rw [decide_eq_true (by omega)]
    repeat (first | refine Ev.s ?_ | refine Ev.newC fun _ _ _ => ?_ | refine Ev.boxC fun _ _ _ => ?_ | refine Ev.stC fun _ _ => ?_ | refine Ev.sc (by omega) ?_ | refine Ev.scg (by omega) ?_)
    refine Ev.ixN h i rfl (by omega) (by rw [List.getElem?_map, hl]; rfl) fun p hp => ?_
    repeat (first | refine Ev.s ?_ | refine Ev.newC fun _ _ _ => ?_ | refine Ev.boxC fun _ _ _ => ?_ | refine Ev.stC fun _ _ => ?_ | refine Ev.sc (by omega) ?_ | refine Ev.scg (by omega) ?_)
    rw [decide_eq_false (by omega)]
    refine Ev.s ?_
    refine Ev.eq (fun k n => f65_J2_eq k n _ _ _ _ _ _ _ H) ?_
    repeat (first | refine Ev.s ?_ | refine Ev.newC fun _ _ _ => ?_ | refine Ev.boxC fun _ _ _ => ?_ | refine Ev.stC fun _ _ => ?_ | refine Ev.sc (by omega) ?_ | refine Ev.scg (by omega) ?_)
    have := ih (i + 1) (by omega)
    rw [hs] at this
    exact this
theorem join_loop {H0 B0 : AH} {L : List (Nat × Blk)} {p : Nat} {w : Value} {ls : List (List UInt8)} {pre : List UInt8} (hll : ls.length < 1000000) :
    ∀ (m i : Nat) (B H : AH) (v : Value), i + m = ls.length → ScN B w ls.length 1 (ls.map str) → pre.length + tot ls ≤ 140737488355328 → BAcc 5 H0 B0 B ((p, ⟨[ptr p 0, v], 100, .fix⟩) :: L) H v (pre.map UInt8.toNat ++ (ls.take i).flatten.map UInt8.toNat) →
    Ev (fun k n => f65_L1 k (str []) (ptr p 0) w (i64 ls.length) (i64 i) n H) (fun o => ∃ H' B' v', o = (.exit 3, f65_X_L1 (ptr p 0), H') ∧ Mo B B' ∧ BAcc 5 H0 B0 B' ((p, ⟨[ptr p 0, v'], 100, .fix⟩) :: L) H' v' (pre.map UInt8.toNat ++ ls.flatten.map UInt8.toNat)) := by
  have hsz := bld_size
  intro m
  induction m with
  | zero =>
    intro i B H v hi h ht hA
    refine Ev.succ (fun k n => f65_L1_succ k _ _ _ _ _ n H) ?_
    repeat (first | refine Ev.s ?_ | refine Ev.newC fun _ _ _ => ?_ | refine Ev.boxC fun _ _ _ => ?_ | refine Ev.stC fun _ _ => ?_ | refine Ev.sc (by omega) ?_ | refine Ev.scg (by omega) ?_)
    rw [decide_eq_false (by omega)]
    repeat (first | refine Ev.s ?_ | refine Ev.newC fun _ _ _ => ?_ | refine Ev.boxC fun _ _ _ => ?_ | refine Ev.stC fun _ _ => ?_ | refine Ev.sc (by omega) ?_ | refine Ev.scg (by omega) ?_)
    rw [List.take_of_length_le (by omega)] at hA
    exact Ev.ret ⟨H, B, v, rfl, Mo.refl B, hA⟩
  | succ m ih =>
    intro i B H v hi h ht hA
    refine Ev.succ (fun k n => f65_L1_succ k _ _ _ _ _ n H) ?_
    obtain ⟨l, hl⟩ : ∃ l, ls[i]? = some l := ⟨_, List.getElem?_eq_getElem (by omega)⟩
    have hs := tot_snoc (ls.take i) l
    rw [← take_snoc hl] at hs
    have ht2 := tot_take (ls := ls) (i + 1)
    have hSt := hA.st
    repeat (first | refine Ev.s ?_ | refine Ev.newC fun _ _ _ => ?_ | refine Ev.boxC fun _ _ _ => ?_ | refine Ev.stC fun _ _ => ?_ | refine Ev.sc (by omega) ?_ | refine Ev.scg (by omega) ?_)
    rw [decide_eq_true (by omega)]
    repeat (first | refine Ev.s ?_ | refine Ev.newC fun _ _ _ => ?_ | refine Ev.boxC fun _ _ _ => ?_ | refine Ev.stC fun _ _ => ?_ | refine Ev.sc (by omega) ?_ | refine Ev.scg (by omega) ?_)
    refine Ev.ixN h i rfl (by omega) (by rw [List.getElem?_map, hl]; rfl) fun q hq => ?_
    repeat (first | refine Ev.s ?_ | refine Ev.newC fun _ _ _ => ?_ | refine Ev.boxC fun _ _ _ => ?_ | refine Ev.stC fun _ _ => ?_ | refine Ev.sc (by omega) ?_ | refine Ev.scg (by omega) ?_)
    have hlen : (pre.map UInt8.toNat ++ (ls.take i).flatten.map UInt8.toNat).length = pre.length + tot (ls.take i) := by rw [List.length_append, List.length_map, List.length_map]; rfl
    refine Ev.b2 (WriteString_spec (l := []) (T := 100) (rest := []) (.head _) hsz (.inr rfl) (by rw [hlen]; simp; omega) hA) fun v1 H1 h1 => ?_
    obtain ⟨_, v1', B1, hm1, hA1⟩ := h1
    simp only at hA1
    rw [List.map_nil, List.append_nil] at hA1
    refine Ev.b2 (WriteString_spec (l := l) (T := 100) (rest := []) (.head _) hsz (.inr rfl) (by rw [hlen]; omega) hA1) fun v2 H2 h2 => ?_
    obtain ⟨_, v2', B2, hm2, hA2⟩ := h2
    simp only at hA2
    clear hSt hA hA1
    repeat (first | refine Ev.s ?_ | refine Ev.newC fun _ _ _ => ?_ | refine Ev.boxC fun _ _ _ => ?_ | refine Ev.stC fun _ _ => ?_ | refine Ev.sc (by omega) ?_ | refine Ev.scg (by omega) ?_)
    rw [List.append_assoc, ← List.map_append] at hA2
    have e : (ls.take i).flatten ++ l = (ls.take (i + 1)).flatten := by rw [take_snoc hl]; simp
    rw [e] at hA2
    refine (ih (i + 1) B2 H2 v2' (by omega) ((h.mono hm1.mo).mono hm2.mo) ht hA2).mono ?_
    rintro o ⟨H', B', v', q1, q2, q3⟩
    exact ⟨H', B', v', q1, (hm1.mo.trans hm2.mo).trans q2, q3⟩
theorem ofNat_toNat (l : List UInt8) : (l.map UInt8.toNat).map (fun n => UInt8.ofNat n) = l := by
  rw [List.map_map]
  conv => rhs; rw [← List.map_id l]
  apply List.map_congr_left
  intro a _
  simp
theorem Join_spec {B H : AH} {v : Value} {ls : List (List UInt8)} (h : ScN B v ls.length 1 (ls.map str)) (hne : ∀ l ∈ ls, l ≠ []) (ht : tot ls ≤ 140737488355328) (hll : ls.length < 1000000) (hL : Le B H) :
    Ev (fun k _ => rn k 65 [v, str []] H) (An B H fun _ r => r = str ls.flatten) := by
  refine Ev.fn (fun k => f65_eq k _ _ H) ?_
  have hS := St.start hL
  have hlen := h.len (P := Tryd.prog) (t := 78) (by exact Tryd.underlying78)
  have hsz := bld_size
  refine Ev.prim hlen ?_
  repeat (first | refine Ev.s ?_ | refine Ev.newC fun _ _ _ => ?_ | refine Ev.boxC fun _ _ _ => ?_ | refine Ev.stC fun _ _ => ?_ | refine Ev.sc (by omega) ?_ | refine Ev.scg (by omega) ?_)
  match ls, h, hne, ht, hll, hlen with
  | [], h, hne, ht, hll, hlen =>
    rw [decide_eq_true (show ([] : List (List UInt8)).length = 0 from rfl)]
    repeat (first | refine Ev.s ?_ | refine Ev.newC fun _ _ _ => ?_ | refine Ev.boxC fun _ _ _ => ?_ | refine Ev.stC fun _ _ => ?_ | refine Ev.sc (by omega) ?_ | refine Ev.scg (by omega) ?_)
    exact Ev.doneC rfl
  | [l], h, hne, ht, hll, hlen =>
    rw [decide_eq_false (show ¬ [l].length = 0 by simp)]
    repeat (first | refine Ev.s ?_ | refine Ev.newC fun _ _ _ => ?_ | refine Ev.boxC fun _ _ _ => ?_ | refine Ev.stC fun _ _ => ?_ | refine Ev.sc (by omega) ?_ | refine Ev.scg (by omega) ?_)
    refine Ev.ixN h 0 rfl (by simp) rfl fun p hp => ?_
    repeat (first | refine Ev.s ?_ | refine Ev.newC fun _ _ _ => ?_ | refine Ev.boxC fun _ _ _ => ?_ | refine Ev.stC fun _ _ => ?_ | refine Ev.sc (by omega) ?_ | refine Ev.scg (by omega) ?_)
    exact Ev.doneC (by simp)
  | l :: l2 :: r, h, hne, ht, hll, hlen =>
    rw [decide_eq_false (show ¬ (l :: l2 :: r).length = 0 by simp)]
    repeat (first | refine Ev.s ?_ | refine Ev.newC fun _ _ _ => ?_ | refine Ev.boxC fun _ _ _ => ?_ | refine Ev.stC fun _ _ => ?_ | refine Ev.sc (by omega) ?_ | refine Ev.scg (by omega) ?_)
    rw [decide_eq_false (show ¬ (l :: l2 :: r).length = 1 by simp)]
    repeat (first | refine Ev.s ?_ | refine Ev.newC fun _ _ _ => ?_ | refine Ev.boxC fun _ _ _ => ?_ | refine Ev.stC fun _ _ => ?_ | refine Ev.sc (by omega) ?_ | refine Ev.scg (by omega) ?_)
    rw [decide_eq_false (show ¬ 0 < ([] : List UInt8).length by simp)]
    repeat (first | refine Ev.s ?_ | refine Ev.newC fun _ _ _ => ?_ | refine Ev.boxC fun _ _ _ => ?_ | refine Ev.stC fun _ _ => ?_ | refine Ev.sc (by omega) ?_ | refine Ev.scg (by omega) ?_)
    refine Ev.eq (fun k n => f65_J1_eq k _ _ _ H) ?_
    refine Ev.prim hlen ?_
    refine Ev.bind (Ev.loop (join_sum (sep := str []) h ht hll (l :: l2 :: r).length 0 (by omega))) ?_
    rintro _ rfl
    refine Ev.eq (fun k n => f65_A0_x1 k _ _ _ H) ?_
    have hl0 : l ≠ [] := hne l (by simp)
    have hl1 : l.length ≠ 0 := fun e => hl0 (List.length_eq_zero_iff.mp e)
    have htl : tot (l :: l2 :: r) = l.length + tot (l2 :: r) := by simp [tot]
    refine Ev.newC fun p H1 hS1 => ?_
    refine Ev.b2 (Grow_spec (n := tot (l :: l2 :: r)) (T := 100) (rest := []) (.head _) hsz (by omega) ht hS1) fun v2 H2 h2 => ?_
    obtain ⟨_, b2', B2, hm2, hA2⟩ := h2
    simp only at hA2
    have hSt2 := hA2.st
    have h2' := h.mono hm2.mo
    clear hS hS1
    refine Ev.ixN h2' 0 rfl (by simp) rfl fun q hq => ?_
    repeat (first | refine Ev.s ?_ | refine Ev.newC fun _ _ _ => ?_ | refine Ev.boxC fun _ _ _ => ?_ | refine Ev.stC fun _ _ => ?_ | refine Ev.sc (by omega) ?_ | refine Ev.scg (by omega) ?_)
    refine Ev.b2 (WriteString_spec (l := l) (T := 100) (rest := []) (.head _) hsz (.inr rfl) (by simp; omega) hA2) fun v3 H3 h3 => ?_
    obtain ⟨_, v3', B3, hm3, hA3⟩ := h3
    simp only at hA3
    clear hSt2 hA2
    have h3' := h2'.mono hm3.mo
    refine Ev.slcN (z := [.string ByteArray.empty]) (sz := 1) (by_ := 16) h3' 1 (l :: l2 :: r).length rfl rfl (by simp) (Nat.le_refl _) fun w hw => ?_
    have e1 : (l :: l2 :: r).length - 1 = (l2 :: r).length := rfl
    have e2 : (((l :: l2 :: r).map str).drop (1 * 1)).take (((l :: l2 :: r).length - 1) * 1) = (l2 :: r).map str := by
      rw [e1, Nat.mul_one, Nat.mul_one, List.map_cons, List.drop_succ_cons, List.drop_zero, List.take_of_length_le (by simp)]
    rw [e1] at hw
    rw [e1] at e2
    rw [e2] at hw
    refine Ev.prim (hw.len (P := Tryd.prog) (t := 78) (by exact Tryd.underlying78)) ?_
    have hA3' : BAcc 5 H B B3 [(p, ⟨[ptr p 0, v3'], 100, .fix⟩)] H3 v3' (l.map UInt8.toNat ++ ((l2 :: r).take 0).flatten.map UInt8.toNat) := by
      rw [List.take_zero, List.flatten_nil, List.map_nil, List.append_nil]
      rw [List.nil_append] at hA3
      exact hA3
    refine Ev.bind (Ev.loop (join_loop (pre := l) (by simp at hll ⊢; omega) (l2 :: r).length 0 B3 H3 v3' (by omega) hw (by omega) hA3')) ?_
    rintro _ ⟨H4, B4, v4, rfl, hm4, hA4⟩
    refine Ev.eq (fun k n => f65_A1_x3 k _ H4) ?_
    have hlen4 : (l.map UInt8.toNat ++ (l2 :: r).flatten.map UInt8.toNat).length = tot (l :: l2 :: r) := by rw [htl, List.length_append, List.length_map, List.length_map]; rfl
    refine Ev.b2 (String_spec (rest := []) (T := 100) (by rw [hlen4]; exact ht) (by simp [hl0]) hA4) fun v5 H5 h5 => ?_
    obtain ⟨h5, hS5⟩ := h5
    simp only at h5 hS5
    subst h5
    rw [← List.map_append, ofNat_toNat]
    exact Ev.doneC (by simp)
end Go.AM.Z
set_option linter.unusedVariables false
namespace Go.AM
variable {P : Program} {t : TypeId} {a n : Nat} {k : IntKind}
theorem lsubL (h : a ≤ @OfNat.ofNat Nat n (instOfNatNat n) ∧ @OfNat.ofNat Nat n (instOfNatNat n) < 9223372036854775808) : bin P .sub t (.int .i64 (@OfNat.ofNat Int n instOfNat)) (i64 a) = some (i64 (@OfNat.ofNat Nat n (instOfNatNat n) - a)) := subN h
theorem laddQ (h : @OfNat.ofNat Nat n (instOfNatNat n) + a < 18446744073709551616) : bin P .add t (.int .u64 (@OfNat.ofNat Int n instOfNat)) (u64 a) = some (u64 (@OfNat.ofNat Nat n (instOfNatNat n) + a)) := addQ h
theorem laddL (h : @OfNat.ofNat Nat n (instOfNatNat n) + a < 9223372036854775808) : bin P .add t (.int .i64 (@OfNat.ofNat Int n instOfNat)) (i64 a) = some (i64 (@OfNat.ofNat Nat n (instOfNatNat n) + a)) := addN h
instance (priority := 900) : PrimC (bin P .add t (.int .i64 (no_index (@OfNat.ofNat Int n instOfNat))) (i64 a)) (@OfNat.ofNat Nat n (instOfNatNat n) + a < 9223372036854775808) (i64 (@OfNat.ofNat Nat n (instOfNatNat n) + a)) := ⟨laddL⟩
theorem quoQL (h : @OfNat.ofNat Nat n (instOfNatNat n) ≠ 0 ∧ a < 18446744073709551616) : bin P .quo t (u64 a) (.int .u64 (@OfNat.ofNat Int n instOfNat)) = some (u64 (a / @OfNat.ofNat Nat n (instOfNatNat n))) := quoQ h
instance (priority := 900) : PrimC (bin P .sub t (.int .i64 (no_index (@OfNat.ofNat Int n instOfNat))) (i64 a)) (a ≤ @OfNat.ofNat Nat n (instOfNatNat n) ∧ @OfNat.ofNat Nat n (instOfNatNat n) < 9223372036854775808) (i64 (@OfNat.ofNat Nat n (instOfNatNat n) - a)) := ⟨lsubL⟩
instance (priority := 900) : PrimC (bin P .add t (.int .u64 (no_index (@OfNat.ofNat Int n instOfNat))) (u64 a)) (@OfNat.ofNat Nat n (instOfNatNat n) + a < 18446744073709551616) (u64 (@OfNat.ofNat Nat n (instOfNatNat n) + a)) := ⟨laddQ⟩
instance (priority := 900) : PrimC (bin P .quo t (u64 a) (.int .u64 (no_index (@OfNat.ofNat Int n instOfNat)))) (@OfNat.ofNat Nat n (instOfNatNat n) ≠ 0 ∧ a < 18446744073709551616) (u64 (a / @OfNat.ofNat Nat n (instOfNatNat n))) := ⟨quoQL⟩
end Go.AM
namespace Go.AM
variable {P : Program}
/-- Bytes that stand, as a string. -/
theorem ScN.cvS {t d e : TypeId} {H : AH} {v : Value} {n : Nat} {ds : List Nat} [h1 : Und P t (.slice e)] [h2 : Und P d .string] [h3 : Und P e (.int .u8)] (h : ScN H v n 1 (ds.map u8)) : cvS P t d H v = some (str (ds.map fun n => UInt8.ofNat n)) := by
  have hl := h.length
  rw [List.length_map, Nat.mul_one] at hl
  unfold AM.cvS
  rw [h1.eq, h2.eq]
  have hc := h.cells
  rcases h with ⟨rfl, hn, hcs⟩ | ⟨b, off, cap, rfl, hc', hl', hx⟩
  · have : ds = [] := by simpa using hcs
    subst this
    simp only [h3.eq, sliceCells]
    rfl
  · simp only [h3.eq, sl]
    have hc2 : sliceCells 1 H (.slice (some ⟨b, off, none⟩) n cap) n = some (ds.map u8) := hc
    rw [hc2, Option.bind_some, bytesOf_map]; rfl
end Go.AM
namespace Go.AM
variable {P : Program}
theorem neq_str {t : TypeId} {a b : List UInt8} : bin P .neq t (str a) (str b) = some (.bool (decide (a ≠ b))) := by
  have e : binOp .neq t (str a) (str b) = .pure (.bool (decide (a ≠ b))) := by
    show Op.stringOp .neq _ _ = _
    unfold Op.stringOp
    simp only [toList_str]
    show Sem.pure _ = _
    congr 2
    exact Bool.eq_iff_iff.mpr (by simp)
  unfold bin
  rw [if_pos ⟨rfl, rfl, rfl⟩, e]
  rfl
instance {t : TypeId} {a b : List UInt8} : PrimEq (bin P .neq t (str a) (str b)) (.bool (decide (a ≠ b))) := ⟨neq_str⟩
instance (priority := 2000) {t : TypeId} {a : List UInt8} : PrimEq (bin P .neq t (str a) (str a)) (.bool false) := ⟨by rw [neq_str, decide_eq_false (fun h => h rfl)]⟩
end Go.AM
set_option linter.unusedVariables false
set_option linter.unusedSimpArgs false
set_option maxRecDepth 100000
namespace Go.AM.Z
open Go Go.AM Go.Proofs
attribute [local irreducible] run bin un ld st box newV mkS fldA fld ixA ix slc slc3 build buildS cv cvS ap cpy lenV gOp pickV b2 aIf aChk evalK resume iterD Option.bind

abbrev strN (l : List Nat) : Value := str (l.map fun n => UInt8.ofNat n)
/-- Nine digits into a row. -/
theorem dig_loop {H0 B0 B : AH} {L : List (Nat × Blk)} {b : Nat} {x3 x4 x6 : Value} {d : Nat} (hd : d < 18446744073709551616) :
    ∀ (m i : Nat) (H : AH), i + m = 9 → St H0 B0 B ((b, ⟨(List.replicate m 0 ++ ldg d i).map u8, 5, .fix⟩) :: L) H →
    Ev (fun k n => f32_L1 k x3 x4 x6 (u64 (d / 10 ^ i)) (sl b 0 9 9) (i64 9) (i64 i) n H) (fun o => ∃ H', o = (.exit 2, f32_X_L1 x3 x4 x6 (sl b 0 9 9), H') ∧ St H0 B0 B ((b, ⟨(ldg d 9).map u8, 5, .fix⟩) :: L) H') := by
  have hEb : Elt Tryd.prog 76 5 (.int .u8 0) 1 := inferInstance
  intro m
  induction m with
  | zero =>
    intro i H hi hS
    refine Ev.succ (fun k n => f32_L1_succ k _ _ _ _ _ _ _ n H) ?_
    repeat (first | refine Ev.s ?_ | refine Ev.newC fun _ _ _ => ?_ | refine Ev.boxC fun _ _ _ => ?_ | refine Ev.stC fun _ _ => ?_ | refine Ev.sc (by omega) ?_ | refine Ev.scg (by omega) ?_)
    rw [decide_eq_false (by omega)]
    repeat (first | refine Ev.s ?_ | refine Ev.newC fun _ _ _ => ?_ | refine Ev.boxC fun _ _ _ => ?_ | refine Ev.stC fun _ _ => ?_ | refine Ev.sc (by omega) ?_ | refine Ev.scg (by omega) ?_)
    have e : i = 9 := by omega
    subst e
    exact Ev.ret ⟨H, rfl, hS⟩
  | succ m ih =>
    intro i H hi hS
    refine Ev.succ (fun k n => f32_L1_succ k _ _ _ _ _ _ _ n H) ?_
    have hlt : d / 10 ^ i ≤ d := Nat.div_le_self _ _
    generalize hq : d / 10 ^ i = q at *
    have hq2 : q / 10 = d / 10 ^ (i + 1) := by rw [← hq, Nat.div_div_eq_div_mul, Nat.pow_succ]
    refine Ev.prim lssN ?_
    rw [decide_eq_true (by omega)]
    refine Ev.s ?_
    refine Ev.prim (lsubL (by omega)) ?_
    refine Ev.prim (remL (by decide)) ?_
    refine Ev.prim (laddQ (by omega)) ?_
    refine Ev.s ?_
    refine Ev.prim (ixA_own hEb (by omega)) ?_
    rw [Nat.zero_add]
    have hlen : ((List.replicate (m + 1) 0 ++ ldg d i).map u8).length = 9 := by rw [List.length_map, List.length_append, List.length_replicate, ldg_length]; omega
    refine Ev.st hS (.head _) (stK_own hEb (by rw [hlen]; omega) rfl) (by intro h; cases h) (.head _) fun H1 hS1 => ?_
    clear hS
    refine Ev.prim (quoQL (by omega)) ?_
    rw [hq2]
    refine Ev.prim (addL (by omega)) ?_
    have e : (((List.replicate (m + 1) 0 ++ ldg d i).map u8).set (8 - i) (u8 ((48 + q % 10) % 256))) = (List.replicate m 0 ++ ldg d (i + 1)).map u8 := by
      rw [ldg_cons, hq, Nat.mod_eq_of_lt (by omega), show 8 - i = m by omega, ← List.map_set]
      congr 1
      rw [List.replicate_succ', List.append_assoc, List.set_append_right _ _ (by simp)]
      simp
    rw [e] at hS1
    exact ih (i + 1) H1 (by omega) hS1
end Go.AM.Z
set_option linter.unusedVariables false
set_option linter.unusedSimpArgs false
set_option maxRecDepth 100000
namespace Go.AM.Z
open Go Go.AM Go.Proofs
attribute [local irreducible] run bin un ld st box newV mkS fldA fld ixA ix slc slc3 build buildS cv cvS ap cpy lenV gOp pickV b2 aIf aChk evalK resume iterD Option.bind

theorem limbs_pos {m : Nat} : 0 < (limbs m).length ↔ m ≠ 0 := by rw [Nat.pos_iff_ne_zero, ne_eq, List.length_eq_zero_iff, limbs_eq_nil]
theorem text_loop {H0 B0 : AH} {L : List (Nat × Blk)} {x3 : Value} {M : Nat} (hM : M < 1000000000 ^ 50) :
    ∀ (m : Nat) (P : List (List Nat)) (v4 v5 : Value) (B H : AH), P ++ chk m = chk M → m < 1000000000 ^ 50 → RdN B v5 (limbs m) → GAcc 9 1 H0 B0 B L H v4 P.length (P.map strN) →
    Ev (fun k n => f32_L0 k x3 v4 v5 n H) (fun o => ∃ v' B' H', o = (.exit 0, f32_X_L0 x3 v', H') ∧ Mo B B' ∧ GAcc 9 1 H0 B0 B' L H' v' (chk M).length ((chk M).map strN)) := by
  have hML := chk_len 50 M hM
  intro m
  induction m using Nat.strongRecOn with
  | _ m ih =>
    intro P v4 v5 B H hP hm hr hA
    refine Ev.succ (fun k n => f32_L0_succ k _ _ _ n H) ?_
    obtain ⟨Lx, hSx, back, _⟩ := hA.split
    refine Ev.prim (hr.lenN Ew) ?_
    repeat (first | refine Ev.s ?_ | refine Ev.newC fun _ _ _ => ?_ | refine Ev.boxC fun _ _ _ => ?_ | refine Ev.stC fun _ _ => ?_ | refine Ev.sc (by omega) ?_ | refine Ev.scg (by omega) ?_)
    by_cases h0 : m = 0
    · subst h0
      rw [decide_eq_false (by rw [limbs_zero]; simp)]
      repeat (first | refine Ev.s ?_ | refine Ev.newC fun _ _ _ => ?_ | refine Ev.boxC fun _ _ _ => ?_ | refine Ev.stC fun _ _ => ?_ | refine Ev.sc (by omega) ?_ | refine Ev.scg (by omega) ?_)
      rw [chk_zero, List.append_nil] at hP
      subst hP
      exact Ev.ret ⟨v4, B, H, rfl, Mo.refl B, hA⟩
    · rw [decide_eq_true (limbs_pos.mpr h0)]
      have hlm : (limbs m).length ≤ 60 := limbs_length_le (Nat.lt_trans hm (by decide))
      have hl9 : (limbs 1000000000).length ≤ 1 := limbs_length_le (k := 1) (by decide)
      repeat (first | refine Ev.s ?_ | refine Ev.newC fun _ _ _ => ?_ | refine Ev.boxC fun _ _ _ => ?_ | refine Ev.stC fun _ _ => ?_ | refine Ev.sc (by omega) ?_ | refine Ev.scg (by omega) ?_)
      refine Ev.callD (From_spec (n := 1000000000) (by decide)) fun v14 B1 H1 hm1 hS1 h1 => ?_
      refine Ev.callD (DivMod_spec (xs := limbs m) (ys := limbs 1000000000) RdT.rd RdT.rd (by omega) (by omega) (by rw [val_limbs]; decide)) fun v15 B2 H2 hm2 hS2 h2 => ?_
      obtain ⟨q, r, rfl, hq, hrr⟩ := h2
      rw [val_limbs, val_limbs] at hq hrr
      have hlt : m % 1000000000 < 1000000000 := Nat.mod_lt _ (by decide)
      have hlr := limbs_length_mono (Nat.le_of_lt hlt)
      repeat (first | refine Ev.s ?_ | refine Ev.newC fun _ _ _ => ?_ | refine Ev.boxC fun _ _ _ => ?_ | refine Ev.stC fun _ _ => ?_ | refine Ev.sc (by omega) ?_ | refine Ev.scg (by omega) ?_)
      refine Ev.callU (Small_spec (xs := limbs (m % 1000000000)) (by omega) hrr (St.lel (by assumption))) ?_
      rintro _ rfl
      rw [val_limbs, if_pos (by omega)]
      repeat (first | refine Ev.s ?_ | refine Ev.newC fun _ _ _ => ?_ | refine Ev.boxC fun _ _ _ => ?_ | refine Ev.stC fun _ _ => ?_ | refine Ev.sc (by omega) ?_ | refine Ev.scg (by omega) ?_)
      refine Ev.mkS (z := .int .u8 0) (sz := 1) (m := 9) inferInstance hS2 (by decide) (by decide) fun bo B3 H3 hm3 hS3 => ?_
      have e0 : List.replicate 9 (Value.int .u8 0) = (List.replicate 9 0 ++ ldg (m % 1000000000) 0).map u8 := by
        rw [ldg, List.append_nil, List.map_replicate]; rfl
      rw [e0] at hS3
      repeat (first | refine Ev.s ?_ | refine Ev.newC fun _ _ _ => ?_ | refine Ev.boxC fun _ _ _ => ?_ | refine Ev.stC fun _ _ => ?_ | refine Ev.sc (by omega) ?_ | refine Ev.scg (by omega) ?_)
      have hd := dig_loop (x3 := x3) (x4 := v4) (x6 := q) (d := m % 1000000000) (by omega) 9 0 H3 rfl hS3
      rw [Nat.pow_zero, Nat.div_one] at hd
      refine Ev.bind (Ev.loop hd) ?_
      rintro _ ⟨H4, rfl, hS4⟩
      refine Ev.eq (fun k n => f32_A1_x2 k n _ _ _ _ H4) ?_
      refine Ev.prim (cvS_own (ds := ldg (m % 1000000000) 9) (rest := []) (by rw [List.append_nil]; exact hS4) (.head _) (ldg_length _ _).symm) ?_
      have hmo : Mo B B3 := (hm1.mo.trans hm2.mo).trans hm3
      have hA4 := back B3 H4 hS4.drop1
      have hPl : P.length + 1 ≤ 50 := by
        have := congrArg List.length hP
        rw [List.length_append, chk_pos h0, List.length_cons] at this
        omega
      refine hA4.push (z := [.string ByteArray.empty]) (by_ := 16) rfl rfl rfl rfl (by decide) (by omega) fun v5' B5 H5 hm5 hA5 => ?_
      have hq5 : RdN B5 q (limbs (m / 1000000000)) := (hq.mono hm3).mono hm5.mo
      have hP' : (P ++ [ldg (m % 1000000000) 9]) ++ chk (m / 1000000000) = chk M := by rw [← hP, chk_pos h0]; simp
      have hA5' : GAcc 9 1 H0 B0 B5 L H5 v5' (P ++ [ldg (m % 1000000000) 9]).length ((P ++ [ldg (m % 1000000000) 9]).map strN) := by
        rw [List.length_append, List.map_append]; exact hA5
      refine (ih (m / 1000000000) (by omega) _ v5' q B5 H5 hP' (Nat.lt_of_le_of_lt (Nat.div_le_self _ _) hm) hq5 hA5').mono ?_
      rintro o ⟨v', B', H', q1, q2, q3⟩
      exact ⟨v', B', H', q1, (hmo.trans hm5.mo).trans q2, q3⟩
def textN (z : Int) : List Nat := if z < 0 then 45 :: txt z.natAbs else txt z.natAbs
theorem dropU (l : List Nat) (h : ∀ d ∈ l, d < 256) : (l.map fun n => UInt8.ofNat n).dropWhile (fun b => b.toNat == 48) = (l.dropWhile (· == 48)).map fun n => UInt8.ofNat n := by
  induction l with
  | nil => rfl
  | cons a l ih =>
    have ha := h a (by simp)
    have ha2 : (UInt8.ofNat a).toNat = a := by rw [UInt8.toNat_ofNat']; omega
    rw [List.map_cons, List.dropWhile_cons, List.dropWhile_cons, ha2]
    by_cases hc : (a == 48) = true
    · rw [if_pos hc, if_pos hc]; exact ih fun d hd => h d (by simp [hd])
    · rw [if_neg hc, if_neg hc]; rfl
theorem chk_nil {n : Nat} (h : n ≠ 0) : chk n ≠ [] := by rw [chk_pos h]; simp
theorem chk_byte {n : Nat} : ∀ l ∈ chk n, ∀ d ∈ l, d < 256 := by
  induction n using Nat.strongRecOn with
  | _ n ih =>
    by_cases h : n = 0
    · subst h; rw [chk_zero]; simp
    · rw [chk_pos h]
      intro l hl d hd
      rcases List.mem_cons.mp hl with rfl | hl
      · have := ldg_byte _ d hd; omega
      · exact ih _ (by omega) l hl d hd
theorem zText_spec {B H : AH} {xs : List Nat} {m : Value} {neg : Bool} (hm : xs.length < 1000000) (hv : val xs < 1000000000 ^ 50) [ha : RdT B m xs] (hL : Le B H) :
    Ev (fun k _ => rn k 32 [.agg #[.bool neg, m]] H) (An B H fun _ v => v = strN (textN (sg neg (val xs)))) := by
  refine Ev.fn (fun k => f32_eq k _ H) ?_
  have hS := St.start hL
  have ha := ha.rd
  have hlx := limbs_length_le (val_lt ha.sm)
  repeat (first | refine Ev.s ?_ | refine Ev.newC fun _ _ _ => ?_ | refine Ev.boxC fun _ _ _ => ?_ | refine Ev.stC fun _ _ => ?_ | refine Ev.sc (by omega) ?_ | refine Ev.scg (by omega) ?_)
  refine Ev.callD (of_spec (xs := xs) (by omega) RdT.rd) fun v1 B1 H1 hm1 hS1 h1 => ?_
  obtain ⟨w, rfl, hw⟩ := h1
  repeat (first | refine Ev.s ?_ | refine Ev.newC fun _ _ _ => ?_ | refine Ev.boxC fun _ _ _ => ?_ | refine Ev.stC fun _ _ => ?_ | refine Ev.sc (by omega) ?_ | refine Ev.scg (by omega) ?_)
  refine Ev.callD (zero_spec (xs := limbs (val xs)) (by omega) hw) fun v2 B2 H2 hm2 hS2 h2 => ?_
  subst h2
  by_cases h0 : val xs = 0
  · rw [h0, limbs_zero, decide_eq_true (show ([] : List Nat).length = 0 from rfl)]
    repeat (first | refine Ev.s ?_ | refine Ev.newC fun _ _ _ => ?_ | refine Ev.boxC fun _ _ _ => ?_ | refine Ev.stC fun _ _ => ?_ | refine Ev.sc (by omega) ?_ | refine Ev.scg (by omega) ?_)
    refine Ev.doneC ?_
    have : sg neg 0 = 0 := by cases neg <;> rfl
    rw [this]; rfl
  · rw [decide_eq_false (show ¬ (limbs (val xs)).length = 0 from fun e => h0 (limbs_eq_nil.mp (List.length_eq_zero_iff.mp e)))]
    repeat (first | refine Ev.s ?_ | refine Ev.newC fun _ _ _ => ?_ | refine Ev.boxC fun _ _ _ => ?_ | refine Ev.stC fun _ _ => ?_ | refine Ev.sc (by omega) ?_ | refine Ev.scg (by omega) ?_)
    have hw2 : RdN B2 w (limbs (val xs)) := RdT.rd
    have hS2' := hS2
    refine Ev.bind (Ev.loop (text_loop hv (val xs) [] _ w B2 _ rfl hv hw2 (GAcc.nil (by assumption)))) ?_
    rintro _ ⟨v3, B3, H3, rfl, hm3, hA3⟩
    refine Ev.eq (fun k _ => f32_A0_x0 k _ _ H3) ?_
    have hne := chk_nil h0
    have hlen := chk_len 50 (val xs) hv
    rcases hA3 with ⟨hz, _⟩ | ⟨_, hcl, b, kd, cap, rfl, hkc, hS3⟩
    · exact absurd (List.length_eq_zero_iff.mp hz) hne
    have hrv := rev_spec (cap := cap) (by rcases hkc with ⟨h, _⟩ | ⟨h, _⟩ <;> rw [h] <;> intro hh <;> cases hh) (cs := (chk (val xs)).map strN) (fun v hv => by
      obtain ⟨l, _, rfl⟩ := List.mem_map.mp hv; rfl) (by rw [List.length_map]; omega) hS3
    rw [List.length_map] at hrv
    refine Ev.callS hrv fun v4 B4 H4 hm4 hS4 h4 => ?_
    subst h4
    have hA4 : GAcc 9 1 H B B4 _ H4 (sl b 0 (chk (val xs)).length cap) (chk (val xs)).length (((chk (val xs)).map strN).reverse) := .inr ⟨by rw [ne_eq, List.length_eq_zero_iff]; exact hne, by simp, b, kd, cap, rfl, hkc, hS4⟩
    obtain ⟨B5, hm5, hs5, hS5⟩ := hA4.freeze
    have e1 : ((chk (val xs)).map strN).reverse = ((chk (val xs)).reverse.map fun l => l.map fun n => UInt8.ofNat n).map str := by
      rw [← List.map_reverse, List.map_map]; rfl
    rw [e1] at hs5
    have e2 : (chk (val xs)).length = ((chk (val xs)).reverse.map fun l => l.map fun n => UInt8.ofNat n).length := by simp
    rw [e2] at hs5
    have hflat : ((chk (val xs)).reverse.map fun l => l.map fun n => UInt8.ofNat n).flatten = ((chk (val xs)).reverse.flatten).map fun n => UInt8.ofNat n := List.map_flatten.symm
    have htot : tot ((chk (val xs)).reverse.map fun l => l.map fun n => UInt8.ofNat n) ≤ 450 := by
      unfold tot
      rw [hflat, List.length_map]
      have : ∀ l : List (List Nat), (∀ x ∈ l, x.length = 9) → l.flatten.length = 9 * l.length := by
        intro l
        induction l with
        | nil => intro _; rfl
        | cons a l ih => intro h; rw [List.flatten_cons, List.length_append, ih fun x hx => h x (by simp [hx]), h a (by simp), List.length_cons]; omega
      rw [this _ (fun x hx => chk_all x (List.mem_reverse.mp hx)), List.length_reverse]; omega
    rw [e2]
    have hstr : (.string ⟨#[]⟩ : Value) = str [] := rfl
    rw [hstr]
    refine Ev.callD (Join_spec hs5 (fun l hl => ?_) (by omega) (by rw [← e2]; omega)) fun v6 B6 H6 hm6 hS6 h6 => ?_
    · obtain ⟨x, hx, rfl⟩ := List.mem_map.mp hl
      have := chk_all x (List.mem_reverse.mp hx)
      intro e
      have e := congrArg List.length e
      simp at e
      rw [e] at this; simp at this
    subst h6
    have hstr2 : (.string ⟨#[48]⟩ : Value) = str [48] := rfl
    rw [hstr2]
    refine Ev.callP (trimL_spec (by decide) (by have := htot; unfold tot at this; omega)) ?_
    have h48 : (48 : UInt8).toNat = 48 := rfl
    rw [h48, hflat, dropU _ (fun d hd => by
      obtain ⟨l, hl, hd⟩ := List.mem_flatten.mp hd
      exact chk_byte l (List.mem_reverse.mp hl) d hd), chk_trim]
    have hneg := sg_neg (neg := neg) (n := val xs)
    have hab := sg_abs (neg := neg) (n := val xs)
    have hdl : (dg (val xs)).length ≤ 450 := by
      have h1 : (dg (val xs)).length ≤ ((chk (val xs)).reverse.flatten).length := by
        rw [← chk_trim]; exact (List.dropWhile_sublist _).length_le
      have h2 := htot
      unfold tot at h2
      rw [hflat, List.length_map] at h2
      omega
    repeat (first | refine Ev.s ?_ | refine Ev.newC fun _ _ _ => ?_ | refine Ev.boxC fun _ _ _ => ?_ | refine Ev.stC fun _ _ => ?_ | refine Ev.sc (by omega) ?_ | refine Ev.scg (by omega) ?_)
    rw [hneg]
    by_cases hz : sg neg (val xs) < 0
    · rw [decide_eq_true hz]
      repeat (first | refine Ev.s ?_ | refine Ev.newC fun _ _ _ => ?_ | refine Ev.boxC fun _ _ _ => ?_ | refine Ev.stC fun _ _ => ?_ | refine Ev.sc (by omega) ?_ | refine Ev.scg (by omega) ?_)
      have hstr3 : (.string ⟨#[45]⟩ : Value) = str [45] := rfl
      rw [hstr3]
      refine Ev.prim (add_str (by rw [List.length_map]; simp; omega)) ?_
      refine Ev.doneC ?_
      unfold textN txt
      rw [if_pos hz, hab, if_neg h0]; rfl
    · rw [decide_eq_false hz]
      repeat (first | refine Ev.s ?_ | refine Ev.newC fun _ _ _ => ?_ | refine Ev.boxC fun _ _ _ => ?_ | refine Ev.stC fun _ _ => ?_ | refine Ev.sc (by omega) ?_ | refine Ev.scg (by omega) ?_)
      refine Ev.doneC ?_
      unfold textN txt
      rw [if_neg hz, hab, if_neg h0]
end Go.AM.Z
set_option linter.unusedVariables false
namespace Go.AM
/-- It is so as it stands: M is not even, or it is nought. -/
structure Odd (A e : Int) : Prop where
  z : dz (canon A e) = A
  e : (canon A e).e = e
theorem Odd.of {d : Dy} (h : rightD d = true) (hs : small d.mag) : Odd (dz d) d.e := ⟨by rw [canon_right h hs], by rw [canon_right h hs]⟩
theorem Odd.neg {A e : Int} (h : Odd A e) : (canon A e).neg = decide (A < 0) := canon_neg
theorem Odd.val {A e : Int} (h : Odd A e) : val (canon A e).mag = A.natAbs := by
  have := congrArg Int.natAbs h.z
  unfold dz at this; rwa [sg_abs] at this
def dk (A C : Int) (p : Nat) : Nat := p + 2 + nbits C.natAbs - nbits A.natAbs
theorem Odd.zero : Odd 0 0 := ⟨rfl, rfl⟩
end Go.AM
set_option linter.unusedVariables false
set_option linter.unusedSimpArgs false
set_option maxRecDepth 100000
namespace Go.AM.Z
open Go Go.AM Go.Proofs
attribute [local irreducible] run bin un ld st box newV mkS fldA fld ixA ix slc slc3 build buildS cv cvS ap cpy lenV gOp pickV b2 aIf aChk evalK resume iterD Option.bind

section
variable {B H : AH} {X Y E F : Int} {m m2 : Value}
end
end Go.AM.Z
set_option linter.unusedVariables false
set_option linter.unusedSimpArgs false
set_option maxRecDepth 100000
namespace Go.AM.Z
open Go Go.AM Go.Proofs
attribute [local irreducible] run bin un ld st box newV mkS fldA fld ixA ix slc slc3 build buildS cv cvS ap cpy lenV gOp pickV b2 aIf aChk evalK resume iterD Option.bind

end Go.AM.Z
set_option linter.unusedVariables false
set_option linter.unusedSimpArgs false
set_option maxRecDepth 100000
namespace Go.AM.Z
open Go Go.AM Go.Proofs
attribute [local irreducible] run bin un ld st box newV mkS fldA fld ixA ix slc slc3 build buildS cv cvS ap cpy lenV gOp pickV b2 aIf aChk evalK resume iterD Option.bind

section
variable {B H : AH} {X E : Int} {m : Value}
end
end Go.AM.Z
set_option linter.unusedVariables false
set_option linter.unusedSimpArgs false
set_option maxRecDepth 100000
namespace Go.AM.Z
open Go Go.AM Go.Proofs
attribute [local irreducible] run bin un ld st box newV mkS fldA fld ixA ix slc slc3 build buildS cv cvS ap cpy lenV gOp pickV b2 aIf aChk evalK resume iterD Option.bind

end Go.AM.Z
set_option linter.unusedVariables false
set_option linter.unusedSimpArgs false
namespace Go.AM
def le4 (d : Nat) : List Nat := [d % 256, d / 2 ^ 8 % 256, d / 2 ^ 16 % 256, d / 2 ^ 24 % 256]
def byN (xs : List Nat) : List Nat := xs.flatMap le4
def hdN (neg : Bool) (c : Nat) : Nat := 2 * c + (if neg then 1 else 0)
def enc (neg : Bool) (xs : List Nat) : List UInt8 := [UInt8.ofNat (hdN neg xs.length / 256 % 256), UInt8.ofNat (hdN neg xs.length % 256)] ++ (byN xs).map fun n => UInt8.ofNat n
def word4 (a b c d : UInt8) : Nat := a.toNat + b.toNat * 2 ^ 8 + c.toNat * 2 ^ 16 + d.toNat * 2 ^ 24
def words : Nat → List UInt8 → List Nat
  | 0, _ => []
  | n + 1, a :: b :: c :: d :: l => word4 a b c d :: words n l
  | _, _ => []
def hdOf (l : List UInt8) : Nat := (l.getD 0 0).toNat * 256 + (l.getD 1 0).toNat
def dec (l : List UInt8) : Option (Bool × List Nat × List UInt8) :=
  if l.length < 2 then none
  else if 400 < hdOf l / 2 ∨ l.length - 2 < 4 * (hdOf l / 2) then none
  else if rightI (decide (hdOf l % 2 ≠ 0)) (words (hdOf l / 2) (l.drop 2)) = true then some (decide (hdOf l % 2 ≠ 0), words (hdOf l / 2) (l.drop 2), l.drop (2 + 4 * (hdOf l / 2)))
  else none
theorem byN_length (xs : List Nat) : (byN xs).length = 4 * xs.length := by
  induction xs with
  | nil => rfl
  | cons x xs ih =>
    show ([_, _, _, _] ++ byN xs).length = _
    simp only [List.length_append, ih, List.length_cons, List.length_nil]
    omega
theorem enc_length (neg : Bool) (xs : List Nat) : (enc neg xs).length = 2 + 4 * xs.length := by
  unfold enc
  rw [List.length_append, List.length_map, byN_length]
  show 2 + _ = _
  omega
theorem ofNat_toNat8 (n : Nat) : (UInt8.ofNat n).toNat = n % 256 := by simp
theorem word4_of {d : Nat} (h : d < 4294967296) : word4 (UInt8.ofNat (d % 256)) (UInt8.ofNat (d / 2 ^ 8 % 256)) (UInt8.ofNat (d / 2 ^ 16 % 256)) (UInt8.ofNat (d / 2 ^ 24 % 256)) = d := by
  unfold word4
  simp only [ofNat_toNat8]
  omega
theorem of_word4 (a b c d : UInt8) : (le4 (word4 a b c d)).map (fun n => UInt8.ofNat n) = [a, b, c, d] := by
  have ha := UInt8.toNat_lt a
  have hb := UInt8.toNat_lt b
  have hc := UInt8.toNat_lt c
  have hd := UInt8.toNat_lt d
  have e : le4 (word4 a b c d) = [a.toNat, b.toNat, c.toNat, d.toNat] := by
    unfold le4 word4
    congr 1
    · omega
    congr 1
    · omega
    congr 1
    · omega
    congr 1
    omega
  rw [e]
  simp
theorem word4_lt (a b c d : UInt8) : word4 a b c d < 4294967296 := by
  have ha := UInt8.toNat_lt a
  have hb := UInt8.toNat_lt b
  have hc := UInt8.toNat_lt c
  have hd := UInt8.toNat_lt d
  unfold word4
  omega
theorem words_of {xs : List Nat} (h : small xs) (r : List UInt8) : words xs.length ((byN xs).map (fun n => UInt8.ofNat n) ++ r) = xs := by
  induction xs with
  | nil => rfl
  | cons x xs ih =>
    show word4 _ _ _ _ :: words xs.length ((byN xs).map (fun n => UInt8.ofNat n) ++ r) = _
    rw [ih h.tail, word4_of h.head]
theorem of_words : ∀ (c : Nat) (l : List UInt8), 4 * c ≤ l.length → (byN (words c l)).map (fun n => UInt8.ofNat n) = l.take (4 * c) ∧ (words c l).length = c ∧ small (words c l) := by
  intro c
  induction c with
  | zero => intro l h; exact ⟨rfl, rfl, fun x hx => absurd hx List.not_mem_nil⟩
  | succ c ih =>
    intro l h
    match l, h with
    | a :: b :: d :: e :: l, h =>
      obtain ⟨h1, h2, h3⟩ := ih l (by simp at h; omega)
      refine ⟨?_, ?_, ?_⟩
      · show (le4 (word4 a b d e) ++ byN (words c l)).map (fun n => UInt8.ofNat n) = _
        rw [List.map_append, of_word4, h1, show 4 * (c + 1) = 4 * c + 1 + 1 + 1 + 1 by omega]
        rfl
      · show (words c l).length + 1 = _
        rw [h2]
      · intro x hx
        rcases List.mem_cons.mp hx with rfl | hx
        · exact word4_lt ..
        · exact h3 x hx
    | [], h => simp at h
    | [_], h => simp at h; omega
    | [_, _], h => simp at h; omega
    | [_, _, _], h => simp at h; omega
theorem words_snoc : ∀ (c : Nat) (l : List UInt8), 4 * (c + 1) ≤ l.length → words (c + 1) l = words c l ++ [word4 (l.getD (4 * c) 0) (l.getD (4 * c + 1) 0) (l.getD (4 * c + 2) 0) (l.getD (4 * c + 3) 0)] := by
  intro c
  induction c with
  | zero =>
    intro l h
    match l, h with
    | a :: b :: d :: e :: l, h => rfl
    | [], h => simp at h
    | [_], h => simp at h
    | [_, _], h => simp at h
    | [_, _, _], h => simp at h
  | succ c ih =>
    intro l h
    match l, h with
    | a :: b :: d :: e :: l, h =>
      show word4 a b d e :: words (c + 1) l = word4 a b d e :: words c l ++ _
      rw [ih l (by simp at h; omega)]
      have e1 : ∀ i, (a :: b :: d :: e :: l).getD (4 * (c + 1) + i) 0 = l.getD (4 * c + i) 0 := by
        intro i
        rw [show 4 * (c + 1) + i = 4 * c + i + 1 + 1 + 1 + 1 by omega]
        simp
      have e0 := e1 0
      rw [Nat.add_zero, Nat.add_zero] at e0
      rw [e0, e1 1, e1 2, e1 3]
      rfl
    | [], h => simp at h
    | [_], h => simp at h; omega
    | [_, _], h => simp at h; omega
    | [_, _, _], h => simp at h; omega
theorem hdOf_enc {neg : Bool} {xs : List Nat} {r : List UInt8} (h : xs.length ≤ 400) : hdOf (enc neg xs ++ r) = hdN neg xs.length ∧ hdN neg xs.length / 2 = xs.length ∧ decide (hdN neg xs.length % 2 ≠ 0) = neg := by
  have e : hdN neg xs.length / 2 = xs.length ∧ decide (hdN neg xs.length % 2 ≠ 0) = neg := by
    unfold hdN
    cases neg with
    | true => exact ⟨by simp only [if_true]; omega, decide_eq_true (by simp only [if_true]; omega)⟩
    | false => exact ⟨by simp, decide_eq_false (by simp)⟩
  refine ⟨?_, e⟩
  have h2 : hdN neg xs.length < 1000 := by unfold hdN; split <;> omega
  unfold hdOf enc
  show (UInt8.ofNat _).toNat * 256 + (UInt8.ofNat _).toNat = _
  rw [ofNat_toNat8, ofNat_toNat8]
  omega
theorem drop2_enc (neg : Bool) (xs : List Nat) (r : List UInt8) : (enc neg xs ++ r).drop 2 = (byN xs).map (fun n => UInt8.ofNat n) ++ r := rfl
theorem dec_of {neg : Bool} {xs : List Nat} {r : List UInt8} (hr : rightI neg xs = true) (hl : xs.length ≤ 400) (hs : small xs) : dec (enc neg xs ++ r) = some (neg, xs, r) := by
  obtain ⟨e1, e2, e3⟩ := hdOf_enc (neg := neg) (r := r) hl
  have hlen : (enc neg xs ++ r).length = 2 + 4 * xs.length + r.length := by rw [List.length_append, enc_length]
  unfold dec
  rw [if_neg (by omega), e1, e2, e3, if_neg (by omega), drop2_enc, words_of hs, if_pos hr]
  congr 3
  have : (enc neg xs).length = 2 + 4 * xs.length := enc_length ..
  rw [← this, List.drop_left]
theorem enc_words {a b : UInt8} {l : List UInt8} (h : 4 * (hdOf (a :: b :: l) / 2) ≤ l.length) : a :: b :: l = enc (decide (hdOf (a :: b :: l) % 2 ≠ 0)) (words (hdOf (a :: b :: l) / 2) l) ++ l.drop (4 * (hdOf (a :: b :: l) / 2)) := by
  have hla := UInt8.toNat_lt a
  have hlb := UInt8.toNat_lt b
  have e : hdOf (a :: b :: l) = a.toNat * 256 + b.toNat := rfl
  obtain ⟨w1, w2, w3⟩ := of_words (hdOf (a :: b :: l) / 2) l h
  have e2 : hdN (decide (hdOf (a :: b :: l) % 2 ≠ 0)) (words (hdOf (a :: b :: l) / 2) l).length = a.toNat * 256 + b.toNat := by
    rw [w2, ← e]
    unfold hdN
    generalize hdOf (a :: b :: l) = n
    by_cases hn : n % 2 ≠ 0
    · rw [decide_eq_true hn]; simp only [if_true]; omega
    · rw [decide_eq_false hn]; simp; omega
  have f1 : (a.toNat * 256 + b.toNat) / 256 % 256 = a.toNat := by omega
  have f2 : (a.toNat * 256 + b.toNat) % 256 = b.toNat := by omega
  unfold enc
  rw [e2, w1, f1, f2, UInt8.ofNat_toNat, UInt8.ofNat_toNat, List.append_assoc, List.take_append_drop]
  rfl
theorem of_dec {l : List UInt8} {neg : Bool} {xs : List Nat} {r : List UInt8} (h : dec l = some (neg, xs, r)) : l = enc neg xs ++ r ∧ rightI neg xs = true ∧ xs.length ≤ 400 ∧ small xs := by
  unfold dec at h
  split at h
  · cases h
  rename_i h1
  split at h
  · cases h
  rename_i h2
  split at h
  · rename_i h3
    injection h with h
    injection h with ha h
    injection h with hb hc
    obtain ⟨w1, w2, w3⟩ := of_words (hdOf l / 2) (l.drop 2) (by rw [List.length_drop]; omega)
    rw [← ha, ← hb, ← hc]
    refine ⟨?_, h3, by omega, w3⟩
    clear h3 ha hb hc w1 w2 w3
    have key : ∀ l : List UInt8, ¬ l.length < 2 → ¬ (400 < hdOf l / 2 ∨ l.length - 2 < 4 * (hdOf l / 2)) → l = enc (decide (hdOf l % 2 ≠ 0)) (words (hdOf l / 2) (l.drop 2)) ++ l.drop (2 + 4 * (hdOf l / 2)) := by
      intro l h1 h2
      cases l with
      | nil => exact absurd (Nat.zero_lt_succ 1) h1
      | cons a l =>
        cases l with
        | nil => exact absurd (Nat.lt_succ_self 1) h1
        | cons b l =>
          have h3 : 4 * (hdOf (a :: b :: l) / 2) ≤ l.length := by
            have : (a :: b :: l).length = l.length + 2 := rfl
            rw [this] at h2
            generalize hdOf (a :: b :: l) = n at *
            omega
          have dk : ∀ k, (a :: b :: l).drop (2 + k) = l.drop k := fun k => by rw [Nat.add_comm]; rfl
          rw [dk]
          exact enc_words h3
    exact key l h1 h2
  · cases h
end Go.AM
set_option linter.unusedVariables false
set_option linter.unusedSimpArgs false
set_option maxRecDepth 100000
namespace Go.AM.Z
open Go Go.AM Go.Proofs
attribute [local irreducible] run bin un ld st box newV mkS fldA fld ixA ix slc slc3 build buildS cv cvS ap cpy lenV gOp pickV b2 aIf aChk evalK resume iterD Option.bind

theorem byN_snoc {xs : List Nat} {i : Nat} (h : i < xs.length) : byN (xs.take (i + 1)) = byN (xs.take i) ++ le4 (xs.getD i 0) := by
  have e : xs.take (i + 1) = xs.take i ++ [xs.getD i 0] := by
    rw [List.take_add_one, List.getD_eq_getElem?_getD, List.getElem?_eq_getElem h]; rfl
  rw [e]
  unfold byN
  rw [List.flatMap_append]
  simp
theorem spl_room {pre d : List Nat} {k : Nat} (hd : d.length = 4) : spl ((pre ++ List.replicate (k + 4) 0).map u8) pre.length (d.map u8) = ((pre ++ d) ++ List.replicate k 0).map u8 := by
  unfold spl
  have e1 : (List.map u8 (pre ++ List.replicate (k + 4) 0)).take pre.length = pre.map u8 := by
    rw [← List.map_take, List.take_left]
  have e2 : (List.map u8 (pre ++ List.replicate (k + 4) 0)).drop (pre.length + (d.map u8).length) = (List.replicate k 0).map u8 := by
    rw [← List.map_drop, List.length_map, hd, List.drop_append, List.drop_replicate]
    simp
  rw [e1, e2]
  simp
theorem bytes_loop {H0 B0 B : AH} {xs : List Nat} {a : Value} {bo n : Nat} (ha : RdN B a xs) (hn : n = xs.length) (hl : xs.length ≤ 100000) :
    ∀ (m i : Nat) (H : AH), i + m = n → St H0 B0 B [(bo, ⟨(byN (xs.take i) ++ List.replicate (4 * m) 0).map u8, 5, .fix⟩)] H →
    Ev (fun k l => f61_L0 k (sl bo 0 (4 * i) (4 * n)) a (i64 n) (i64 i) l H) (fun o => ∃ H', o = (.exit 0, f61_X_L0 (sl bo 0 (4 * n) (4 * n)), H') ∧ St H0 B0 B [(bo, ⟨(byN xs ++ []).map u8, 5, .fix⟩)] H') := by
  intro m
  induction m with
  | zero =>
    intro i H hi hS
    refine Ev.succ (fun k l => f61_L0_succ k _ _ _ _ l H) ?_
    repeat (first | refine Ev.s ?_ | refine Ev.newC fun _ _ _ => ?_ | refine Ev.boxC fun _ _ _ => ?_ | refine Ev.stC fun _ _ => ?_ | refine Ev.sc (by omega) ?_ | refine Ev.scg (by omega) ?_)
    rw [decide_eq_false (by omega)]
    repeat (first | refine Ev.s ?_ | refine Ev.newC fun _ _ _ => ?_ | refine Ev.boxC fun _ _ _ => ?_ | refine Ev.stC fun _ _ => ?_ | refine Ev.sc (by omega) ?_ | refine Ev.scg (by omega) ?_)
    have e : i = n := by omega
    subst e
    rw [List.take_of_length_le (by omega)] at hS
    exact Ev.ret ⟨H, rfl, hS⟩
  | succ m ih =>
    intro i H hi hS
    refine Ev.succ (fun k l => f61_L0_succ k _ _ _ _ l H) ?_
    have hpl : (byN (xs.take i)).length = 4 * i := by rw [byN_length, List.length_take]; omega
    repeat (first | refine Ev.s ?_ | refine Ev.newC fun _ _ _ => ?_ | refine Ev.boxC fun _ _ _ => ?_ | refine Ev.stC fun _ _ => ?_ | refine Ev.sc (by omega) ?_ | refine Ev.scg (by omega) ?_)
    rw [decide_eq_true (by omega)]
    repeat (first | refine Ev.s ?_ | refine Ev.newC fun _ _ _ => ?_ | refine Ev.boxC fun _ _ _ => ?_ | refine Ev.stC fun _ _ => ?_ | refine Ev.sc (by omega) ?_ | refine Ev.scg (by omega) ?_)
    refine Ev.ixC i rfl (by omega) fun p hp => ?_
    repeat (first | refine Ev.s ?_ | refine Ev.newC fun _ _ _ => ?_ | refine Ev.boxC fun _ _ _ => ?_ | refine Ev.stC fun _ _ => ?_ | refine Ev.sc (by omega) ?_ | refine Ev.scg (by omega) ?_)
    refine Ev.prim (shrL (by decide)) ?_
    repeat (first | refine Ev.s ?_ | refine Ev.newC fun _ _ _ => ?_ | refine Ev.boxC fun _ _ _ => ?_ | refine Ev.stC fun _ _ => ?_ | refine Ev.sc (by omega) ?_ | refine Ev.scg (by omega) ?_)
    refine Ev.prim (shrL (by decide)) ?_
    repeat (first | refine Ev.s ?_ | refine Ev.newC fun _ _ _ => ?_ | refine Ev.boxC fun _ _ _ => ?_ | refine Ev.stC fun _ _ => ?_ | refine Ev.sc (by omega) ?_ | refine Ev.scg (by omega) ?_)
    refine Ev.prim (shrL (by decide)) ?_
    repeat (first | refine Ev.s ?_ | refine Ev.newC fun _ _ _ => ?_ | refine Ev.boxC fun _ _ _ => ?_ | refine Ev.stC fun _ _ => ?_ | refine Ev.sc (by omega) ?_ | refine Ev.scg (by omega) ?_)
    refine Ev.bsC (by decide) fun bw H1 hS1 => ?_
    have hx : Sc H1 (sl bw 0 4 4) ((le4 (xs.getD i 0)).map u8) := hS1.sc (.head _) (Nat.le_refl 4)
    have hsp := spl_room (pre := byN (xs.take i)) (d := le4 (xs.getD i 0)) (k := 4 * m) rfl
    rw [show 4 * m + 4 = 4 * (m + 1) by omega, hpl] at hsp
    have hlen : ((byN (xs.take i) ++ List.replicate (4 * (m + 1)) 0).map u8).length = 4 * i + 4 * (m + 1) := by rw [List.length_map, List.length_append, hpl, List.length_replicate]
    have hl4 : ((le4 (xs.getD i 0)).map u8).length = 4 := rfl
    have hEb : Elt Tryd.prog 76 5 (.int .u8 0) 1 := inferInstance
    refine Ev.apRoom (b := bo) (cap := 4 * n) (n := 4 * i) (cs := (byN (xs.take i) ++ List.replicate (4 * (m + 1)) 0).map u8) (ds := (le4 (xs.getD i 0)).map u8) hEb hEb.U hS1 (.tail _ (.head _)) hx rfl (by intro h; cases h) (by rw [hl4]; omega) (by rw [hl4, hlen]; omega) ⟨by rw [hl4]; omega, by rw [hl4]; omega⟩ (.tail _ (.head _)) fun H2 hS2 => ?_
    rw [hsp, ← byN_snoc (by omega)] at hS2
    rw [hl4, show 4 * i + 4 = 4 * (i + 1) by omega]
    have hS3 := hS2.drop1
    clear hS2
    repeat (first | refine Ev.s ?_ | refine Ev.newC fun _ _ _ => ?_ | refine Ev.boxC fun _ _ _ => ?_ | refine Ev.stC fun _ _ => ?_ | refine Ev.sc (by omega) ?_ | refine Ev.scg (by omega) ?_)
    exact ih (i + 1) H2 (by omega) hS3
theorem bytes_spec {B H : AH} {xs : List Nat} {a : Value} (hl : xs.length ≤ 100000) [ha : RdT B a xs] (hL : Le B H) :
    Ev (fun k _ => rn k 61 [a] H) (An B H fun _ v => v = str ((byN xs).map fun n => UInt8.ofNat n)) := by
  refine Ev.fn (fun k => f61_eq k _ H) ?_
  have hS := St.start hL
  have ha := ha.rd
  repeat (first | refine Ev.s ?_ | refine Ev.newC fun _ _ _ => ?_ | refine Ev.boxC fun _ _ _ => ?_ | refine Ev.stC fun _ _ => ?_ | refine Ev.sc (by omega) ?_ | refine Ev.scg (by omega) ?_)
  refine Ev.mkCap (z := .int .u8 0) (sz := 1) inferInstance hS (by omega) (by omega) fun bo B1 H1 hm1 hS1 => ?_
  have ha1 := ha.mono hm1
  have e0 : List.replicate (4 * xs.length) (Value.int .u8 0) = (byN (xs.take 0) ++ List.replicate (4 * xs.length) 0).map u8 := by
    show _ = (List.replicate _ 0).map u8
    rw [List.map_replicate]; rfl
  rw [e0] at hS1
  repeat (first | refine Ev.s ?_ | refine Ev.newC fun _ _ _ => ?_ | refine Ev.boxC fun _ _ _ => ?_ | refine Ev.stC fun _ _ => ?_ | refine Ev.sc (by omega) ?_ | refine Ev.scg (by omega) ?_)
  refine Ev.bind (Ev.loop (bytes_loop ha1 rfl hl xs.length 0 H1 (by omega) hS1)) ?_
  rintro _ ⟨H2, rfl, hS2⟩
  refine Ev.eq (fun k _ => f61_A0_x0 k _ _) ?_
  refine Ev.prim (cvS_own (ds := byN xs) (rest := []) hS2 (.head _) (byN_length xs).symm) ?_
  exact Ev.doneC rfl
end Go.AM.Z
set_option linter.unusedVariables false
set_option linter.unusedSimpArgs false
set_option maxRecDepth 100000
namespace Go.AM.Z
open Go Go.AM Go.Proofs
attribute [local irreducible] run bin un ld st box newV mkS fldA fld ixA ix slc slc3 build buildS cv cvS ap cpy lenV gOp pickV b2 aIf aChk evalK resume iterD Option.bind

theorem zBytes_spec {B H : AH} {xs : List Nat} {m : Value} {neg : Bool} (hr : rightI neg xs = true) (hl : xs.length ≤ 400) [ha : RdT B m xs] (hL : Le B H) :
    Ev (fun k _ => rn k 28 [.agg #[.bool neg, m]] H) (An B H fun _ v => v = .tuple #[str (enc neg xs), .int .i64 0]) := by
  refine Ev.fn (fun k => f28_eq k _ H) ?_
  have hS := St.start hL
  have ha := ha.rd
  have fin : ∀ (b1 n : Nat) (B1 H1 : AH), n = hdN neg xs.length → St H B B1 [(b1, ⟨[.bool neg, m], 24, .fix⟩)] H1 → RdN B1 m xs →
      Ev (fun k _ => f28_J0 k (ptr b1 0) (i64 n) H1) (An B H fun _ v => v = .tuple #[str (enc neg xs), .int .i64 0]) := by
    intro b1 n B1 H1 hn hS1 hm
    refine Ev.eq (fun k _ => f28_J0_eq k _ _ _) ?_
    have hn2 : n < 1000 := by rw [hn]; unfold hdN; split <;> omega
    refine Ev.prim (shrL (by decide)) ?_
    repeat (first | refine Ev.s ?_ | refine Ev.newC fun _ _ _ => ?_ | refine Ev.boxC fun _ _ _ => ?_ | refine Ev.stC fun _ _ => ?_ | refine Ev.sc (by omega) ?_ | refine Ev.scg (by omega) ?_)
    refine Ev.bsL (by decide) fun H2 hS2 => ?_
    refine Ev.prim (cvS_own (ds := [n / 2 ^ 8 % 256, n % 256]) (rest := []) hS2 (.head _) rfl) ?_
    repeat (first | refine Ev.s ?_ | refine Ev.newC fun _ _ _ => ?_ | refine Ev.boxC fun _ _ _ => ?_ | refine Ev.stC fun _ _ => ?_ | refine Ev.sc (by omega) ?_ | refine Ev.scg (by omega) ?_)
    refine Ev.callD (bytes_spec (xs := xs) (by omega)) fun v3 B3 H3 hm3 hS3 h3 => ?_
    subst h3
    refine Ev.chk (cvS_own (ds := [n / 2 ^ 8 % 256, n % 256]) (rest := []) hS3 (.head _) rfl) ?_
    refine Ev.chk ((hS3.get (.head _)).trans (hS2.get (.head _)).symm) ?_
    refine Ev.prim (add_str (by rw [List.length_map, List.length_map, byN_length]; show 2 + _ ≤ _; omega)) ?_
    refine Ev.doneC ?_
    rw [hn]
    rfl
  repeat (first | refine Ev.s ?_ | refine Ev.newC fun _ _ _ => ?_ | refine Ev.boxC fun _ _ _ => ?_ | refine Ev.stC fun _ _ => ?_ | refine Ev.sc (by omega) ?_ | refine Ev.scg (by omega) ?_)
  refine Ev.callD (Right_spec (xs := xs) (by omega) (by assumption)) fun v1 B1 H1 hm1 hS1 e1 => ?_
  subst e1
  have hm := ha.mono hm1.mo
  rw [hr]
  repeat (first | refine Ev.s ?_ | refine Ev.newC fun _ _ _ => ?_ | refine Ev.boxC fun _ _ _ => ?_ | refine Ev.stC fun _ _ => ?_ | refine Ev.sc (by omega) ?_ | refine Ev.scg (by omega) ?_)
  rw [decide_eq_false (by omega)]
  repeat (first | refine Ev.s ?_ | refine Ev.newC fun _ _ _ => ?_ | refine Ev.boxC fun _ _ _ => ?_ | refine Ev.stC fun _ _ => ?_ | refine Ev.sc (by omega) ?_ | refine Ev.scg (by omega) ?_)
  cases hneg : neg with
  | true =>
    rw [hneg] at hS1 fin
    repeat (first | refine Ev.s ?_ | refine Ev.newC fun _ _ _ => ?_ | refine Ev.boxC fun _ _ _ => ?_ | refine Ev.stC fun _ _ => ?_ | refine Ev.sc (by omega) ?_ | refine Ev.scg (by omega) ?_)
    exact fin _ _ B1 H1 (by unfold hdN; simp) hS1 hm
  | false =>
    rw [hneg] at hS1 fin
    repeat (first | refine Ev.s ?_ | refine Ev.newC fun _ _ _ => ?_ | refine Ev.boxC fun _ _ _ => ?_ | refine Ev.stC fun _ _ => ?_ | refine Ev.sc (by omega) ?_ | refine Ev.scg (by omega) ?_)
    exact fin _ _ B1 H1 (by unfold hdN; simp) hS1 hm
def TakeV (B : AH) (v : Value) (o : Option (Bool × List Nat × List UInt8)) : Prop :=
  match o with
  | none => v = .tuple #[.agg #[.bool false, .slice none 0 0], str [], .int .i64 2]
  | some (neg, xs, r) => ∃ m, v = .tuple #[.agg #[.bool neg, m], str r, .int .i64 0] ∧ RdN B m xs
theorem word_or (a b c d : UInt8) : (((a.toNat ||| b.toNat * 2 ^ 8) ||| c.toNat * 2 ^ 16) ||| d.toNat * 2 ^ 24) = word4 a b c d := by
  have ha := UInt8.toNat_lt a
  have hb := UInt8.toNat_lt b
  have hc := UInt8.toNat_lt c
  unfold word4
  rw [or_add (i := 8) (by omega), or_add (i := 16) (by omega), or_add (i := 24) (by omega)]
theorem ztake_loop {H0 B0 : AH} {l : List UInt8} {b1 c : Nat} {neg : Bool} (hc : c ≤ 400) (hl : 2 + 4 * c ≤ l.length) :
    ∀ (m i : Nat) (v : Value) (B H : AH), i + m = c → Acc 70 H0 B0 B [(b1, ⟨[.bool neg, v], 24, .fix⟩)] H v (words i (l.drop 2)) →
    Ev (fun k n => f30_L0 k (str l) (ptr b1 0) (i64 c) (i64 c) (i64 i) n H)
      (fun o => ∃ v B' H', o = (.exit 0, f30_X_L0 (str l) (ptr b1 0) (i64 c), H') ∧ Mo B B' ∧ Acc 70 H0 B0 B' [(b1, ⟨[.bool neg, v], 24, .fix⟩)] H' v (words c (l.drop 2))) := by
  intro m
  induction m with
  | zero =>
    intro i v B H hi hA
    refine Ev.succ (fun k n => f30_L0_succ k _ _ _ _ _ n H) ?_
    repeat (first | refine Ev.s ?_ | refine Ev.newC fun _ _ _ => ?_ | refine Ev.boxC fun _ _ _ => ?_ | refine Ev.stC fun _ _ => ?_ | refine Ev.sc (by omega) ?_ | refine Ev.scg (by omega) ?_)
    rw [decide_eq_false (by omega)]
    repeat (first | refine Ev.s ?_ | refine Ev.newC fun _ _ _ => ?_ | refine Ev.boxC fun _ _ _ => ?_ | refine Ev.stC fun _ _ => ?_ | refine Ev.sc (by omega) ?_ | refine Ev.scg (by omega) ?_)
    have e : i = c := by omega
    subst e
    exact Ev.ret ⟨v, B, H, rfl, Mo.refl B, hA⟩
  | succ m ih =>
    intro i v B H hi hA
    refine Ev.succ (fun k n => f30_L0_succ k _ _ _ _ _ n H) ?_
    have hSt := hA.st
    have hcell := hA.cell
    have hw := words_snoc i (l.drop 2) (by rw [List.length_drop]; omega)
    have hg : ∀ j, (l.drop (2 + 4 * i)).getD j 0 = (l.drop 2).getD (4 * i + j) 0 := by
      intro j
      rw [List.getD_eq_getElem?_getD, List.getD_eq_getElem?_getD, List.getElem?_drop, List.getElem?_drop]
      congr 2; omega
    have hdl : (l.drop (2 + 4 * i)).length = l.length - (2 + 4 * i) := List.length_drop
    have g0 := hg 0
    have g1 := hg 1
    have g2 := hg 2
    have g3 := hg 3
    rw [Nat.add_zero] at g0
    rw [← g0, ← g1, ← g2, ← g3] at hw
    have b0 := UInt8.toNat_lt ((l.drop (2 + 4 * i)).getD 0 0)
    have b1' := UInt8.toNat_lt ((l.drop (2 + 4 * i)).getD 1 0)
    have b2 := UInt8.toNat_lt ((l.drop (2 + 4 * i)).getD 2 0)
    have b3 := UInt8.toNat_lt ((l.drop (2 + 4 * i)).getD 3 0)
    have hlen : (words i (l.drop 2)).length = i := (of_words i (l.drop 2) (by rw [List.length_drop]; omega)).2.1
    repeat (first | refine Ev.s ?_ | refine Ev.newC fun _ _ _ => ?_ | refine Ev.boxC fun _ _ _ => ?_ | refine Ev.stC fun _ _ => ?_ | refine Ev.sc (by omega) ?_ | refine Ev.scg (by omega) ?_)
    rw [decide_eq_true (by omega)]
    repeat (first | refine Ev.s ?_ | refine Ev.newC fun _ _ _ => ?_ | refine Ev.boxC fun _ _ _ => ?_ | refine Ev.stC fun _ _ => ?_ | refine Ev.sc (by omega) ?_ | refine Ev.scg (by omega) ?_)
    refine Ev.prim (slc_str (2 + 4 * i) (by omega) (by omega)) ?_
    generalize hL : l.drop (2 + 4 * i) = w at *
    repeat (first | refine Ev.s ?_ | refine Ev.newC fun _ _ _ => ?_ | refine Ev.boxC fun _ _ _ => ?_ | refine Ev.stC fun _ _ => ?_ | refine Ev.sc (by omega) ?_ | refine Ev.scg (by omega) ?_)
    refine Ev.prim (ix_str 0 rfl (by omega)) ?_
    generalize w.getD 0 0 = y0 at *
    repeat (first | refine Ev.s ?_ | refine Ev.newC fun _ _ _ => ?_ | refine Ev.boxC fun _ _ _ => ?_ | refine Ev.stC fun _ _ => ?_ | refine Ev.sc (by omega) ?_ | refine Ev.scg (by omega) ?_)
    rw [Nat.mod_eq_of_lt (show y0.toNat < 4294967296 by omega)]
    refine Ev.prim (ix_str 1 rfl (by omega)) ?_
    generalize w.getD 1 0 = y1 at *
    repeat (first | refine Ev.s ?_ | refine Ev.newC fun _ _ _ => ?_ | refine Ev.boxC fun _ _ _ => ?_ | refine Ev.stC fun _ _ => ?_ | refine Ev.sc (by omega) ?_ | refine Ev.scg (by omega) ?_)
    rw [Nat.mod_eq_of_lt (show y1.toNat < 4294967296 by omega)]
    refine Ev.prim (shlWL (n := 8) ⟨by decide, by omega⟩) ?_
    refine Ev.prim (orW ⟨by omega, by omega⟩) ?_
    refine Ev.prim (ix_str 2 rfl (by omega)) ?_
    generalize w.getD 2 0 = y2 at *
    repeat (first | refine Ev.s ?_ | refine Ev.newC fun _ _ _ => ?_ | refine Ev.boxC fun _ _ _ => ?_ | refine Ev.stC fun _ _ => ?_ | refine Ev.sc (by omega) ?_ | refine Ev.scg (by omega) ?_)
    rw [Nat.mod_eq_of_lt (show y2.toNat < 4294967296 by omega)]
    refine Ev.prim (shlWL (n := 16) ⟨by decide, by omega⟩) ?_
    have o1 : (y0.toNat ||| y1.toNat * 2 ^ 8) < 2 ^ 16 := Nat.or_lt_two_pow (by omega) (by omega)
    have o2 : ((y0.toNat ||| y1.toNat * 2 ^ 8) ||| y2.toNat * 2 ^ 16) < 2 ^ 24 := Nat.or_lt_two_pow (by omega) (by omega)
    refine Ev.prim (orW ⟨by omega, by omega⟩) ?_
    refine Ev.prim (ix_str 3 rfl (by omega)) ?_
    generalize w.getD 3 0 = y3 at *
    repeat (first | refine Ev.s ?_ | refine Ev.newC fun _ _ _ => ?_ | refine Ev.boxC fun _ _ _ => ?_ | refine Ev.stC fun _ _ => ?_ | refine Ev.sc (by omega) ?_ | refine Ev.scg (by omega) ?_)
    rw [Nat.mod_eq_of_lt (show y3.toNat < 4294967296 by omega)]
    refine Ev.prim (shlWL (n := 24) ⟨by decide, by omega⟩) ?_
    refine Ev.prim (orW ⟨by omega, by omega⟩) ?_
    rw [word_or]
    refine hA.push (by rw [hlen]; omega) fun v' B' H' hm hA' => ?_
    rw [← hw] at hA'
    have hcell' := hA'.cell
    refine Ev.s ?_
    refine Acc.stC (P := Tryd.prog) (t := 22) (b := b1) (off := 1) (w := v') hA' fun H2 hA2 => ?_
    clear hA' hSt hA
    repeat (first | refine Ev.s ?_ | refine Ev.newC fun _ _ _ => ?_ | refine Ev.boxC fun _ _ _ => ?_ | refine Ev.stC fun _ _ => ?_ | refine Ev.sc (by omega) ?_ | refine Ev.scg (by omega) ?_)
    refine (ih (i + 1) v' B' H2 (by omega) hA2).mono ?_
    rintro o ⟨v2, B2, H3, q1, q2, q3⟩
    exact ⟨v2, B2, H3, q1, hm.mo.trans q2, q3⟩
end Go.AM.Z
set_option linter.unusedVariables false
set_option linter.unusedSimpArgs false
set_option maxRecDepth 100000
namespace Go.AM.Z
open Go Go.AM Go.Proofs
attribute [local irreducible] run bin un ld st box newV mkS fldA fld ixA ix slc slc3 build buildS cv cvS ap cpy lenV gOp pickV b2 aIf aChk evalK resume iterD Option.bind

theorem zTake_spec {B H : AH} {l : List UInt8} (hl : l.length < 4611686018427387904) (hL : Le B H) :
    Ev (fun k _ => rn k 30 [str l] H) (An B H fun B' v => TakeV B' v (dec l)) := by
  refine Ev.fn (fun k => f30_eq k _ H) ?_
  have hS := St.start hL
  unfold dec
  repeat (first | refine Ev.s ?_ | refine Ev.newC fun _ _ _ => ?_ | refine Ev.boxC fun _ _ _ => ?_ | refine Ev.stC fun _ _ => ?_ | refine Ev.sc (by omega) ?_ | refine Ev.scg (by omega) ?_)
  by_cases h1 : l.length < 2
  · rw [decide_eq_true h1, if_pos h1]
    repeat (first | refine Ev.s ?_ | refine Ev.newC fun _ _ _ => ?_ | refine Ev.boxC fun _ _ _ => ?_ | refine Ev.stC fun _ _ => ?_ | refine Ev.sc (by omega) ?_ | refine Ev.scg (by omega) ?_)
    exact Ev.doneC rfl
  rw [decide_eq_false h1, if_neg h1]
  have b0 := UInt8.toNat_lt (l.getD 0 0)
  have b1 := UInt8.toNat_lt (l.getD 1 0)
  have hh : (l.getD 0 0).toNat * 256 ||| (l.getD 1 0).toNat = hdOf l := by
    rw [Nat.or_comm, show (l.getD 0 0).toNat * 256 = (l.getD 0 0).toNat * 2 ^ 8 from rfl, or_add (by omega)]
    unfold hdOf
    omega
  have hn : hdOf l < 65536 := by unfold hdOf; omega
  repeat (first | refine Ev.s ?_ | refine Ev.newC fun _ _ _ => ?_ | refine Ev.boxC fun _ _ _ => ?_ | refine Ev.stC fun _ _ => ?_ | refine Ev.sc (by omega) ?_ | refine Ev.scg (by omega) ?_)
  refine Ev.prim (ix_str 0 rfl (by omega)) ?_
  refine Ev.prim (toI64 (by omega) (Und.eq (P := Tryd.prog) (t := 5)) (Und.eq (P := Tryd.prog) (t := 3))) ?_
  refine Ev.prim (shl8I (by omega)) ?_
  refine Ev.prim (ix_str 1 rfl (by omega)) ?_
  refine Ev.prim (toI64 (by omega) (Und.eq (P := Tryd.prog) (t := 5)) (Und.eq (P := Tryd.prog) (t := 3))) ?_
  refine Ev.prim (orI ⟨by omega, by omega⟩) ?_
  rw [hh]
  generalize hdOf l = n at *
  refine Ev.prim (and1 (by omega)) ?_
  rw [show ((n : Int) % 2) = ((n % 2 : Nat) : Int) by omega]
  repeat (first | refine Ev.s ?_ | refine Ev.newC fun _ _ _ => ?_ | refine Ev.boxC fun _ _ _ => ?_ | refine Ev.stC fun _ _ => ?_ | refine Ev.sc (by omega) ?_ | refine Ev.scg (by omega) ?_)
  generalize decide (n % 2 ≠ 0) = neg at *
  by_cases h2 : 400 < n / 2
  · rw [decide_eq_true h2, if_pos (.inl h2)]
    repeat (first | refine Ev.s ?_ | refine Ev.newC fun _ _ _ => ?_ | refine Ev.boxC fun _ _ _ => ?_ | refine Ev.stC fun _ _ => ?_ | refine Ev.sc (by omega) ?_ | refine Ev.scg (by omega) ?_)
    exact Ev.doneC rfl
  rw [decide_eq_false h2]
  repeat (first | refine Ev.s ?_ | refine Ev.newC fun _ _ _ => ?_ | refine Ev.boxC fun _ _ _ => ?_ | refine Ev.stC fun _ _ => ?_ | refine Ev.sc (by omega) ?_ | refine Ev.scg (by omega) ?_)
  by_cases h3 : l.length - 2 < 4 * (n / 2)
  · rw [decide_eq_true h3, if_pos (.inr h3)]
    repeat (first | refine Ev.s ?_ | refine Ev.newC fun _ _ _ => ?_ | refine Ev.boxC fun _ _ _ => ?_ | refine Ev.stC fun _ _ => ?_ | refine Ev.sc (by omega) ?_ | refine Ev.scg (by omega) ?_)
    exact Ev.doneC rfl
  rw [decide_eq_false h3, if_neg (by omega)]
  repeat (first | refine Ev.s ?_ | refine Ev.newC fun _ _ _ => ?_ | refine Ev.boxC fun _ _ _ => ?_ | refine Ev.stC fun _ _ => ?_ | refine Ev.sc (by omega) ?_ | refine Ev.scg (by omega) ?_)
  obtain ⟨w1, w2, w3⟩ := of_words (n / 2) (l.drop 2) (by rw [List.length_drop]; omega)
  refine Ev.bind (Ev.loop (ztake_loop (l := l) (c := n / 2) (neg := neg) (by omega) (by omega) (n / 2) 0 _ B _ (by omega) (Acc.nil (by assumption)))) ?_
  rintro _ ⟨v, B2, H2, rfl, hm2, hA2⟩
  obtain ⟨B3, hm3, hr3, hS3⟩ := hA2.freeze w3
  refine Ev.eq (fun k _ => f30_A0_x0 k _ _ _ _) ?_
  repeat (first | refine Ev.s ?_ | refine Ev.newC fun _ _ _ => ?_ | refine Ev.boxC fun _ _ _ => ?_ | refine Ev.stC fun _ _ => ?_ | refine Ev.sc (by omega) ?_ | refine Ev.scg (by omega) ?_)
  refine Ev.callD (Right_spec (xs := words (n / 2) (l.drop 2)) (by omega) hr3) fun v4 B4 H4 hm4 hS4 e4 => ?_
  subst e4
  have hr4 := hr3.mono hm4.mo
  cases hR : rightI neg (words (n / 2) (l.drop 2)) with
  | false =>
    rw [if_neg (by decide)]
    repeat (first | refine Ev.s ?_ | refine Ev.newC fun _ _ _ => ?_ | refine Ev.boxC fun _ _ _ => ?_ | refine Ev.stC fun _ _ => ?_ | refine Ev.sc (by omega) ?_ | refine Ev.scg (by omega) ?_)
    exact Ev.doneC rfl
  | true =>
    rw [if_pos rfl]
    repeat (first | refine Ev.s ?_ | refine Ev.newC fun _ _ _ => ?_ | refine Ev.boxC fun _ _ _ => ?_ | refine Ev.stC fun _ _ => ?_ | refine Ev.sc (by omega) ?_ | refine Ev.scg (by omega) ?_)
    refine Ev.prim (slc_str (2 + 4 * (n / 2)) (by omega) (by omega)) ?_
    repeat (first | refine Ev.s ?_ | refine Ev.newC fun _ _ _ => ?_ | refine Ev.boxC fun _ _ _ => ?_ | refine Ev.stC fun _ _ => ?_ | refine Ev.sc (by omega) ?_ | refine Ev.scg (by omega) ?_)
    exact Ev.doneC ⟨v, rfl, hr4⟩
end Go.AM.Z
set_option linter.unusedVariables false
set_option linter.unusedSimpArgs false
set_option maxRecDepth 100000
namespace Go.AM.Z
open Go Go.AM Go.Proofs
attribute [local irreducible] run bin un ld st box newV mkS fldA fld ixA ix slc slc3 build buildS cv cvS ap cpy lenV gOp pickV b2 aIf aChk evalK resume iterD Option.bind

theorem hd_bytes {a b : UInt8} {r : List UInt8} : UInt8.ofNat (hdOf (a :: b :: r) / 256 % 256) = a ∧ UInt8.ofNat (hdOf (a :: b :: r) % 256) = b := by
  have ha := UInt8.toNat_lt a
  have hb := UInt8.toNat_lt b
  have e : hdOf (a :: b :: r) = a.toNat * 256 + b.toNat := rfl
  rw [e, show (a.toNat * 256 + b.toNat) / 256 % 256 = a.toNat by omega, show (a.toNat * 256 + b.toNat) % 256 = b.toNat by omega]
  simp
theorem enc_words {l : List UInt8} (h1 : ¬ l.length < 2) (hlen : 2 + 4 * (hdOf l / 2) ≤ l.length) : enc (decide (hdOf l % 2 ≠ 0)) (words (hdOf l / 2) (l.drop 2)) = l.take (2 + 4 * (hdOf l / 2)) := by
  obtain ⟨w1, w2, w3⟩ := of_words (hdOf l / 2) (l.drop 2) (by rw [List.length_drop]; omega)
  unfold enc
  rw [w1, w2]
  have hN : hdN (decide (hdOf l % 2 ≠ 0)) (hdOf l / 2) = hdOf l := by
    unfold hdN
    by_cases hb : hdOf l % 2 = 0
    · rw [decide_eq_false (by omega)]; simp; omega
    · rw [decide_eq_true (by omega)]; simp; omega
  rw [hN]
  clear hN w1 w2 w3 hlen
  match l, h1 with
  | [], h1 => simp at h1
  | [_], h1 => simp at h1
  | a :: b :: r, _ =>
    rw [hd_bytes.1, hd_bytes.2, Nat.add_comm 2]
    simp
end Go.AM.Z
set_option linter.unusedVariables false
set_option linter.unusedSimpArgs false
set_option maxRecDepth 100000
namespace Go.AM.Z
open Go Go.AM Go.Proofs
attribute [local irreducible] run bin un ld st box newV mkS fldA fld ixA ix slc slc3 build buildS cv cvS ap cpy lenV gOp pickV b2 aIf aChk evalK resume iterD Option.bind

theorem dg_len : ∀ (k n : Nat), n < 10 ^ k → (dg n).length ≤ k := by
  intro k
  induction k with
  | zero => intro n hn; rw [Nat.pow_zero] at hn; rw [show n = 0 by omega, dg_zero]; simp
  | succ k ih =>
    intro n hn
    by_cases h : n = 0
    · subst h; rw [dg_zero]; simp
    · rw [dg_pos h, List.length_append]
      have := ih (n / 10) (by rw [Nat.pow_succ] at hn; exact Nat.div_lt_of_lt_mul (by rw [Nat.mul_comm]; exact hn))
      simp only [List.length_cons, List.length_nil]
      omega
end Go.AM.Z
set_option linter.unusedVariables false
set_option linter.unusedSimpArgs false
set_option maxRecDepth 100000
namespace Go.AM.Z
open Go Go.AM Go.Proofs
attribute [local irreducible] run bin un ld st box newV mkS fldA fld ixA ix slc slc3 build buildS cv cvS ap cpy lenV gOp pickV b2 aIf aChk evalK resume iterD Option.bind

abbrev Zd (z : Int) (m : Value) : Value := .agg #[.bool (decide (z < 0)), m]
def ZV (B : AH) (v : Value) (z : Int) (n : Nat) : Prop := ∃ m, v = Zd z m ∧ RdN B m (limbs z.natAbs) ∧ (limbs z.natAbs).length ≤ n
theorem IntV.z {B : AH} {v : Value} {z : Int} {n : Nat} (h : IntV B v z) (hl : (limbs z.natAbs).length ≤ n) : ZV B v z n := h.elim fun m hh => ⟨m, hh.1, hh.2, hl⟩
theorem An.imp2 {B H : AH} {Post Post' : AH → Value → Prop} {g : Nat → Nat → Option (Value × AH)} (h : Ev g (An B H Post)) (hp : ∀ B' v, Post B' v → Post' B' v) : Ev g (An B H Post') :=
  h.mono fun r ⟨B', h1, h2, h3, h4⟩ => ⟨B', h1, h2, h3, hp B' r.1 h4⟩
theorem cz (z : Int) : sg (decide (z < 0)) (val (limbs z.natAbs)) = z := by rw [val_limbs, sg_int]
theorem sgl {n : Bool} {xs : List Nat} {a : Nat} (hs : small xs) (h : xs.length ≤ a) : (sg n (val xs)).natAbs < 4294967296 ^ a := by
  rw [sg_abs]; exact Nat.lt_of_lt_of_le (val_lt hs) (Nat.pow_le_pow_right (by decide) h)
theorem lenI {z : Int} {a : Nat} (h : z.natAbs < 4294967296 ^ a) : (limbs z.natAbs).length ≤ a := limbs_length_le h
theorem sum_lt {X Y Z : Int} {a b : Nat} (hx : X.natAbs < 4294967296 ^ a) (hy : Y.natAbs < 4294967296 ^ b) (hz : Z.natAbs ≤ X.natAbs + Y.natAbs) : Z.natAbs < 4294967296 ^ (a + b + 1) := by
  have e3 : 4294967296 ^ a ≤ 4294967296 ^ (a + b) := Nat.pow_le_pow_right (by decide) (by omega)
  have e4 : 4294967296 ^ b ≤ 4294967296 ^ (a + b) := Nat.pow_le_pow_right (by decide) (by omega)
  rw [Nat.pow_succ]
  generalize 4294967296 ^ (a + b) = p at *
  omega
section
variable {B H : AH} {xs ys : List Nat} {m1 m2 : Value} {n1 n2 : Bool} {a b : Nat}
theorem add_Z [ha : RdT B m1 xs] [hb : RdT B m2 ys] (h1 : xs.length ≤ a) (h2 : ys.length ≤ b) (h : a + b ≤ 100000) (hL : Le B H) : Ev (fun k _ => rn k 18 [.agg #[.bool n1, m1], .agg #[.bool n2, m2]] H) (An B H fun B' v => ZV B' v (sg n1 (val xs) + sg n2 (val ys)) (a + b + 1)) :=
  An.imp2 (zAdd_spec (by omega) (by omega) ha.rd hb.rd hL) fun B' v hh => hh.z (lenI (sum_lt (sgl (n := n1) ha.rd.sm h1) (sgl (n := n2) hb.rd.sm h2) (by omega)))
theorem prod_lt {X Y : Int} (hx : X.natAbs < 4294967296 ^ a) (hy : Y.natAbs < 4294967296 ^ b) : (X * Y).natAbs < 4294967296 ^ (a + b) := by
  rw [Int.natAbs_mul, Nat.pow_add]; exact Nat.mul_lt_mul'' hx hy
theorem mul_Z [ha : RdT B m1 xs] [hb : RdT B m2 ys] (h1 : xs.length ≤ a) (h2 : ys.length ≤ b) (h : a + b ≤ 100000) (hL : Le B H) : Ev (fun k _ => rn k 24 [.agg #[.bool n1, m1], .agg #[.bool n2, m2]] H) (An B H fun B' v => ZV B' v (sg n1 (val xs) * sg n2 (val ys)) (a + b)) :=
  An.imp2 (zMul_spec (by omega) (by omega) hL) fun B' v hh => hh.z (lenI (prod_lt (sgl ha.rd.sm h1) (sgl hb.rd.sm h2)))
theorem make_Z [ha : RdT B m1 xs] (h1 : xs.length ≤ a) (h : a ≤ 100000) (hL : Le B H) : Ev (fun k _ => rn k 25 [.bool n1, m1] H) (An B H fun B' v => ZV B' v (sg n1 (val xs)) a) :=
  An.imp2 (Make_spec (by omega) ha.rd hL) fun B' v hh => hh.z (lenI (sgl ha.rd.sm h1))
theorem from_Z {n : Int} (hn : -9223372036854775808 ≤ n ∧ n < 9223372036854775808) (hL : Le B H) : Ev (fun k _ => rn k 16 [.int .i64 n] H) (An B H fun B' v => ZV B' v n 2) :=
  An.imp2 (zFrom_spec hn hL) fun B' v hh => hh.z (lenI (by omega))
theorem small_Z [ha : RdT B m1 xs] (h1 : xs.length ≤ a) (h : a ≤ 100000) (hL : Le B H) : Ev (fun k _ => rn k 27 [.agg #[.bool n1, m1]] H) (An B H fun B' v => v = smallI (sg n1 (val xs))) :=
  zSmall_spec (by omega) ha.rd hL
theorem lsame_Z [ha : RdT B m1 xs] [hb : RdT B m2 ys] (h1 : xs.length ≤ a) (h : a ≤ 100000) (hL : Le B H) : Ev (fun k _ => rn k 21 [.agg #[.bool n1, m1], .agg #[.bool n2, m2]] H) (An B H fun _ v => v = .bool (decide (n1 = n2 ∧ xs = ys))) := by
  refine Ev.fn (fun k => f21_eq k _ _ H) ?_
  have hS := St.start hL
  have ha := ha.rd
  have hb := hb.rd
  repeat (first | refine Ev.s ?_ | refine Ev.newC fun _ _ _ => ?_ | refine Ev.boxC fun _ _ _ => ?_ | refine Ev.stC fun _ _ => ?_ | refine Ev.sc (by omega) ?_ | refine Ev.scg (by omega) ?_)
  refine Ev.callD (Same_ispec (by omega) RdT.rd RdT.rd) fun v1 B1 H1 hm1 hS1 h1 => ?_
  subst h1
  exact Ev.doneC rfl
theorem same_Z {z : Int} [ha : RdT B m1 (limbs z.natAbs)] [hb : RdT B m2 (limbs z.natAbs)] (h1 : (limbs z.natAbs).length ≤ a) (h : a ≤ 100000) (hL : Le B H) : Ev (fun k _ => rn k 21 [Zd z m1, Zd z m2] H) (An B H fun _ v => v = .bool true) :=
  An.imp2 (lsame_Z h1 h hL) fun _ v hh => by rw [hh, decide_eq_true ⟨rfl, rfl⟩]
theorem div_Z [ha : RdT B m1 xs] [hb : RdT B m2 ys] (h1 : xs.length ≤ a) (h2 : ys.length ≤ b) (h : a + b ≤ 3000) (hy : val ys ≠ 0) (hL : Le B H) : Ev (fun k _ => rn k 19 [.agg #[.bool n1, m1], .agg #[.bool n2, m2]] H) (An B H fun B' v => ∃ p q, v = .tuple #[p, q, .bool true] ∧ ZV B' p (fq (sg n1 (val xs)) (sg n2 (val ys))) (a + 1) ∧ ZV B' q (fr (sg n1 (val xs)) (sg n2 (val ys))) b) := by
  refine An.imp2 (zDiv_spec (by omega) (by omega) hy hL) fun B' v hh => ?_
  obtain ⟨p, q, rfl, hp, hq⟩ := hh
  have hY : sg n2 (val ys) ≠ 0 := by cases n2 <;> simp [sg] <;> omega
  obtain ⟨l1, l2⟩ := fl_len (fq_fr (X := sg n1 (val xs)) hY)
  have e1 := lenI (sgl (n := n1) ha.rd.sm h1)
  have e2 := lenI (sgl (n := n2) hb.rd.sm h2)
  exact ⟨p, q, rfl, hp.z (by omega), hq.z (by omega)⟩
end
end Go.AM.Z
set_option linter.unusedVariables false
set_option linter.unusedSimpArgs false
set_option maxRecDepth 100000
namespace Go.AM.Z
open Go Go.AM Go.Proofs
attribute [local irreducible] run bin un ld st box newV mkS fldA fld ixA ix slc slc3 build buildS cv cvS ap cpy lenV gOp pickV b2 aIf aChk evalK resume iterD Option.bind

theorem eql_lit {t : TypeId} {s : ByteArray} : bin Tryd.prog .eql t (.string s) (.string s) = some (.bool true) := by
  rw [str_of s, eql_str, decide_eq_true rfl]
instance (priority := 2000) {t : TypeId} {s : ByteArray} : PrimEq (bin Tryd.prog .eql t (.string s) (.string s)) (.bool true) := ⟨eql_lit⟩
theorem limbs_dig {n : Nat} (h0 : n ≠ 0) (h : n < 4294967296) : limbs n = [n] := by
  rw [limbs, dif_neg h0, Nat.mod_eq_of_lt h, Nat.div_eq_of_lt h, limbs, dif_pos rfl]
theorem text_lit : strN (textN (-120)) = .string ⟨#[45, 49, 50, 48]⟩ := by
  have : textN (-120) = [45, 49, 50, 48] := by
    unfold textN
    simp [txt, dg]
  rw [this]
  rfl
theorem bytes_lit : str (enc (decide ((-5 : Int) < 0)) (limbs (-5 : Int).natAbs)) = .string ⟨#[0, 3, 5, 0, 0, 0]⟩ := by
  rw [show (-5 : Int).natAbs = 5 from rfl, limbs_dig (by decide) (by decide)]
  rfl
theorem examples_spec {B H : AH} (hL : Le B H) : Ev (fun k _ => rn k 12 [] H) (An B H fun _ v => v = .bool true) := by
  refine Ev.fn (fun k => f12_eq k H) ?_
  have hS := St.start hL
  repeat (first | refine Ev.s ?_ | refine Ev.newC fun _ _ _ => ?_ | refine Ev.boxC fun _ _ _ => ?_ | refine Ev.stC fun _ _ => ?_ | refine Ev.sc (by omega) ?_ | refine Ev.scg (by omega) ?_)
  refine Ev.callD (from_Z (n := -7) (by decide)) fun v1 B1 H1 _ hS1 h1 => ?_
  obtain ⟨c1, rfl, hc1, l1⟩ := h1
  repeat (first | refine Ev.s ?_ | refine Ev.newC fun _ _ _ => ?_ | refine Ev.boxC fun _ _ _ => ?_ | refine Ev.stC fun _ _ => ?_ | refine Ev.sc (by omega) ?_ | refine Ev.scg (by omega) ?_)
  refine Ev.callD (from_Z (n := 2) (by decide)) fun v2 B2 H2 _ hS2 h2 => ?_
  obtain ⟨c2, rfl, hc2, l2⟩ := h2
  repeat (first | refine Ev.s ?_ | refine Ev.newC fun _ _ _ => ?_ | refine Ev.boxC fun _ _ _ => ?_ | refine Ev.stC fun _ _ => ?_ | refine Ev.sc (by omega) ?_ | refine Ev.scg (by omega) ?_)
  refine Ev.callD (div_Z (xs := limbs (-7 : Int).natAbs) (ys := limbs (2 : Int).natAbs) l1 l2 (by decide) (by rw [val_limbs]; decide)) fun v3 B3 H3 _ hS3 h3 => ?_
  rw [cz, cz, show fq (-7) 2 = -4 by decide, show fr (-7) 2 = 1 by decide] at h3
  obtain ⟨p, q, rfl, ⟨m1, rfl, hm1, e1⟩, ⟨m2, rfl, hm2, e2⟩⟩ := h3
  repeat (first | refine Ev.s ?_ | refine Ev.newC fun _ _ _ => ?_ | refine Ev.boxC fun _ _ _ => ?_ | refine Ev.stC fun _ _ => ?_ | refine Ev.sc (by omega) ?_ | refine Ev.scg (by omega) ?_)
  refine Ev.callD (from_Z (n := -4) (by decide)) fun v4 B4 H4 _ hS4 h4 => ?_
  obtain ⟨c4, rfl, hc4, l4⟩ := h4
  repeat (first | refine Ev.s ?_ | refine Ev.newC fun _ _ _ => ?_ | refine Ev.boxC fun _ _ _ => ?_ | refine Ev.stC fun _ _ => ?_ | refine Ev.sc (by omega) ?_ | refine Ev.scg (by omega) ?_)
  refine Ev.callD (same_Z (z := -4) l4 (by decide)) fun v5 B5 H5 _ hS5 h5 => ?_
  subst h5
  repeat (first | refine Ev.s ?_ | refine Ev.newC fun _ _ _ => ?_ | refine Ev.boxC fun _ _ _ => ?_ | refine Ev.stC fun _ _ => ?_ | refine Ev.sc (by omega) ?_ | refine Ev.scg (by omega) ?_)
  refine Ev.callD (from_Z (n := 1) (by decide)) fun v6 B6 H6 _ hS6 h6 => ?_
  obtain ⟨c6, rfl, hc6, l6⟩ := h6
  repeat (first | refine Ev.s ?_ | refine Ev.newC fun _ _ _ => ?_ | refine Ev.boxC fun _ _ _ => ?_ | refine Ev.stC fun _ _ => ?_ | refine Ev.sc (by omega) ?_ | refine Ev.scg (by omega) ?_)
  refine Ev.callD (same_Z (z := 1) l6 (by decide)) fun v7 B7 H7 _ hS7 h7 => ?_
  subst h7
  repeat (first | refine Ev.s ?_ | refine Ev.newC fun _ _ _ => ?_ | refine Ev.boxC fun _ _ _ => ?_ | refine Ev.stC fun _ _ => ?_ | refine Ev.sc (by omega) ?_ | refine Ev.scg (by omega) ?_)
  refine Ev.callD (from_Z (n := -5) (by decide)) fun v8 B8 H8 _ hS8 h8 => ?_
  obtain ⟨c8, rfl, hc8, l8⟩ := h8
  repeat (first | refine Ev.s ?_ | refine Ev.newC fun _ _ _ => ?_ | refine Ev.boxC fun _ _ _ => ?_ | refine Ev.stC fun _ _ => ?_ | refine Ev.sc (by omega) ?_ | refine Ev.scg (by omega) ?_)
  refine Ev.callD (zBytes_spec (xs := limbs (-5 : Int).natAbs) (rightI_limbs fun _ => by decide) (by omega)) fun v9 B9 H9 _ hS9 h9 => ?_
  rw [bytes_lit] at h9
  subst h9
  repeat (first | refine Ev.s ?_ | refine Ev.newC fun _ _ _ => ?_ | refine Ev.boxC fun _ _ _ => ?_ | refine Ev.stC fun _ _ => ?_ | refine Ev.sc (by omega) ?_ | refine Ev.scg (by omega) ?_)
  refine Ev.callD (from_Z (n := -9223372036854775808) (by decide)) fun v10 B10 H10 _ hS10 h10 => ?_
  obtain ⟨c10, rfl, hc10, l10⟩ := h10
  repeat (first | refine Ev.s ?_ | refine Ev.newC fun _ _ _ => ?_ | refine Ev.boxC fun _ _ _ => ?_ | refine Ev.stC fun _ _ => ?_ | refine Ev.sc (by omega) ?_ | refine Ev.scg (by omega) ?_)
  refine Ev.callD (small_Z (xs := limbs (-9223372036854775808 : Int).natAbs) l10 (by decide)) fun v11 B11 H11 _ hS11 h11 => ?_
  rw [cz, smallI, if_pos (by decide)] at h11
  subst h11
  repeat (first | refine Ev.s ?_ | refine Ev.newC fun _ _ _ => ?_ | refine Ev.boxC fun _ _ _ => ?_ | refine Ev.stC fun _ _ => ?_ | refine Ev.sc (by omega) ?_ | refine Ev.scg (by omega) ?_)
  refine Ev.callD (from_Z (n := -120) (by decide)) fun v12 B12 H12 _ hS12 h12 => ?_
  obtain ⟨c12, rfl, hc12, l12⟩ := h12
  repeat (first | refine Ev.s ?_ | refine Ev.newC fun _ _ _ => ?_ | refine Ev.boxC fun _ _ _ => ?_ | refine Ev.stC fun _ _ => ?_ | refine Ev.sc (by omega) ?_ | refine Ev.scg (by omega) ?_)
  refine Ev.callD (zText_spec (xs := limbs (-120 : Int).natAbs) (by omega) (by rw [val_limbs]; decide)) fun v13 B13 H13 _ hS13 h13 => ?_
  rw [cz, text_lit] at h13
  subst h13
  repeat (first | refine Ev.s ?_ | refine Ev.newC fun _ _ _ => ?_ | refine Ev.boxC fun _ _ _ => ?_ | refine Ev.stC fun _ _ => ?_ | refine Ev.sc (by omega) ?_ | refine Ev.scg (by omega) ?_)
  exact Ev.doneC rfl
abbrev KInt := Kn.pair Kn.bool (Kn.pair (Kn.slice 70 1 (Kn.int .u32)) Kn.unit)
abbrev GInt (x : Bool × List Int × Unit) : Prop := True ∧ (x.2.1.length ≤ maxLen ∧ ∀ n ∈ x.2.1, (Lit.int .u32 n).wf = true) ∧ True
theorem int_open {H : AH} {v : Value} {x : Bool × List Int × Unit} (h : KvS KInt H x v) (hG : GInt x) : ∃ m, v = .agg #[.bool x.1, m] ∧ RdN H m (x.2.1.map Int.toNat) ∧ (x.2.1.map Int.toNat).length < 9223372036854775808 := by
  obtain ⟨cs, rfl, c3, c4, rfl, h1, c5, c6, rfl, h2, h3⟩ := h
  obtain ⟨_, ⟨g1, g2⟩, _⟩ := hG
  have h1 : c3 = [.bool x.1] := h1
  have h3 : c6 = [] := h3
  subst h1 h3
  have hl : c5.length = 1 := by
    rcases h2 with ⟨e, _⟩ | ⟨b, css, e, _⟩ <;> rw [e] <;> rfl
  obtain ⟨m, rfl⟩ := List.length_eq_one_iff.mp hl
  refine ⟨m, rfl, rd_slice h2 g2, ?_⟩
  rw [List.length_map]
  exact Nat.lt_of_le_of_lt g1 (by decide)
end Go.AM.Z
set_option linter.unusedVariables false
set_option linter.unusedSimpArgs false
set_option maxRecDepth 100000
namespace Go.AM.Z
open Go Go.AM Go.Proofs
attribute [local irreducible] run bin un ld st box newV mkS fldA fld ixA ix slc slc3 build buildS cv cvS ap cpy lenV gOp pickV b2 aIf aChk evalK resume iterD Option.bind

theorem neg_icmp {a b : Int} : un Tryd.prog .neg (.int .i64 (icmp a b)) = some (.int .i64 (-icmp a b)) := by
  rw [un_neg]
  unfold icmp
  split
  · rfl
  · split <;> rfl
instance (priority := 2000) {a b : Int} : PrimEq (un Tryd.prog .neg (.int .i64 (icmp a b))) (.int .i64 (-icmp a b)) := ⟨neg_icmp⟩
instance (priority := 2000) {b : Bool} : PrimEq (bin Tryd.prog .eql 4 (.bool b) (.bool b)) (.bool true) := ⟨by rw [eqlB]; cases b <;> rfl⟩
end Go.AM.Z
set_option linter.unusedVariables false
set_option linter.unusedSimpArgs false
set_option maxRecDepth 100000
namespace Go.AM.Z
open Go Go.AM Go.Proofs
attribute [local irreducible] run bin un ld st box newV mkS fldA fld ixA ix slc slc3 build buildS cv cvS ap cpy lenV gOp pickV b2 aIf aChk evalK resume iterD Option.bind

section
variable {B H : AH} {xa : List Nat} {m1 : Value} {na : Bool} {b1 b2 : Nat} {z1 z2 : Blk}
end
end Go.AM.Z
set_option linter.unusedVariables false
set_option linter.unusedSimpArgs false
set_option maxRecDepth 100000
namespace Go.AM.Z
open Go Go.AM Go.Proofs
attribute [local irreducible] run bin un ld st box newV mkS fldA fld ixA ix slc slc3 build buildS cv cvS ap cpy lenV gOp pickV b2 aIf aChk evalK resume iterD Option.bind

instance {x : Int} : PrimC (cv Tryd.prog 21 3 (.int .i32 x)) (-2147483648 ≤ x ∧ x < 2147483648) (.int .i64 x) := ⟨fun h => by
  rw [cv_int (Und.eq (P := Tryd.prog) (t := 21)) (Und.eq (P := Tryd.prog) (t := 3))]
  congr 2
  simp [IntKind.wrap, IntKind.bits, IntKind.signed, Int.bmod]
  omega⟩
end Go.AM.Z
set_option linter.unusedVariables false
set_option linter.unusedSimpArgs false
set_option maxRecDepth 100000
namespace Go.AM.Z
open Go Go.AM Go.Proofs
attribute [local irreducible] run bin un ld st box newV mkS fldA fld ixA ix slc slc3 build buildS cv cvS ap cpy lenV gOp pickV b2 aIf aChk evalK resume iterD Option.bind

theorem rightI_limbs (z : Int) : rightI (decide (z < 0)) (limbs z.natAbs) = true := by
  unfold rightI
  by_cases h : (limbs z.natAbs).length = 0
  · rw [if_pos h]
    have : z.natAbs = 0 := limbs_eq_nil.mp (List.length_eq_zero_iff.mp h)
    rw [decide_eq_false (by omega)]; rfl
  · rw [if_neg h]
    refine decide_eq_true ?_
    refine limbs_getLast (n := z.natAbs) _ ?_
    rw [List.getLast?_eq_getElem?, List.getD_eq_getElem?_getD, List.getElem?_eq_getElem (by omega)]; rfl
end Go.AM.Z
set_option linter.unusedVariables false
set_option linter.unusedSimpArgs false
set_option maxRecDepth 100000
namespace Go.AM.Z
open Go Go.AM Go.Proofs
attribute [local irreducible] run bin un ld st box newV mkS fldA fld ixA ix slc slc3 build buildS cv cvS ap cpy lenV gOp pickV b2 aIf aChk evalK resume iterD Option.bind

def dv (l : List Nat) : Nat := l.foldl (fun a d => a * 10 + (d - 48)) 0
theorem dv_snoc {l : List Nat} {d : Nat} : dv (l ++ [d]) = dv l * 10 + (d - 48) := by unfold dv; rw [List.foldl_append]; rfl
theorem dv_dg (n : Nat) : dv (dg n) = n := by
  induction n using Nat.strongRecOn with
  | _ n ih =>
    by_cases h : n = 0
    · subst h; rw [dg_zero]; rfl
    · rw [dg_pos h, dv_snoc, ih (n / 10) (by omega)]; omega
theorem dv_txt (n : Nat) : dv (txt n) = n := by
  unfold txt
  split
  · rename_i h; rw [h]; rfl
  · exact dv_dg n
theorem dv_le : ∀ (q p : List Nat), dv p ≤ dv (p ++ q)
  | [], p => by rw [List.append_nil]; exact Nat.le_refl _
  | d :: q, p => by
    have := dv_le q (p ++ [d])
    rw [dv_snoc, List.append_assoc] at this
    simp only [List.cons_append, List.nil_append] at this
    omega
theorem dv_take {l : List Nat} {i : Nat} : dv (l.take i) ≤ dv l := by
  have := dv_le (l.drop i) (l.take i)
  rwa [List.take_append_drop] at this
theorem dv_step {l : List Nat} {i : Nat} (h : i < l.length) : dv (l.take (i + 1)) = dv (l.take i) * 10 + (l.getD i 0 - 48) := by
  rw [← dv_snoc, List.take_add_one, List.getD_eq_getElem?_getD, List.getElem?_eq_getElem h]; rfl
theorem txt_byte {n : Nat} : ∀ d ∈ txt n, 48 ≤ d ∧ d < 58 := by
  unfold txt
  split
  · intro d h
    simp only [List.mem_cons, List.not_mem_nil, or_false] at h
    omega
  · exact dg_byte
theorem txt_first {n : Nat} (h : (txt n).getD 0 0 = 48) : n = 0 := by
  unfold txt at h
  split at h
  · assumption
  · have := dg_head n
    cases e : dg n with
    | nil => rw [e] at h; simp at h
    | cons a l => rw [e] at h this; simp at h this; exact absurd h this
theorem txt_len {n : Nat} (h : n < 10 ^ 250) : 0 < (txt n).length ∧ (txt n).length ≤ 250 := by
  unfold txt
  split
  · simp
  · rename_i h0
    refine ⟨?_, dg_len 250 n h⟩
    rw [dg_pos h0, List.length_append]; simp
theorem getD_mem {l : List Nat} {i : Nat} (h : i < l.length) : l.getD i 0 ∈ l := by
  rw [List.getD_eq_getElem?_getD, List.getElem?_eq_getElem h]; exact List.getElem_mem h
theorem ixN {t : TypeId} {l : List Nat} {i : Nat} [h : Und Tryd.prog t .string] (hi : i < l.length) (hb : ∀ d ∈ l, d < 256) : ix Tryd.prog t (strN l) (i64 i) = some (u8 (l.getD i 0)) := by
  unfold strN
  rw [ix_str i rfl (by rw [List.length_map]; exact hi)]
  have : (((l.map fun n => UInt8.ofNat n).getD i 0).toNat) = l.getD i 0 := by
    rw [List.getD_eq_getElem?_getD, List.getElem?_map, List.getElem?_eq_getElem hi, List.getD_eq_getElem?_getD, List.getElem?_eq_getElem hi]
    have := hb _ (List.getElem_mem hi)
    simp only [Option.map_some, Option.getD_some]
    rw [UInt8.toNat_ofNat']
    omega
  rw [this]
theorem u8sub {t : TypeId} {d : Nat} (h : 48 ≤ d) (h2 : d < 256) : bin Tryd.prog .sub t (u8 d) (.int .u8 48) = some (u8 (d - 48)) := by
  rw [bin_sub]
  congr 2
  simp [IntKind.wrap, IntKind.bits, IntKind.signed]
  omega
theorem texts_loop {H0 B0 : AH} {L : List (Nat × Blk)} {pre ds : List Nat} {x2 x8 : Value} {bn N fr : Nat} (hfr : fr = pre.length) (hb : ∀ d ∈ pre ++ ds, d < 256) (hd : ∀ d ∈ ds, 48 ≤ d ∧ d < 58)
    (hf : ds.getD 0 0 = 48 → (pre ++ ds).length = 1) (hN : dv ds = N) (hv : N < 4294967296 ^ 12) (hl : (pre ++ ds).length ≤ 1000) :
    ∀ (r i : Nat) (m : Value) (B H : AH), i + r = ds.length → St H0 B0 B ((bn, ⟨[.bool (decide (((dv (ds.take i) : Nat) : Int) < 0)), m], 24, .fix⟩) :: L) H → RdN B m (limbs (((dv (ds.take i) : Nat) : Int)).natAbs) →
    Ev (fun k n => f11_L0 k x2 (.bool true) x8 (strN (pre ++ ds)) (i64 fr) (ptr bn 0) (i64 (fr + i)) n H)
      (fun o => ∃ m' B' H', o = (.exit 0, f11_X_L0 x2 unk (.bool true) x8 (ptr bn 0), H') ∧ Mo B B' ∧ St H0 B0 B' ((bn, ⟨[.bool (decide ((N : Int) < 0)), m'], 24, .fix⟩) :: L) H' ∧ RdN B' m' (limbs N)) := by
  intro r
  induction r with
  | zero =>
    intro i m B H hi hS hr
    refine Ev.succ (fun k n => f11_L0_succ k _ _ _ _ _ _ _ n H) ?_
    rw [List.take_of_length_le (by omega), hN] at hS hr
    rw [Int.natAbs_natCast] at hr
    unfold strN
    repeat (first | refine Ev.s ?_ | refine Ev.newC fun _ _ _ => ?_ | refine Ev.boxC fun _ _ _ => ?_ | refine Ev.stC fun _ _ => ?_ | refine Ev.sc (by omega) ?_ | refine Ev.scg (by omega) ?_)
    rw [decide_eq_false (by rw [List.length_map, List.length_append]; omega)]
    repeat (first | refine Ev.s ?_ | refine Ev.newC fun _ _ _ => ?_ | refine Ev.boxC fun _ _ _ => ?_ | refine Ev.stC fun _ _ => ?_ | refine Ev.sc (by omega) ?_ | refine Ev.scg (by omega) ?_)
    exact Ev.ret ⟨m, B, H, rfl, Mo.refl B, hS, hr⟩
  | succ r ih =>
    intro i m B H hi hS hr
    refine Ev.succ (fun k n => f11_L0_succ k _ _ _ _ _ _ _ n H) ?_
    have hlt : fr + i < (pre ++ ds).length := by rw [List.length_append]; omega
    have hix : ix Tryd.prog 9 (strN (pre ++ ds)) (i64 (fr + i)) = some (u8 (ds.getD i 0)) := by
      rw [ixN hlt hb]
      congr 2
      rw [List.getD_eq_getElem?_getD, List.getElem?_append_right (by omega), List.getD_eq_getElem?_getD]
      congr 2
      omega
    have hd2 := hd _ (getD_mem (show i < ds.length by omega))
    have hst := dv_step (show i < ds.length by omega)
    have hle : dv (ds.take (i + 1)) ≤ N := by rw [← hN]; exact dv_take
    have hle0 : dv (ds.take i) ≤ N := by rw [← hN]; exact dv_take
    have hl0 : (limbs (((dv (ds.take i) : Nat) : Int)).natAbs).length ≤ 12 := by rw [Int.natAbs_natCast]; exact limbs_length_le (by omega)
    have hf2 : ds.getD i 0 = 48 → i = 0 → (pre ++ ds).length = 1 := fun h1 h2 => by subst h2; exact hf h1
    have ih := ih (i + 1)
    rw [hst] at ih
    generalize ds.getD i 0 = d at *
    generalize dv (ds.take i) = w at *
    have hlen : lenV Tryd.prog 9 (strN (pre ++ ds)) = some (i64 (pre ++ ds).length) := by
      unfold strN
      have : lenV Tryd.prog 9 (str ((pre ++ ds).map fun n => UInt8.ofNat n)) = some (i64 ((pre ++ ds).map fun n => UInt8.ofNat n).length) := PrimEq.eq
      rw [this, List.length_map]
    generalize strN (pre ++ ds) = T at *
    refine Ev.prim hlen ?_
    repeat (first | refine Ev.s ?_ | refine Ev.newC fun _ _ _ => ?_ | refine Ev.boxC fun _ _ _ => ?_ | refine Ev.stC fun _ _ => ?_ | refine Ev.sc (by omega) ?_ | refine Ev.scg (by omega) ?_)
    rw [decide_eq_true hlt]
    repeat (first | refine Ev.s ?_ | refine Ev.newC fun _ _ _ => ?_ | refine Ev.boxC fun _ _ _ => ?_ | refine Ev.stC fun _ _ => ?_ | refine Ev.sc (by omega) ?_ | refine Ev.scg (by omega) ?_)
    refine Ev.prim hix ?_
    repeat (first | refine Ev.s ?_ | refine Ev.newC fun _ _ _ => ?_ | refine Ev.boxC fun _ _ _ => ?_ | refine Ev.stC fun _ _ => ?_ | refine Ev.sc (by omega) ?_ | refine Ev.scg (by omega) ?_)
    rw [decide_eq_false (show ¬ d < 48 by omega)]
    repeat (first | refine Ev.s ?_ | refine Ev.newC fun _ _ _ => ?_ | refine Ev.boxC fun _ _ _ => ?_ | refine Ev.stC fun _ _ => ?_ | refine Ev.sc (by omega) ?_ | refine Ev.scg (by omega) ?_)
    refine Ev.gPrim hix rfl ?_
    repeat (first | refine Ev.s ?_ | refine Ev.newC fun _ _ _ => ?_ | refine Ev.boxC fun _ _ _ => ?_ | refine Ev.stC fun _ _ => ?_ | refine Ev.sc (by omega) ?_ | refine Ev.scg (by omega) ?_)
    rw [decide_eq_false (show ¬ 57 < d by omega)]
    repeat (first | refine Ev.s ?_ | refine Ev.newC fun _ _ _ => ?_ | refine Ev.boxC fun _ _ _ => ?_ | refine Ev.stC fun _ _ => ?_ | refine Ev.sc (by omega) ?_ | refine Ev.scg (by omega) ?_)
    refine Ev.gPrim hix rfl ?_
    repeat (first | refine Ev.s ?_ | refine Ev.newC fun _ _ _ => ?_ | refine Ev.boxC fun _ _ _ => ?_ | refine Ev.stC fun _ _ => ?_ | refine Ev.sc (by omega) ?_ | refine Ev.scg (by omega) ?_)
    by_cases h48 : d = 48
    · rw [decide_eq_true h48]
      repeat (first | refine Ev.s ?_ | refine Ev.newC fun _ _ _ => ?_ | refine Ev.boxC fun _ _ _ => ?_ | refine Ev.stC fun _ _ => ?_ | refine Ev.sc (by omega) ?_ | refine Ev.scg (by omega) ?_)
      by_cases hi0 : i = 0
      · have hone := hf2 h48 hi0
        rw [decide_eq_true (show fr + i = fr by omega)]
        repeat (first | refine Ev.s ?_ | refine Ev.newC fun _ _ _ => ?_ | refine Ev.boxC fun _ _ _ => ?_ | refine Ev.stC fun _ _ => ?_ | refine Ev.sc (by omega) ?_ | refine Ev.scg (by omega) ?_)
        refine Ev.gPrim hlen rfl ?_
        repeat (first | refine Ev.s ?_ | refine Ev.newC fun _ _ _ => ?_ | refine Ev.boxC fun _ _ _ => ?_ | refine Ev.stC fun _ _ => ?_ | refine Ev.sc (by omega) ?_ | refine Ev.scg (by omega) ?_)
        rw [decide_eq_false (show ¬ 1 < (pre ++ ds).length by omega)]
        repeat (first | refine Ev.s ?_ | refine Ev.newC fun _ _ _ => ?_ | refine Ev.boxC fun _ _ _ => ?_ | refine Ev.stC fun _ _ => ?_ | refine Ev.sc (by omega) ?_ | refine Ev.scg (by omega) ?_)
        refine Ev.callD (from_Z (n := 10) (by decide)) fun w1 B1 H1 hm1 hS1 h1 => ?_
        obtain ⟨m_t, rfl, hr_t, l_t⟩ := h1
        repeat (first | refine Ev.s ?_ | refine Ev.newC fun _ _ _ => ?_ | refine Ev.boxC fun _ _ _ => ?_ | refine Ev.stC fun _ _ => ?_ | refine Ev.sc (by omega) ?_ | refine Ev.scg (by omega) ?_)
        refine Ev.callD (mul_Z hl0 l_t (by decide)) fun w2 B2 H2 hm2 hS2 h2 => ?_
        rw [cz, cz] at h2
        obtain ⟨m_p, rfl, hr_p, l_p⟩ := h2
        repeat (first | refine Ev.s ?_ | refine Ev.newC fun _ _ _ => ?_ | refine Ev.boxC fun _ _ _ => ?_ | refine Ev.stC fun _ _ => ?_ | refine Ev.sc (by omega) ?_ | refine Ev.scg (by omega) ?_)
        refine Ev.prim hix ?_
        refine Ev.prim (u8sub hd2.1 (by omega)) ?_
        repeat (first | refine Ev.s ?_ | refine Ev.newC fun _ _ _ => ?_ | refine Ev.boxC fun _ _ _ => ?_ | refine Ev.stC fun _ _ => ?_ | refine Ev.sc (by omega) ?_ | refine Ev.scg (by omega) ?_)
        refine Ev.callD (from_Z (n := ((d - 48 : Nat) : Int)) (by omega)) fun w3 B3 H3 hm3 hS3 h3 => ?_
        obtain ⟨m_d, rfl, hr_d, l_d⟩ := h3
        repeat (first | refine Ev.s ?_ | refine Ev.newC fun _ _ _ => ?_ | refine Ev.boxC fun _ _ _ => ?_ | refine Ev.stC fun _ _ => ?_ | refine Ev.sc (by omega) ?_ | refine Ev.scg (by omega) ?_)
        refine Ev.callD (add_Z l_p l_d (by decide)) fun w4 B4 H4 hm4 hS4 h4 => ?_
        rw [cz, cz, show (w : Int) * 10 + ((d - 48 : Nat) : Int) = ((w * 10 + (d - 48) : Nat) : Int) by omega] at h4
        obtain ⟨m_s, rfl, hr_s, l_s⟩ := h4
        repeat (first | refine Ev.s ?_ | refine Ev.newC fun _ _ _ => ?_ | refine Ev.boxC fun _ _ _ => ?_ | refine Ev.stC fun _ _ => ?_ | refine Ev.sc (by omega) ?_ | refine Ev.scg (by omega) ?_)
        refine (ih m_s B4 _ (by omega) (by assumption) hr_s).mono ?_
        rintro o ⟨m', B', H', q1, q2, q3⟩
        exact ⟨m', B', H', q1, (((hm1.mo.trans hm2.mo).trans hm3.mo).trans hm4.mo).trans q2, q3⟩
      · rw [decide_eq_false (show ¬ fr + i = fr by omega)]
        repeat (first | refine Ev.s ?_ | refine Ev.newC fun _ _ _ => ?_ | refine Ev.boxC fun _ _ _ => ?_ | refine Ev.stC fun _ _ => ?_ | refine Ev.sc (by omega) ?_ | refine Ev.scg (by omega) ?_)
        refine Ev.callD (from_Z (n := 10) (by decide)) fun w1 B1 H1 hm1 hS1 h1 => ?_
        obtain ⟨m_t, rfl, hr_t, l_t⟩ := h1
        repeat (first | refine Ev.s ?_ | refine Ev.newC fun _ _ _ => ?_ | refine Ev.boxC fun _ _ _ => ?_ | refine Ev.stC fun _ _ => ?_ | refine Ev.sc (by omega) ?_ | refine Ev.scg (by omega) ?_)
        refine Ev.callD (mul_Z hl0 l_t (by decide)) fun w2 B2 H2 hm2 hS2 h2 => ?_
        rw [cz, cz] at h2
        obtain ⟨m_p, rfl, hr_p, l_p⟩ := h2
        repeat (first | refine Ev.s ?_ | refine Ev.newC fun _ _ _ => ?_ | refine Ev.boxC fun _ _ _ => ?_ | refine Ev.stC fun _ _ => ?_ | refine Ev.sc (by omega) ?_ | refine Ev.scg (by omega) ?_)
        refine Ev.prim hix ?_
        refine Ev.prim (u8sub hd2.1 (by omega)) ?_
        repeat (first | refine Ev.s ?_ | refine Ev.newC fun _ _ _ => ?_ | refine Ev.boxC fun _ _ _ => ?_ | refine Ev.stC fun _ _ => ?_ | refine Ev.sc (by omega) ?_ | refine Ev.scg (by omega) ?_)
        refine Ev.callD (from_Z (n := ((d - 48 : Nat) : Int)) (by omega)) fun w3 B3 H3 hm3 hS3 h3 => ?_
        obtain ⟨m_d, rfl, hr_d, l_d⟩ := h3
        repeat (first | refine Ev.s ?_ | refine Ev.newC fun _ _ _ => ?_ | refine Ev.boxC fun _ _ _ => ?_ | refine Ev.stC fun _ _ => ?_ | refine Ev.sc (by omega) ?_ | refine Ev.scg (by omega) ?_)
        refine Ev.callD (add_Z l_p l_d (by decide)) fun w4 B4 H4 hm4 hS4 h4 => ?_
        rw [cz, cz, show (w : Int) * 10 + ((d - 48 : Nat) : Int) = ((w * 10 + (d - 48) : Nat) : Int) by omega] at h4
        obtain ⟨m_s, rfl, hr_s, l_s⟩ := h4
        repeat (first | refine Ev.s ?_ | refine Ev.newC fun _ _ _ => ?_ | refine Ev.boxC fun _ _ _ => ?_ | refine Ev.stC fun _ _ => ?_ | refine Ev.sc (by omega) ?_ | refine Ev.scg (by omega) ?_)
        refine (ih m_s B4 _ (by omega) (by assumption) hr_s).mono ?_
        rintro o ⟨m', B', H', q1, q2, q3⟩
        exact ⟨m', B', H', q1, (((hm1.mo.trans hm2.mo).trans hm3.mo).trans hm4.mo).trans q2, q3⟩
    · rw [decide_eq_false h48]
      repeat (first | refine Ev.s ?_ | refine Ev.newC fun _ _ _ => ?_ | refine Ev.boxC fun _ _ _ => ?_ | refine Ev.stC fun _ _ => ?_ | refine Ev.sc (by omega) ?_ | refine Ev.scg (by omega) ?_)
      refine Ev.callD (from_Z (n := 10) (by decide)) fun w1 B1 H1 hm1 hS1 h1 => ?_
      obtain ⟨m_t, rfl, hr_t, l_t⟩ := h1
      repeat (first | refine Ev.s ?_ | refine Ev.newC fun _ _ _ => ?_ | refine Ev.boxC fun _ _ _ => ?_ | refine Ev.stC fun _ _ => ?_ | refine Ev.sc (by omega) ?_ | refine Ev.scg (by omega) ?_)
      refine Ev.callD (mul_Z hl0 l_t (by decide)) fun w2 B2 H2 hm2 hS2 h2 => ?_
      rw [cz, cz] at h2
      obtain ⟨m_p, rfl, hr_p, l_p⟩ := h2
      repeat (first | refine Ev.s ?_ | refine Ev.newC fun _ _ _ => ?_ | refine Ev.boxC fun _ _ _ => ?_ | refine Ev.stC fun _ _ => ?_ | refine Ev.sc (by omega) ?_ | refine Ev.scg (by omega) ?_)
      refine Ev.prim hix ?_
      refine Ev.prim (u8sub hd2.1 (by omega)) ?_
      repeat (first | refine Ev.s ?_ | refine Ev.newC fun _ _ _ => ?_ | refine Ev.boxC fun _ _ _ => ?_ | refine Ev.stC fun _ _ => ?_ | refine Ev.sc (by omega) ?_ | refine Ev.scg (by omega) ?_)
      refine Ev.callD (from_Z (n := ((d - 48 : Nat) : Int)) (by omega)) fun w3 B3 H3 hm3 hS3 h3 => ?_
      obtain ⟨m_d, rfl, hr_d, l_d⟩ := h3
      repeat (first | refine Ev.s ?_ | refine Ev.newC fun _ _ _ => ?_ | refine Ev.boxC fun _ _ _ => ?_ | refine Ev.stC fun _ _ => ?_ | refine Ev.sc (by omega) ?_ | refine Ev.scg (by omega) ?_)
      refine Ev.callD (add_Z l_p l_d (by decide)) fun w4 B4 H4 hm4 hS4 h4 => ?_
      rw [cz, cz, show (w : Int) * 10 + ((d - 48 : Nat) : Int) = ((w * 10 + (d - 48) : Nat) : Int) by omega] at h4
      obtain ⟨m_s, rfl, hr_s, l_s⟩ := h4
      repeat (first | refine Ev.s ?_ | refine Ev.newC fun _ _ _ => ?_ | refine Ev.boxC fun _ _ _ => ?_ | refine Ev.stC fun _ _ => ?_ | refine Ev.sc (by omega) ?_ | refine Ev.scg (by omega) ?_)
      refine (ih m_s B4 _ (by omega) (by assumption) hr_s).mono ?_
      rintro o ⟨m', B', H', q1, q2, q3⟩
      exact ⟨m', B', H', q1, (((hm1.mo.trans hm2.mo).trans hm3.mo).trans hm4.mo).trans q2, q3⟩
end Go.AM.Z
set_option linter.unusedVariables false
set_option linter.unusedSimpArgs false
set_option maxRecDepth 100000
namespace Go.AM.Z
open Go Go.AM Go.Proofs
attribute [local irreducible] run bin un ld st box newV mkS fldA fld ixA ix slc slc3 build buildS cv cvS ap cpy lenV gOp pickV b2 aIf aChk evalK resume iterD Option.bind

theorem texts_spec {B H : AH} {x : List Nat} {mx : Value} {nx : Bool} (hx : x.length < 9223372036854775808) (hrx : RdN B mx x) {rest : List UInt8} (hrest : rest.length ≤ 140737488351232) {b : List UInt8} (hb : b.length ≤ 140737488351232) (hL : Le B H) : Ev (fun k _ => rn k 11 [.agg #[.bool nx, mx], str rest, str b] H) (An B H fun _ v => v = .bool true) := by
  refine Ev.fn (fun k => f11_eq k _ _ _ H) ?_
  have hS := St.start hL
  repeat (first | refine Ev.s ?_ | refine Ev.newC fun _ _ _ => ?_ | refine Ev.boxC fun _ _ _ => ?_ | refine Ev.stC fun _ _ => ?_ | refine Ev.sc (by omega) ?_ | refine Ev.scg (by omega) ?_)
  refine Ev.callD (examples_spec) fun w11 B11 H11 _ hS11 h11 => ?_
  try simp only [cz] at h11
  subst h11
  have htk : x.take (min x.length 12) = x.take 12 := by
    by_cases h6 : x.length ≤ 12
    · rw [Nat.min_eq_left h6, List.take_length, List.take_of_length_le h6]
    · rw [Nat.min_eq_right (by omega)]
  have ltk : (x.take 12).length ≤ 12 := by rw [List.length_take]; omega
  repeat (first | refine Ev.s ?_ | refine Ev.newC fun _ _ _ => ?_ | refine Ev.boxC fun _ _ _ => ?_ | refine Ev.stC fun _ _ => ?_ | refine Ev.sc (by omega) ?_ | refine Ev.scg (by omega) ?_)
  refine Ev.uptoC (min x.length 12) (by split <;> omega) (by omega) fun w hw => ?_
  rw [htk] at hw
  generalize x.take 12 = xa at *
  have hX := sgl (n := nx) hw.sm ltk
  repeat (first | refine Ev.s ?_ | refine Ev.newC fun _ _ _ => ?_ | refine Ev.boxC fun _ _ _ => ?_ | refine Ev.stC fun _ _ => ?_ | refine Ev.sc (by omega) ?_ | refine Ev.scg (by omega) ?_)
  refine Ev.callD (make_Z (xs := xa) ltk (by decide)) fun w1 B1 H1 hm1 hS1 h1 => ?_
  generalize sg nx (val xa) = X at *
  obtain ⟨m_a, rfl, hr_a, l_a⟩ := h1
  have hri := Go.AM.rightI_limbs (neg := decide (X < 0)) (n := X.natAbs) (fun h => by simp at h; omega)
  have hel := enc_length (decide (X < 0)) (limbs X.natAbs)
  repeat (first | refine Ev.s ?_ | refine Ev.newC fun _ _ _ => ?_ | refine Ev.boxC fun _ _ _ => ?_ | refine Ev.stC fun _ _ => ?_ | refine Ev.sc (by omega) ?_ | refine Ev.scg (by omega) ?_)
  refine Ev.callD (zBytes_spec (xs := limbs X.natAbs) hri (by omega)) fun w2 B2 H2 hm2 hS2 h2 => ?_
  subst h2
  repeat (first | refine Ev.s ?_ | refine Ev.newC fun _ _ _ => ?_ | refine Ev.boxC fun _ _ _ => ?_ | refine Ev.stC fun _ _ => ?_ | refine Ev.sc (by omega) ?_ | refine Ev.scg (by omega) ?_)
  refine Ev.callD (zTake_spec (l := enc (decide (X < 0)) (limbs X.natAbs) ++ rest) (by rw [List.length_append]; omega)) fun w3 B3 H3 hm3 hS3 h3 => ?_
  rw [dec_of hri (by omega) (small_limbs _)] at h3
  obtain ⟨m_c, rfl, hr_c⟩ := h3
  repeat (first | refine Ev.s ?_ | refine Ev.newC fun _ _ _ => ?_ | refine Ev.boxC fun _ _ _ => ?_ | refine Ev.stC fun _ _ => ?_ | refine Ev.sc (by omega) ?_ | refine Ev.scg (by omega) ?_)
  refine Ev.callD (same_Z l_a (by decide)) fun w4 B4 H4 hm4 hS4 h4 => ?_
  subst h4
  repeat (first | refine Ev.s ?_ | refine Ev.newC fun _ _ _ => ?_ | refine Ev.boxC fun _ _ _ => ?_ | refine Ev.stC fun _ _ => ?_ | refine Ev.sc (by omega) ?_ | refine Ev.scg (by omega) ?_)
  refine Ev.callD (zText_spec (xs := limbs X.natAbs) (by omega) (by rw [val_limbs]; exact Nat.lt_of_lt_of_le hX (by decide))) fun w5 B5 H5 hm5 hS5 h5 => ?_
  rw [cz] at h5
  subst h5
  have htl := txt_len (n := X.natAbs) (Nat.lt_of_lt_of_le hX (by decide))
  have htb := txt_byte (n := X.natAbs)
  have htf := txt_first (n := X.natAbs)
  have hdv := dv_txt X.natAbs
  have e0 : txt 0 = [48] := rfl
  repeat (first | refine Ev.s ?_ | refine Ev.newC fun _ _ _ => ?_ | refine Ev.boxC fun _ _ _ => ?_ | refine Ev.stC fun _ _ => ?_ | refine Ev.sc (by omega) ?_ | refine Ev.scg (by omega) ?_)
  have hb0 := hb
  by_cases hneg : X < 0
  · rw [decide_eq_true hneg] at *
    have hT : textN X = ([45] : List Nat) ++ txt X.natAbs := by unfold textN; rw [if_pos hneg]; rfl
    rw [hT]
    have hb : ∀ d ∈ ([45] : List Nat) ++ txt X.natAbs, d < 256 := by
      intro d hd
      rcases List.mem_append.mp hd with h | h
      · simp only [List.mem_cons, List.not_mem_nil, or_false] at h; omega
      · have := htb d h; omega
    have hfst : (txt X.natAbs).getD 0 0 = 48 → (([45] : List Nat) ++ txt X.natAbs).length = 1 := by
      intro h
      have := htf h
      omega
    have hlp : (([45] : List Nat) ++ txt X.natAbs).length = 1 + (txt X.natAbs).length := by rw [List.length_append]; rfl
    have hlen : lenV Tryd.prog 9 (strN (([45] : List Nat) ++ txt X.natAbs)) = some (i64 (([45] : List Nat) ++ txt X.natAbs).length) := by
      have : lenV Tryd.prog 9 (str ((([45] : List Nat) ++ txt X.natAbs).map fun n => UInt8.ofNat n)) = some (i64 ((([45] : List Nat) ++ txt X.natAbs).map fun n => UInt8.ofNat n).length) := PrimEq.eq
      rw [this, List.length_map]
    have hix : ix Tryd.prog 9 (strN (([45] : List Nat) ++ txt X.natAbs)) (i64 0) = some (u8 ((([45] : List Nat) ++ txt X.natAbs).getD 0 0)) := ixN (by omega) hb
    have hloop := fun L x2 x8 bn => texts_loop (H0 := H) (B0 := B) (L := L) (x2 := x2) (x8 := x8) (bn := bn) (pre := ([45] : List Nat)) (ds := txt X.natAbs) (N := X.natAbs) (fr := 1) rfl hb htb hfst hdv hX (by omega)
    generalize strN (([45] : List Nat) ++ txt X.natAbs) = T at *
    repeat (first | refine Ev.s ?_ | refine Ev.newC fun _ _ _ => ?_ | refine Ev.boxC fun _ _ _ => ?_ | refine Ev.stC fun _ _ => ?_ | refine Ev.sc (by omega) ?_ | refine Ev.scg (by omega) ?_)
    refine Ev.eq (fun k _ => f11_J0_eq k _ _ _ _ _ _) ?_
    refine Ev.prim hlen ?_
    repeat (first | refine Ev.s ?_ | refine Ev.newC fun _ _ _ => ?_ | refine Ev.boxC fun _ _ _ => ?_ | refine Ev.stC fun _ _ => ?_ | refine Ev.sc (by omega) ?_ | refine Ev.scg (by omega) ?_)
    rw [decide_eq_false (show ¬ (([45] : List Nat) ++ txt X.natAbs).length ≤ 1 by omega)]
    repeat (first | refine Ev.s ?_ | refine Ev.newC fun _ _ _ => ?_ | refine Ev.boxC fun _ _ _ => ?_ | refine Ev.stC fun _ _ => ?_ | refine Ev.sc (by omega) ?_ | refine Ev.scg (by omega) ?_)
    refine Ev.gPrim hix rfl ?_
    repeat (first | refine Ev.s ?_ | refine Ev.newC fun _ _ _ => ?_ | refine Ev.boxC fun _ _ _ => ?_ | refine Ev.stC fun _ _ => ?_ | refine Ev.sc (by omega) ?_ | refine Ev.scg (by omega) ?_)
    rw [show decide ((([45] : List Nat) ++ txt X.natAbs).getD 0 0 ≠ 45) = false from rfl]
    repeat (first | refine Ev.s ?_ | refine Ev.newC fun _ _ _ => ?_ | refine Ev.boxC fun _ _ _ => ?_ | refine Ev.stC fun _ _ => ?_ | refine Ev.sc (by omega) ?_ | refine Ev.scg (by omega) ?_)
    refine Ev.callD (from_Z (n := 0) (by decide)) fun w6 B6 H6 hm6 hS6 h6 => ?_
    obtain ⟨m_o, rfl, hr_o, l_o⟩ := h6
    repeat (first | refine Ev.s ?_ | refine Ev.newC fun _ _ _ => ?_ | refine Ev.boxC fun _ _ _ => ?_ | refine Ev.stC fun _ _ => ?_ | refine Ev.sc (by omega) ?_ | refine Ev.scg (by omega) ?_)
    refine Ev.bind (Ev.loop (hloop _ _ _ _ (txt X.natAbs).length 0 m_o B6 _ (by omega) (by assumption) hr_o)) ?_
    rintro _ ⟨m_n, B7, H7, rfl, hm7, hS7, hr_n⟩
    have l_n : (limbs X.natAbs).length ≤ 12 := l_a
    have hm07 : Mo B1 B7 := ((((hm2.mo.trans hm3.mo).trans hm4.mo).trans hm5.mo).trans hm6.mo).trans hm7
    have hr_a7 := hr_a.mono hm07
    refine Ev.eq (fun k _ => f11_A0_x0 k _ _ _ _ _ _) ?_
    repeat (first | refine Ev.s ?_ | refine Ev.newC fun _ _ _ => ?_ | refine Ev.boxC fun _ _ _ => ?_ | refine Ev.stC fun _ _ => ?_ | refine Ev.sc (by omega) ?_ | refine Ev.scg (by omega) ?_)
    refine Ev.callD (make_Z (n1 := true) (xs := limbs X.natAbs) l_n (by decide)) fun w8 B8 H8 hm8 hS8 h8 => ?_
    rw [show sg true (val (limbs X.natAbs)) = X by have := cz X; rwa [decide_eq_true hneg] at this] at h8
    obtain ⟨m_z, e8, hr_z, l_z⟩ := h8
    rw [Zd, decide_eq_true hneg] at e8
    subst e8
    repeat (first | refine Ev.s ?_ | refine Ev.newC fun _ _ _ => ?_ | refine Ev.boxC fun _ _ _ => ?_ | refine Ev.stC fun _ _ => ?_ | refine Ev.sc (by omega) ?_ | refine Ev.scg (by omega) ?_)
    refine Ev.callD (lsame_Z (n1 := true) (n2 := true) (xs := limbs X.natAbs) (ys := limbs X.natAbs) l_z (by decide)) fun w9 B9 H9 hm9 hS9 h9 => ?_
    rw [decide_eq_true ⟨rfl, rfl⟩] at h9
    subst h9
    repeat (first | refine Ev.s ?_ | refine Ev.newC fun _ _ _ => ?_ | refine Ev.boxC fun _ _ _ => ?_ | refine Ev.stC fun _ _ => ?_ | refine Ev.sc (by omega) ?_ | refine Ev.scg (by omega) ?_)
    refine Ev.callD (zTake_spec (l := b) (by omega)) fun w10 B10 H10 hm10 hS10 h10 => ?_
    cases hd : dec b with
    | none =>
      rw [hd] at h10
      have h10 : w10 = _ := h10
      subst h10
      repeat (first | refine Ev.s ?_ | refine Ev.newC fun _ _ _ => ?_ | refine Ev.boxC fun _ _ _ => ?_ | refine Ev.stC fun _ _ => ?_ | refine Ev.sc (by omega) ?_ | refine Ev.scg (by omega) ?_)
      refine Ev.callD (zBytes_spec (xs := []) (neg := false) rfl (by decide)) fun w11 B11 H11 hm11 hS11 h11 => ?_
      subst h11
      repeat (first | refine Ev.s ?_ | refine Ev.newC fun _ _ _ => ?_ | refine Ev.boxC fun _ _ _ => ?_ | refine Ev.stC fun _ _ => ?_ | refine Ev.sc (by omega) ?_ | refine Ev.scg (by omega) ?_)
      rw [show decide ((2 : Int) ≠ 0) = true from rfl]
      repeat (first | refine Ev.s ?_ | refine Ev.newC fun _ _ _ => ?_ | refine Ev.boxC fun _ _ _ => ?_ | refine Ev.stC fun _ _ => ?_ | refine Ev.sc (by omega) ?_ | refine Ev.scg (by omega) ?_)
      exact Ev.doneC rfl
    | some t3 =>
      obtain ⟨z0, z1, z2⟩ := t3
      rw [hd] at h10
      obtain ⟨m_t, rfl, hr_t⟩ := h10
      obtain ⟨eb, er, el, es⟩ := of_dec hd
      have ezl := enc_length z0 z1
      have elb : (enc z0 z1).length + z2.length ≤ 140737488351232 := by rw [eb, List.length_append] at hb0; exact hb0
      repeat (first | refine Ev.s ?_ | refine Ev.newC fun _ _ _ => ?_ | refine Ev.boxC fun _ _ _ => ?_ | refine Ev.stC fun _ _ => ?_ | refine Ev.sc (by omega) ?_ | refine Ev.scg (by omega) ?_)
      refine Ev.callD (zBytes_spec (xs := z1) (neg := z0) er el) fun w11 B11 H11 hm11 hS11 h11 => ?_
      subst h11
      repeat (first | refine Ev.s ?_ | refine Ev.newC fun _ _ _ => ?_ | refine Ev.boxC fun _ _ _ => ?_ | refine Ev.stC fun _ _ => ?_ | refine Ev.sc (by omega) ?_ | refine Ev.scg (by omega) ?_)
      rw [decide_eq_true eb.symm]
      repeat (first | refine Ev.s ?_ | refine Ev.newC fun _ _ _ => ?_ | refine Ev.boxC fun _ _ _ => ?_ | refine Ev.stC fun _ _ => ?_ | refine Ev.sc (by omega) ?_ | refine Ev.scg (by omega) ?_)
      refine Ev.callD (Right_spec (xs := z1) (neg := z0) (by omega) RdT.rd) fun w12 B12 H12 hm12 hS12 h12 => ?_
      rw [er] at h12
      subst h12
      repeat (first | refine Ev.s ?_ | refine Ev.newC fun _ _ _ => ?_ | refine Ev.boxC fun _ _ _ => ?_ | refine Ev.stC fun _ _ => ?_ | refine Ev.sc (by omega) ?_ | refine Ev.scg (by omega) ?_)
      exact Ev.doneC rfl
  · rw [decide_eq_false hneg] at *
    have hT : textN X = ([] : List Nat) ++ txt X.natAbs := by unfold textN; rw [if_neg hneg]; rfl
    rw [hT]
    have hb : ∀ d ∈ ([] : List Nat) ++ txt X.natAbs, d < 256 := by
      intro d hd
      rcases List.mem_append.mp hd with h | h
      · simp only [List.mem_cons, List.not_mem_nil, or_false] at h
      · have := htb d h; omega
    have hfst : (txt X.natAbs).getD 0 0 = 48 → (([] : List Nat) ++ txt X.natAbs).length = 1 := by
      intro h
      have := htf h
      rw [this]; rfl
    have hlp : (([] : List Nat) ++ txt X.natAbs).length = 0 + (txt X.natAbs).length := by rw [List.length_append]; rfl
    have hlen : lenV Tryd.prog 9 (strN (([] : List Nat) ++ txt X.natAbs)) = some (i64 (([] : List Nat) ++ txt X.natAbs).length) := by
      have : lenV Tryd.prog 9 (str ((([] : List Nat) ++ txt X.natAbs).map fun n => UInt8.ofNat n)) = some (i64 ((([] : List Nat) ++ txt X.natAbs).map fun n => UInt8.ofNat n).length) := PrimEq.eq
      rw [this, List.length_map]
    have hix : ix Tryd.prog 9 (strN (([] : List Nat) ++ txt X.natAbs)) (i64 0) = some (u8 ((([] : List Nat) ++ txt X.natAbs).getD 0 0)) := ixN (by omega) hb
    have hloop := fun L x2 x8 bn => texts_loop (H0 := H) (B0 := B) (L := L) (x2 := x2) (x8 := x8) (bn := bn) (pre := ([] : List Nat)) (ds := txt X.natAbs) (N := X.natAbs) (fr := 0) rfl hb htb hfst hdv hX (by omega)
    generalize strN (([] : List Nat) ++ txt X.natAbs) = T at *
    repeat (first | refine Ev.s ?_ | refine Ev.newC fun _ _ _ => ?_ | refine Ev.boxC fun _ _ _ => ?_ | refine Ev.stC fun _ _ => ?_ | refine Ev.sc (by omega) ?_ | refine Ev.scg (by omega) ?_)
    refine Ev.eq (fun k _ => f11_J0_eq k _ _ _ _ _ _) ?_
    refine Ev.prim hlen ?_
    repeat (first | refine Ev.s ?_ | refine Ev.newC fun _ _ _ => ?_ | refine Ev.boxC fun _ _ _ => ?_ | refine Ev.stC fun _ _ => ?_ | refine Ev.sc (by omega) ?_ | refine Ev.scg (by omega) ?_)
    rw [decide_eq_false (show ¬ (([] : List Nat) ++ txt X.natAbs).length ≤ 0 by omega)]
    repeat (first | refine Ev.s ?_ | refine Ev.newC fun _ _ _ => ?_ | refine Ev.boxC fun _ _ _ => ?_ | refine Ev.stC fun _ _ => ?_ | refine Ev.sc (by omega) ?_ | refine Ev.scg (by omega) ?_)
    refine Ev.callD (from_Z (n := 0) (by decide)) fun w6 B6 H6 hm6 hS6 h6 => ?_
    obtain ⟨m_o, rfl, hr_o, l_o⟩ := h6
    repeat (first | refine Ev.s ?_ | refine Ev.newC fun _ _ _ => ?_ | refine Ev.boxC fun _ _ _ => ?_ | refine Ev.stC fun _ _ => ?_ | refine Ev.sc (by omega) ?_ | refine Ev.scg (by omega) ?_)
    refine Ev.bind (Ev.loop (hloop _ _ _ _ (txt X.natAbs).length 0 m_o B6 _ (by omega) (by assumption) hr_o)) ?_
    rintro _ ⟨m_n, B7, H7, rfl, hm7, hS7, hr_n⟩
    have l_n : (limbs X.natAbs).length ≤ 12 := l_a
    have hm07 : Mo B1 B7 := ((((hm2.mo.trans hm3.mo).trans hm4.mo).trans hm5.mo).trans hm6.mo).trans hm7
    have hr_a7 := hr_a.mono hm07
    refine Ev.eq (fun k _ => f11_A0_x0 k _ _ _ _ _ _) ?_
    repeat (first | refine Ev.s ?_ | refine Ev.newC fun _ _ _ => ?_ | refine Ev.boxC fun _ _ _ => ?_ | refine Ev.stC fun _ _ => ?_ | refine Ev.sc (by omega) ?_ | refine Ev.scg (by omega) ?_)
    refine Ev.callD (make_Z (n1 := false) (xs := limbs X.natAbs) l_n (by decide)) fun w8 B8 H8 hm8 hS8 h8 => ?_
    rw [show sg false (val (limbs X.natAbs)) = X by have := cz X; rwa [decide_eq_false hneg] at this] at h8
    obtain ⟨m_z, e8, hr_z, l_z⟩ := h8
    rw [Zd, decide_eq_false hneg] at e8
    subst e8
    repeat (first | refine Ev.s ?_ | refine Ev.newC fun _ _ _ => ?_ | refine Ev.boxC fun _ _ _ => ?_ | refine Ev.stC fun _ _ => ?_ | refine Ev.sc (by omega) ?_ | refine Ev.scg (by omega) ?_)
    refine Ev.callD (lsame_Z (n1 := false) (n2 := false) (xs := limbs X.natAbs) (ys := limbs X.natAbs) l_z (by decide)) fun w9 B9 H9 hm9 hS9 h9 => ?_
    rw [decide_eq_true ⟨rfl, rfl⟩] at h9
    subst h9
    repeat (first | refine Ev.s ?_ | refine Ev.newC fun _ _ _ => ?_ | refine Ev.boxC fun _ _ _ => ?_ | refine Ev.stC fun _ _ => ?_ | refine Ev.sc (by omega) ?_ | refine Ev.scg (by omega) ?_)
    refine Ev.callD (zTake_spec (l := b) (by omega)) fun w10 B10 H10 hm10 hS10 h10 => ?_
    cases hd : dec b with
    | none =>
      rw [hd] at h10
      have h10 : w10 = _ := h10
      subst h10
      repeat (first | refine Ev.s ?_ | refine Ev.newC fun _ _ _ => ?_ | refine Ev.boxC fun _ _ _ => ?_ | refine Ev.stC fun _ _ => ?_ | refine Ev.sc (by omega) ?_ | refine Ev.scg (by omega) ?_)
      refine Ev.callD (zBytes_spec (xs := []) (neg := false) rfl (by decide)) fun w11 B11 H11 hm11 hS11 h11 => ?_
      subst h11
      repeat (first | refine Ev.s ?_ | refine Ev.newC fun _ _ _ => ?_ | refine Ev.boxC fun _ _ _ => ?_ | refine Ev.stC fun _ _ => ?_ | refine Ev.sc (by omega) ?_ | refine Ev.scg (by omega) ?_)
      rw [show decide ((2 : Int) ≠ 0) = true from rfl]
      repeat (first | refine Ev.s ?_ | refine Ev.newC fun _ _ _ => ?_ | refine Ev.boxC fun _ _ _ => ?_ | refine Ev.stC fun _ _ => ?_ | refine Ev.sc (by omega) ?_ | refine Ev.scg (by omega) ?_)
      exact Ev.doneC rfl
    | some t3 =>
      obtain ⟨z0, z1, z2⟩ := t3
      rw [hd] at h10
      obtain ⟨m_t, rfl, hr_t⟩ := h10
      obtain ⟨eb, er, el, es⟩ := of_dec hd
      have ezl := enc_length z0 z1
      have elb : (enc z0 z1).length + z2.length ≤ 140737488351232 := by rw [eb, List.length_append] at hb0; exact hb0
      repeat (first | refine Ev.s ?_ | refine Ev.newC fun _ _ _ => ?_ | refine Ev.boxC fun _ _ _ => ?_ | refine Ev.stC fun _ _ => ?_ | refine Ev.sc (by omega) ?_ | refine Ev.scg (by omega) ?_)
      refine Ev.callD (zBytes_spec (xs := z1) (neg := z0) er el) fun w11 B11 H11 hm11 hS11 h11 => ?_
      subst h11
      repeat (first | refine Ev.s ?_ | refine Ev.newC fun _ _ _ => ?_ | refine Ev.boxC fun _ _ _ => ?_ | refine Ev.stC fun _ _ => ?_ | refine Ev.sc (by omega) ?_ | refine Ev.scg (by omega) ?_)
      rw [decide_eq_true eb.symm]
      repeat (first | refine Ev.s ?_ | refine Ev.newC fun _ _ _ => ?_ | refine Ev.boxC fun _ _ _ => ?_ | refine Ev.stC fun _ _ => ?_ | refine Ev.sc (by omega) ?_ | refine Ev.scg (by omega) ?_)
      refine Ev.callD (Right_spec (xs := z1) (neg := z0) (by omega) RdT.rd) fun w12 B12 H12 hm12 hS12 h12 => ?_
      rw [er] at h12
      subst h12
      repeat (first | refine Ev.s ?_ | refine Ev.newC fun _ _ _ => ?_ | refine Ev.boxC fun _ _ _ => ?_ | refine Ev.stC fun _ _ => ?_ | refine Ev.sc (by omega) ?_ | refine Ev.scg (by omega) ?_)
      exact Ev.doneC rfl
theorem coreZintTexts (H : AH) (vs : List Value) (x : (Bool × List Int × Unit) × ByteArray × ByteArray × Unit) (hK : ∃ v0 vs0, vs = v0 :: vs0 ∧ KvS KInt H x.1 v0 ∧ ∃ v1 vs1, vs0 = v1 :: vs1 ∧ KvC Kn.string H x.2.1 v1 ∧ ∃ v2 vs2, vs1 = v2 :: vs2 ∧ KvC Kn.string H x.2.2.1 v2 ∧ vs2 = [])
    (hG : GInt x.1 ∧ x.2.1.size ≤ maxLen ∧ x.2.2.1.size ≤ maxLen ∧ True) (hw1 : ∀ s, vs[1]? = some (.string s) → s.size ≤ 140737488351232) (hw2 : ∀ s, vs[2]? = some (.string s) → s.size ≤ 140737488351232) : Ev (fun k _ => rn k 11 vs H) (fun r => r.1 = .bool true) := by
  obtain ⟨v0, _, rfl, h0, v1, _, rfl, h1, v2, _, rfl, h2, rfl⟩ := hK
  obtain ⟨g0, g1, g2, _⟩ := hG
  obtain ⟨m0, rfl, a0, b0⟩ := int_open h0 g0
  have h1 : [v1] = [.string x.2.1] := h1
  cases h1
  have e1 := hw1 _ rfl
  have h2 : [v2] = [.string x.2.2.1] := h2
  cases h2
  have e2 := hw2 _ rfl
  rw [str_of x.2.1, str_of x.2.2.1]
  exact An.tt (texts_spec b0 a0 (by rw [Array.length_toList]; exact e1) (by rw [Array.length_toList]; exact e2) ⟨Mo.refl H⟩)
end Go.AM.Z
set_option linter.unusedVariables false
namespace Go.AM.Z
open Go Go.Proofs Go.RowKit
set_option maxHeartbeats 1000000 in
set_option maxRecDepth 100000 in
theorem copyCheck_used (b : Nat) (w : World) (h0 : w.cell? ⟨b, 0, none⟩ = some (.pointer (some ⟨b, 0, none⟩))) :
    Calls Tryd.prog 95 #[.pointer (some ⟨b, 0, none⟩)] w fun e w' => e = .returned (.tuple #[]) ∧ w' = w := by
  obtain ⟨j, hj⟩ := Option.isSome_iff_exists.1 (show (Tryd.prog.info? 100).isSome = true by kernel_rfl)
  have mixed : Tryd.prog.follows .mixedOrders = true := by kernel_rfl
  have t72 := Tryd.underlying100; have a72 := Tryd.isAgg100; have z72 := Tryd.sizeOf100; have v72 := Tryd.zeroValue100; have u72 := run_underlying t72
  have t70 := Tryd.underlying98; have a70 := Tryd.isAgg98; have z70 := Tryd.sizeOf98; have v70 := Tryd.zeroValue98; have u70 := run_underlying t70
  go_enter Tryd.func95, Tryd.ntmps95
  go_wp2
  rw [Lib.run_neq_ptr_same w _ t70 hj]
  go_wp2
  go_end0
  exact ⟨rfl, rfl⟩
set_option maxHeartbeats 1000000 in
set_option maxRecDepth 100000 in
theorem copyCheck_fresh (T n b : Nat) (hn : 0 < n) (hT : liesAt Tryd.prog Tryd.prog.depth T (n / Tryd.prog.cellsOf T) 0 100 1 = true) (w : World) (h0 : w.cell? ⟨b, 0, none⟩ = some (.pointer none)) (hsh : w.shape? b = some (T, n)) (hfz : w.frozen? ⟨b, 0, none⟩ = false) :
    Calls Tryd.prog 95 #[.pointer (some ⟨b, 0, none⟩)] w fun e w' => e = .returned (.tuple #[]) ∧ w' = w.setCell ⟨b, 0, none⟩ (.pointer (some ⟨b, 0, none⟩)) := by
  obtain ⟨j, hj⟩ := Option.isSome_iff_exists.1 (show (Tryd.prog.info? 100).isSome = true by kernel_rfl)
  have hc2 : Tryd.prog.cellsOf 100 = 2 := by kernel_rfl
  have hjs : j.size ≠ 0 := by
    unfold Program.cellsOf at hc2
    rw [hj] at hc2
    have : j.size = 2 := hc2
    omega
  have mixed : Tryd.prog.follows .mixedOrders = true := by kernel_rfl
  have t72 := Tryd.underlying100; have a72 := Tryd.isAgg100; have z72 := Tryd.sizeOf100; have v72 := Tryd.zeroValue100; have u72 := run_underlying t72
  have t70 := Tryd.underlying98; have a70 := Tryd.isAgg98; have z70 := Tryd.sizeOf98; have v70 := Tryd.zeroValue98; have u70 := run_underlying t70
  have tU := Tryd.underlying116; have aU := Tryd.isAgg116; have zU := Tryd.sizeOf116; have vU := Tryd.zeroValue116; have uU := run_underlying tU
  go_enter Tryd.func95, Tryd.ntmps95
  go_wp2
  rw [Lib.run_to_unsafe w ⟨b, 0, none⟩ t70 tU hj hjs hsh hn]
  simp only [Result.andThen]
  rw [Oper.upon_value]
  go_wp2
  rw [run_callFunc_extern Tryd.func100 (by kernel_rfl) (by kernel_rfl) (by kernel_rfl) (e := Extern.AbiNoEscape.same) (by kernel_rfl)]
  rw [Lib.run_noEscape]
  simp only [Result.andThen]
  rw [Oper.upon_value]
  go_wp2
  rw [Lib.run_from_unsafe w ⟨b, 0, none⟩ tU t70 hj hsh hT]
  simp only [Result.andThen]
  rw [Oper.upon_value]
  go_wp2
  go_end0
  exact ⟨rfl, rfl⟩
end Go.AM.Z
set_option linter.unusedVariables false
namespace Go.AM.Z
open Go Go.Proofs Go.RowKit
set_option maxHeartbeats 1000000 in
set_option maxRecDepth 100000 in
theorem grow_fresh (b n : Nat) (w : World) (c : Array Value) (T : TypeId) (hbk : w.heap[b]? = some (.cells c T (0, 0))) (h1 : c[1]? = some (.slice none 0 0)) (hn : n ≤ 140737488355328) :
    Calls Tryd.prog 96 #[.pointer (some ⟨b, 0, none⟩), .int .i64 n] w fun e w' => e = .returned (.tuple #[]) ∧ ∃ cs : Array Value,
      w'.heap = ((w.setCell ⟨b, 1, none⟩ (.slice (some ⟨w.heap.size, 0, none⟩) 0 cs.size)).alloc (.cells cs 5)).heap ∧ Below b w w' := by
  have t76 := Tryd.underlying76; have a76 := Tryd.isAgg76; have z76 := Tryd.sizeOf76; have v76 := Tryd.zeroValue76; have u76 := run_underlying t76
  have t98 := Tryd.underlying98; have a98 := Tryd.isAgg98; have z98 := Tryd.sizeOf98; have v98 := Tryd.zeroValue98; have u98 := run_underlying t98
  have t100 := Tryd.underlying100; have a100 := Tryd.isAgg100; have z100 := Tryd.sizeOf100; have v100 := Tryd.zeroValue100; have u100 := run_underlying t100
  have t3 := Tryd.underlying3; have a3 := Tryd.isAgg3; have z3 := Tryd.sizeOf3; have v3 := Tryd.zeroValue3; have u3 := run_underlying t3
  have t5 := Tryd.underlying5; have a5 := Tryd.isAgg5; have z5 := Tryd.sizeOf5; have v5 := Tryd.zeroValue5; have u5 := run_underlying t5
  obtain ⟨cs, hrun, hle, hmax⟩ := Lib.run_makeNoZero (P := Tryd.prog) w.drew #[3] 76 5 t76 n (by omega)
  have hw : IntKind.i64.wrap (IntKind.i64.wrap 0 + (n : Int)) = n := by
    rw [IntKind.wrap_i64, IntKind.wrap_i64]
    omega
  have hcall : (callFunc 101 #[.int .i64 (IntKind.i64.wrap (IntKind.i64.wrap 0 + (n : Int)))]).run Tryd.prog w.drew = .ok (.value (.slice (some ⟨w.drew.heap.size, 0, none⟩) n cs.size)) (w.drew.drew.drew.alloc (.cells cs 5)) := by
    rw [hw, run_callFunc_extern Tryd.func101 (by kernel_rfl) (by kernel_rfl) (by kernel_rfl) (e := Extern.BytealgMakeNoZero.makeNoZero #[3] #[76]) (by kernel_rfl), hrun]
    rfl
  have hlt : b < w.heap.size := (Array.getElem?_eq_some_iff.1 hbk).1
  have c1 : w.drew.cell? ⟨b, 1, none⟩ = some (.slice none 0 0) := by
    have : w.drew.heap[b]? = _ := hbk
    rw [Lib.cell_of_heap this]; exact h1
  have c2 : (w.alloc (.cells cs 5)).cell? ⟨b, 1, none⟩ = some (.slice none 0 0) := by
    have : (w.alloc (.cells cs 5)).heap[b]? = _ := (Lib.alloc_old w _ b hlt).trans hbk
    rw [Lib.cell_of_heap this]; exact h1
  have f2 : (w.alloc (.cells cs 5)).frozen? ⟨b, 1, none⟩ = false := Lib.frozen_of_heap ((Lib.alloc_old w _ b hlt).trans hbk) 1
  have hcopy : ∀ W : World, (Builtin.copy_ #[76, 76] 3 #[.slice (some ⟨w.heap.size, 0, none⟩) 0 cs.size, .slice none 0 0]).run Tryd.prog W = .ok (goInt 0) W :=
    fun W => run_copy_none W 76 76 3 5 _ _ 0 cs.size 0 0 t76 (by kernel_rfl) rfl
  have hbel : Below b w ((w.setCell ⟨b, 1, none⟩ (.slice (some ⟨w.heap.size, 0, none⟩) 0 cs.size)).alloc (.cells cs 5)) :=
    ((Below.refl b w).setCell (p := ⟨b, 1, none⟩) (Nat.le_refl _) _).alloc (by simp [World.setCell]; omega) _
  clear hw
  have mixed : Tryd.prog.follows .mixedOrders = true := by kernel_rfl
  go_enter Tryd.func96, Tryd.ntmps96
  go_wp2
  go_region_o
  all_goals (go_wp2; go_end0; first | exact ⟨rfl, cs, rfl, hbel.drew.drew.drew⟩ | exact ⟨rfl, cs, rfl, hbel.drew.drew⟩ | exact ⟨rfl, cs, rfl, hbel.drew.drew.drew.drew⟩)
end Go.AM.Z
set_option linter.unusedVariables false
namespace Go.AM.Z
open Go Go.Proofs Go.RowKit
theorem heap_two (w : World) (b : Nat) (c : Array Value) (T : TypeId) (u v : Value) (o : Obj) (hbk : w.heap[b]? = some (.cells c T (0, 0))) :
    (((w.setCell ⟨b, 0, none⟩ u).setCell ⟨b, 1, none⟩ v).alloc o).heap = ((w.alloc o).setRow b ((c.setIfInBounds 0 u).setIfInBounds 1 v)).heap := by
  have hlt := (Array.getElem?_eq_some_iff.1 hbk).1
  have hg := (Array.getElem?_eq_some_iff.1 hbk).2
  apply Array.ext_getElem?
  intro i
  unfold World.setCell World.setRow World.alloc
  simp only [Array.getElem?_modify, Array.getElem?_push, Array.size_modify]
  by_cases hi : i = w.heap.size
  · subst hi
    rw [if_pos rfl, if_pos rfl, if_neg (by omega)]
  · rw [if_neg hi, if_neg hi]
    by_cases hb : b = i
    · subst hb
      rw [if_pos rfl, if_pos rfl, if_pos rfl, hbk]; rfl
    · rw [if_neg hb, if_neg hb, if_neg hb]
set_option maxHeartbeats 1000000 in
set_option maxRecDepth 100000 in
theorem Grow_fresh (T b n : Nat) (hT2 : 2 ≤ szT Tryd.prog T) (hT : liesAt Tryd.prog Tryd.prog.depth T (szT Tryd.prog T / Tryd.prog.cellsOf T) 0 100 1 = true) (w : World) (c : Array Value) (hbk : w.heap[b]? = some (.cells c T (0, 0))) (hsz : c.size = szT Tryd.prog T) (h0 : c[0]? = some (.pointer none))
    (h1 : c[1]? = some (.slice none 0 0)) (hn0 : 0 < n) (hn : n ≤ 140737488355328) :
    Calls Tryd.prog 85 #[.pointer (some ⟨b, 0, none⟩), .int .i64 n] w fun e w' => e = .returned (.tuple #[]) ∧ ∃ cs : Array Value,
      w'.heap = ((w.alloc (.cells cs 5)).setRow b ((c.setIfInBounds 0 (.pointer (some ⟨b, 0, none⟩))).setIfInBounds 1 (.slice (some ⟨w.heap.size, 0, none⟩) 0 cs.size))).heap ∧ Below b w w' := by
  have t76 := Tryd.underlying76; have a76 := Tryd.isAgg76; have z76 := Tryd.sizeOf76; have v76 := Tryd.zeroValue76; have u76 := run_underlying t76
  have t98 := Tryd.underlying98; have a98 := Tryd.isAgg98; have z98 := Tryd.sizeOf98; have v98 := Tryd.zeroValue98; have u98 := run_underlying t98
  have t100 := Tryd.underlying100; have a100 := Tryd.isAgg100; have z100 := Tryd.sizeOf100; have v100 := Tryd.zeroValue100; have u100 := run_underlying t100
  have t3 := Tryd.underlying3; have a3 := Tryd.isAgg3; have z3 := Tryd.sizeOf3; have v3 := Tryd.zeroValue3; have u3 := run_underlying t3
  have hlt : b < w.heap.size := (Array.getElem?_eq_some_iff.1 hbk).1
  have hbk1 : (w.setCell ⟨b, 0, none⟩ (.pointer (some ⟨b, 0, none⟩))).heap[b]? = some (.cells (c.setIfInBounds 0 (.pointer (some ⟨b, 0, none⟩))) T (0, 0)) := by
    simp [World.setCell, Array.getElem?_modify, hbk]
  have h11 : (c.setIfInBounds 0 (.pointer (some ⟨b, 0, none⟩)))[1]? = some (.slice none 0 0) := by rw [Array.getElem?_setIfInBounds_ne (by decide)]; exact h1
  have c1 : (w.setCell ⟨b, 0, none⟩ (.pointer (some ⟨b, 0, none⟩))).cell? ⟨b, 1, none⟩ = some (.slice none 0 0) := by rw [Lib.cell_of_heap hbk1]; exact h11
  have c1' : (w.setCell ⟨b, 0, none⟩ (.pointer (some ⟨b, 0, none⟩))).drew.cell? ⟨b, 1, none⟩ = some (.slice none 0 0) := c1
  have hb1 : Below b w (w.setCell ⟨b, 0, none⟩ (.pointer (some ⟨b, 0, none⟩))) := (Below.refl b w).setCell (p := ⟨b, 0, none⟩) (Nat.le_refl _) _
  have hsize : (w.setCell ⟨b, 0, none⟩ (.pointer (some ⟨b, 0, none⟩))).heap.size = w.heap.size := by simp [World.setCell]
  have hs2 : (w.setCell ⟨b, 0, none⟩ (.pointer (some ⟨b, 0, none⟩))).drew.heap.size = w.heap.size := hsize
  have e95 : ∀ args w, (callFunc 95 args).run Tryd.prog w = .ok (.enter 95 args) w := enters_of Tryd.func95 (by kernel_rfl) rfl
  have e96 : ∀ args w, (callFunc 96 args).run Tryd.prog w = .ok (.enter 96 args) w := enters_of Tryd.func96 (by kernel_rfl) rfl
  have mixed : Tryd.prog.follows .mixedOrders = true := by kernel_rfl
  have hn' : ¬ ((n : Int) < 0) := by omega
  have hn2 : (0 : Int) < (n : Int) := by omega
  have hcc := copyCheck_fresh T (szT Tryd.prog T) b (by omega) hT w (by rw [Lib.cell_of_heap hbk]; exact h0) (by simp [World.shape?, hbk, hsz]) (Lib.frozen_of_heap hbk 0)
  have hgr := grow_fresh b n (w.setCell ⟨b, 0, none⟩ (.pointer (some ⟨b, 0, none⟩))).drew (c.setIfInBounds 0 (.pointer (some ⟨b, 0, none⟩))) T hbk1 h11 hn
  go_enter Tryd.func85, Tryd.ntmps85
  go_wp2_with (go_at_fn 95; refine hcc.mono ?_; rintro e w' ⟨rfl, rfl⟩)
  go_region_o
  all_goals go_wp2_with (go_at_fn 96; refine hgr.mono ?_; rintro e w' ⟨rfl, cs, h1, h2⟩)
  all_goals (go_end0; refine ⟨rfl, cs, ?_, hb1.drew.trans h2⟩; rw [hs2] at h1; exact h1.trans (by rw [← heap_two w b c T _ _ _ hbk]; rfl))
end Go.AM.Z
set_option linter.unusedVariables false
set_option linter.unusedSimpArgs false
set_option maxRecDepth 100000
namespace Go.AM.Z
open Go Go.AM Go.Proofs
attribute [local irreducible] run bin un ld st box newV mkS fldA fld ixA ix slc slc3 build buildS cv cvS ap cpy lenV gOp pickV b2 aIf aChk evalK resume iterD Option.bind

theorem gv_ok : GivenOK Tryd.prog gv := by
  intro f g h
  have hgv : gv f = (if f = 95 then some (gCopy Tryd.prog [100]) else if f = 85 then some (gGrow Tryd.prog [100] 5) else none) := rfl
  rw [hgv] at h
  by_cases hf : f = 95
  · rw [if_pos hf] at h
    cases h
    subst hf
    refine gCopy_ok ⟨_, Tryd.func95, by decide +kernel, by kernel_rfl⟩ (fun T hT b w h0 hsh hfz => ?_) (fun b w h0 => copyCheck_used b w h0)
    simp only [List.mem_cons, List.not_mem_nil, or_false] at hT
    subst hT
    exact copyCheck_fresh _ _ b (by have : szT Tryd.prog 100 = 2 := by kernel_rfl
                                    omega) (by kernel_rfl) w h0 hsh hfz
  · rw [if_neg hf] at h
    by_cases hf : f = 85
    · rw [if_pos hf] at h
      cases h
      subst hf
      have s2 : szT Tryd.prog 100 = 2 := by kernel_rfl
      refine gGrow_ok ⟨_, Tryd.func85, by decide +kernel, by kernel_rfl⟩ (by kernel_rfl) (fun T hT => ?_) (fun T hT b n w c hbk hsz h0 h1 hn0 hn => ?_)
      · simp only [List.mem_cons, List.not_mem_nil, or_false] at hT
        subst hT; omega
      · simp only [List.mem_cons, List.not_mem_nil, or_false] at hT
        subst hT
        exact Grow_fresh _ b n (by omega) (by kernel_rfl) w c hbk hsz h0 h1 hn0 hn
    · rw [if_neg hf] at h
      cases h
end Go.AM.Z
