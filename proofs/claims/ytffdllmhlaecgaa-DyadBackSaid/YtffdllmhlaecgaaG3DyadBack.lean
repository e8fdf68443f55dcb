/-
  Facts of the abstract evaluator and of the functions that the law reaches, part 3. Conditions: none.
-/
import Derived.ProofKit
import Derived.Deep.Slices
import Derived.DataElems
import Derived.DataReads
import Derived.ChangeArms
import Derived.ChangeSame
import Derived.Test.YtffdllmhlaecgaaG2DyadBack
set_option linter.unusedVariables false
set_option linter.unusedSimpArgs false
set_option linter.unnecessarySimpa false
set_option exponentiation.threshold 200000
set_option maxRecDepth 100000
set_option linter.unusedVariables false
set_option linter.unusedSimpArgs false
namespace Go.AM
open Go.RowKit

section
variable {P : Program} {call : CallF}

def cutM (m : Mp) (l : Nat) : Mp := fun b => if b < l then m b else none
theorem cutM_some {m : Mp} {l b : Nat} {L : Loc} (h : cutM m l b = some L) : b < l ∧ m b = some L := by
  unfold cutM at h
  split at h
  · rename_i hb; exact ⟨hb, h⟩
  · cases h
theorem cutM_of {m : Mp} {l b : Nat} {L : Loc} (h : b < l) (hm : m b = some L) : cutM m l b = some L := by rw [cutM, if_pos h, hm]
/-- All that a value leads to lies below l. -/
def Bel (l : Nat) (x : Value) : Prop := ∃ (mm : Mp) (y : Value), VRel mm x y ∧ ∀ b L, mm b = some L → b < l
theorem Bel.list {l : Nat} {mm : Mp} {xs ys : List Value} (h : LRel mm xs ys) (hb : ∀ b L, mm b = some L → b < l) : ∀ (i : Nat) (x : Value), xs[i]? = some x → Bel l x := by
  intro i x hx
  have hlt := (List.getElem?_eq_some_iff.1 hx).1
  have hy := List.getElem?_eq_getElem (show i < ys.length by rw [← h.1]; exact hlt)
  exact ⟨mm, _, h.2 i x _ hx hy, hb⟩
theorem VRel.cutB {m : Mp} {l : Nat} {x y : Value} (h : VRel m x y) : Bel l x → VRel (cutM m l) x y := by
  induction h with
  | unk v => intro _; exact .unk v
  | flat v hf => intro _; exact .flat v hf
  | ptr b off L hm =>
    intro hb
    obtain ⟨mm, y, hr, hl⟩ := hb
    obtain ⟨L', h1, _⟩ := hr.ptr_inv
    exact .ptr b off L (cutM_of (hl _ _ h1) hm)
  | slice b off off' len cap cap' L hm h1 h2 h3 h4 h5 h7 =>
    intro hb
    obtain ⟨mm, y, hr, hl⟩ := hb
    obtain ⟨L', _, _, h6, _⟩ := hr.slice_inv
    exact .slice b off off' len cap cap' L (cutM_of (hl _ _ h6) hm) h1 h2 h3 h4 h5 h7
  | agg xs ys hs _ ih =>
    intro hb
    obtain ⟨mm, y, hr, hl⟩ := hb
    obtain ⟨zs, rfl, hlr⟩ := hr.agg_inv
    exact .agg xs ys hs fun i x y hx hy => ih i x y hx hy (Bel.list hlr hl i x (by simpa using hx))
  | tuple xs ys hs _ ih =>
    intro hb
    obtain ⟨mm, y, hr, hl⟩ := hb
    obtain ⟨zs, rfl, hlr⟩ := hr.tuple_inv
    exact .tuple xs ys hs fun i x y hx hy => ih i x y hx hy (Bel.list hlr hl i x (by simpa using hx))
  | func f a b a' b' h1 _ h2 _ ih1 ih2 =>
    intro hb
    obtain ⟨mm, y, hr, hl⟩ := hb
    have hsp : LRel mm a.toList (match y with | .func _ u _ => u.toList | _ => []) ∧ LRel mm b.toList (match y with | .func _ _ u => u.toList | _ => []) := by
      cases hr with
      | flat v hf => simp [flat1] at hf
      | func f a b a' b' h1 h2 h3 h4 => exact ⟨⟨by simpa using h1, fun i x y hx hy => h2 i x y (by simpa using hx) (by simpa using hy)⟩, ⟨by simpa using h3, fun i x y hx hy => h4 i x y (by simpa using hx) (by simpa using hy)⟩⟩
    exact .func f a b a' b' h1 (fun i x y hx hy => ih1 i x y hx hy (Bel.list hsp.1 hl i x (by simpa using hx))) h2 (fun i x y hx hy => ih2 i x y hx hy (Bel.list hsp.2 hl i x (by simpa using hx)))
/-- What holds behind an operation whatever it comes to, holds. -/
theorem wp_const {o : Oper} {a : Act} {w : World} {C : Prop} (h : o.wp P a w (fun _ _ => C) (fun _ _ _ => C)) : C := by
  unfold Oper.wp at h
  generalize (execOp a.eval o).run P w = res at h
  cases res with
  | halt hh w' => cases hh <;> simp only [Oper.upon] at h <;> exact h
  | ok n w' =>
    cases n <;> simp only [Oper.upon] at h
    case enter f args =>
      obtain ⟨e, w'', fr, hR, _⟩ := h []
      cases e with
      | returned v => exact hR
      | panicked c => exact hR
      | outgrown => obtain ⟨_, _, hc⟩ := hR; exact hc
    case row row args =>
      obtain ⟨v, w'', hR, _⟩ := h default []
      exact hR
    all_goals exact h
theorem read_res {ρ : Operand → Value} {op : Op} {f : AH → Option Value} (hf : opRead P ρ op = some f) (H : AH) : aRes P call ρ op H = (f H).bind fun v => some (v, H) := by
  unfold opRead at hf
  split at hf
  · cases hf; rfl
  · rename_i s d x
    cases hb : isBytesToString P s d with
    | true => rw [hb] at hf; cases hf; unfold aRes; simp only [aOp, hb, cond_true]
    | false => rw [hb] at hf; cases hf
  · cases hf
section
variable {ops : Array Oper} {bs : List Nat} {tT : Nat → List Value} {tH : Nat → AH} {sk : Nat → Bool} {vl : Nat → Value}
theorem Tr.res (X : Tr P call ops bs 0 tT tH sk vl) {j : Nat} {o : Oper} (ho : ops[j]? = some o) (hs : sk j = false) : aRes P call (opv (tT j)) o.op (tH j) = some (vl j, tH (j + 1)) := by
  cases hf : opRead P (opv (tT j)) o.op with
  | none => exact X.other j o (Nat.zero_le _) ho hs hf
  | some f =>
    obtain ⟨h1, h2⟩ := X.read j o f (Nat.zero_le _) ho hs hf
    rw [read_res hf, h1, h2]
    rfl
/-- The text's own order can be walked. -/
theorem Tr.walk (hcall : CallOK P call) (X : Tr P call ops bs 0 tT tH sk vl) {B0 : Nat} {w0 : World} {m : Mp} {a : Act} {w : World} (R0 : Rel P B0 w0 m (tH 0) w) (hT : LRel m (tT 0) a.tmps.toList) :
    ∀ j, j ≤ ops.size → ∃ (m' : Mp) (a' : Act) (w' : World), Ext m (tH 0) w m' (tH j) w' ∧ Rel P B0 w0 m' (tH j) w' ∧ LRel m' (tT j) a'.tmps.toList
  | 0, _ => ⟨m, a, w, Ext.refl _ _ _, R0, hT⟩
  | j + 1, hj => by
    obtain ⟨m1, a1, w1, E1, R1, T1⟩ := Tr.walk hcall X R0 hT j (by omega)
    have ho : ops[j]? = some ops[j] := Array.getElem?_eq_getElem (by omega)
    cases hs : sk j with
    | true =>
      obtain ⟨_, h2, h3⟩ := X.skip j _ (Nat.zero_le _) ho hs
      rw [X.step j _ (Nat.zero_le _) ho, h2, h3]
      exact ⟨m1, a1.put ops[j].dst undef, w1, E1, R1, put_rel T1 _ (VRel.undef _)⟩
    | false =>
      have h1 := res_sound hcall (X.res ho hs) R1 T1
      refine wp_const (h1 (fun _ _ => _) (fun _ _ _ => _) fun m' v' w' E R' hv => ?_)
      rw [X.step j _ (Nat.zero_le _) ho]
      exact ⟨m', a1.put ops[j].dst v', w', Ext.trans (fun b L hb => (R0.dom b L hb).1) E1 E, R', put_rel (T1.mono E.mono) _ hv⟩
/-- From one step to the next. -/
theorem Tr.next (hcall : CallOK P call) (X : Tr P call ops bs 0 tT tH sk vl) {B0 : Nat} {w0 : World} {m : Mp} {a : Act} {w : World} (R0 : Rel P B0 w0 m (tH 0) w) (hT : LRel m (tT 0) a.tmps.toList) {j : Nat} (hj : j < ops.size) :
    (tH j).length ≤ (tH (j + 1)).length ∧ ∀ b k', b < (tH j).length → blk (tH (j + 1)) b = some k' → ∃ k, blk (tH j) b = some k ∧ k.kind = k'.kind := by
  obtain ⟨m1, a1, w1, E1, R1, T1⟩ := X.walk hcall R0 hT j (by omega)
  have ho : ops[j]? = some ops[j] := Array.getElem?_eq_getElem (by omega)
  cases hs : sk j with
  | true =>
    obtain ⟨_, _, h3⟩ := X.skip j _ (Nat.zero_le _) ho hs
    rw [h3]
    exact ⟨Nat.le_refl _, fun b k' _ hk => ⟨k', hk, rfl⟩⟩
  | false =>
    have h1 := res_sound hcall (X.res ho hs) R1 T1
    exact wp_const (h1 (fun _ _ => _) (fun _ _ _ => _) fun m' v' w' E R' hv => ⟨E.len, E.alive⟩)
theorem Tr.bel (hcall : CallOK P call) (X : Tr P call ops bs 0 tT tH sk vl) {B0 : Nat} {w0 : World} {m : Mp} {a : Act} {w : World} (R0 : Rel P B0 w0 m (tH 0) w) (hT : LRel m (tT 0) a.tmps.toList) {j : Nat} (hj : j ≤ ops.size) (s : Nat) (x : Value) (hx : (tT j)[s]? = some x) :
    Bel (tH j).length x := by
  obtain ⟨m1, a1, w1, E1, R1, T1⟩ := X.walk hcall R0 hT j hj
  exact Bel.list T1 (fun b L hb => (R1.dom b L hb).1) s x hx
theorem Tr.lens (hcall : CallOK P call) (X : Tr P call ops bs 0 tT tH sk vl) {B0 : Nat} {w0 : World} {m : Mp} {a : Act} {w : World} (R0 : Rel P B0 w0 m (tH 0) w) (hT : LRel m (tT 0) a.tmps.toList) (i : Nat) : ∀ d, i + d ≤ ops.size → (tH i).length ≤ (tH (i + d)).length ∧ ∀ b k', b < (tH i).length → blk (tH (i + d)) b = some k' → ∃ k, blk (tH i) b = some k ∧ k.kind = k'.kind
  | 0, _ => ⟨Nat.le_refl _, fun b k' _ hk => ⟨k', hk, rfl⟩⟩
  | d + 1, hd => by
    obtain ⟨h1, h2⟩ := Tr.lens hcall X R0 hT i d (by omega)
    obtain ⟨h3, h4⟩ := X.next hcall R0 hT (j := i + d) (by omega)
    refine ⟨Nat.le_trans h1 h3, fun b k' hb hk => ?_⟩
    obtain ⟨k1, h5, h6⟩ := h4 b k' (Nat.lt_of_lt_of_le hb h1) hk
    obtain ⟨k2, h7, h8⟩ := h2 b k1 hb h5
    exact ⟨k2, h7, h8.trans h6⟩
/-- An acting operation that is done. -/
def eE (ops : Array Oper) (sk : Nat → Bool) (j : Nat) : Bool := (ops[j]?).any (fun o => isEff o.op) && !sk j
/-- An operation that doesn't act leaves the blocks that there are; if it makes one, it is told which. -/
theorem Tr.noeff (X : Tr P call ops bs 0 tT tH sk vl) {j : Nat} (hj : j < ops.size) (he : eE ops sk j = false) : (tH (j + 1) = tH j) ∨ ∃ k : Blk, k.kind = .fix ∧ tH (j + 1) = tH j ++ [some k] := by
  have ho : ops[j]? = some ops[j] := Array.getElem?_eq_getElem (by omega)
  cases hs : sk j with
  | true => exact .inl (X.skip j _ (Nat.zero_le _) ho hs).2.2
  | false =>
    have heff : isEff ops[j].op = false := by simpa [eE, ho, hs] using he
    cases hf : opRead P (opv (tT j)) ops[j].op with
    | some f => exact .inl (X.read j _ f (Nat.zero_le _) ho hs hf).2
    | none =>
      have h1 := X.other j _ (Nat.zero_le _) ho hs hf
      cases ha : isAlloc ops[j].op with
      | true => obtain ⟨k, h2, h3, _⟩ := alloc_res ha h1; exact .inr ⟨k, h2.1, h3⟩
      | false => exact .inl (pure_res heff hf ha h1).1
theorem blk_app_old {H : AH} {b : Nat} (k : Option Blk) (h : b < H.length) : blk (H ++ [k]) b = blk H b := by
  unfold blk
  rw [List.getElem?_append_left h]
theorem Tr.same (X : Tr P call ops bs 0 tT tH sk vl) (i : Nat) : ∀ d, i + d ≤ ops.size → (∀ e, i ≤ e → e < i + d → eE ops sk e = false) → (tH i).length ≤ (tH (i + d)).length ∧ ∀ b, b < (tH i).length → blk (tH (i + d)) b = blk (tH i) b
  | 0, _, _ => ⟨Nat.le_refl _, fun b _ => rfl⟩
  | d + 1, hd, he => by
    obtain ⟨h1, h2⟩ := Tr.same X i d (by omega) fun e h1 h2 => he e h1 (by omega)
    rcases X.noeff (j := i + d) (by omega) (he (i + d) (by omega) (by omega)) with h3 | ⟨k, _, h3⟩
    · rw [show i + (d + 1) = i + d + 1 by omega, h3]; exact ⟨h1, h2⟩
    · rw [show i + (d + 1) = i + d + 1 by omega, h3]
      exact ⟨by simp; omega, fun b hb => by rw [blk_app_old _ (Nat.lt_of_lt_of_le hb h1)]; exact h2 b hb⟩
end
end
end Go.AM
set_option linter.unusedVariables false
set_option linter.unusedSimpArgs false
namespace Go.AM
open Go.RowKit

theorem BRel.world {P : Program} {B0 : Nat} {m : Mp} {L : Loc} {k : Blk} {w w1 : World} (h : BRel P B0 m L k w) (e : w1.heap[L.blk]? = w.heap[L.blk]?) : BRel P B0 m L k w1 := by
  obtain ⟨h1, ⟨c, e', fr, h2, h3⟩, h4, h5⟩ := h
  exact ⟨h1, ⟨c, e', fr, by rw [e]; exact h2, h3⟩, h4, h5⟩
theorem BRel.mono {P : Program} {B0 : Nat} {m m' : Mp} {L : Loc} {k : Blk} {w : World} (hm : ∀ b L, m b = some L → m' b = some L) (h : BRel P B0 m L k w) : BRel P B0 m' L k w := by
  obtain ⟨h1, ⟨c, e', fr, h2, h3, h3'⟩, h4, h5⟩ := h
  exact ⟨h1, ⟨c, e', fr, h2, h3.mono hm, h3'⟩, h4, h5⟩
section
variable (tH : Nat → AH) (n : Nat)
open Classical in
/-- A block's content where it is made. -/
noncomputable def ini (b : Nat) : Option Blk := if h : ∃ j, j < n ∧ (tH j).length ≤ b ∧ b < (tH (j + 1)).length then blk (tH (Classical.choose h + 1)) b else none
noncomputable def kb (q b : Nat) : Option Blk := if b < (tH q).length then blk (tH q) b else ini tH n b
variable {tH n}
theorem ini_eq (hmono : ∀ i d, i + d ≤ n → (tH i).length ≤ (tH (i + d)).length) {j b : Nat} (hj : j < n) (h1 : (tH j).length ≤ b) (h2 : b < (tH (j + 1)).length) : ini tH n b = blk (tH (j + 1)) b := by
  have h : ∃ j, j < n ∧ (tH j).length ≤ b ∧ b < (tH (j + 1)).length := ⟨j, hj, h1, h2⟩
  unfold ini
  rw [dif_pos h]
  obtain ⟨g1, g2, g3⟩ := Classical.choose_spec h
  have : Classical.choose h = j := by
    rcases Nat.lt_trichotomy (Classical.choose h) j with hlt | heq | hgt
    · have := hmono (Classical.choose h + 1) (j - (Classical.choose h + 1)) (by omega)
      rw [show Classical.choose h + 1 + (j - (Classical.choose h + 1)) = j by omega] at this
      omega
    · exact heq
    · have := hmono (j + 1) (Classical.choose h - (j + 1)) (by omega)
      rw [show j + 1 + (Classical.choose h - (j + 1)) = Classical.choose h by omega] at this
      omega
  rw [this]
end
structure VR (P : Program) (B0 : Nat) (w0 : World) (tH : Nat → AH) (n q : Nat) (m : Mp) (w : World) : Prop where
  below : Below B0 w0 w
  hB : B0 ≤ w.heap.size
  dom : ∀ b L, m b = some L → b < (tH n).length ∧ L.blk < w.heap.size
  blks : ∀ b L k, m b = some L → kb tH n q b = some k → BRel P B0 (cutM m (max (tH q).length (b + 1))) L k w
  inj : ∀ b1 b2 L1 L2 k1 k2, m b1 = some L1 → m b2 = some L2 → kb tH n q b1 = some k1 → kb tH n q b2 = some k2 → k1.kind ≠ .ro → b1 ≠ b2 → L1.blk ≠ L2.blk
section
variable {P : Program} {B0 : Nat} {w0 : World} {tH : Nat → AH} {n q : Nat} {m : Mp} {w : World}
theorem kb_lt {b : Nat} (h : b < (tH q).length) : kb tH n q b = blk (tH q) b := if_pos h
theorem kb_ge {b : Nat} (h : (tH q).length ≤ b) : kb tH n q b = ini tH n b := if_neg (by omega)
theorem VR.rel (h : VR P B0 w0 tH n q m w) : Rel P B0 w0 (cutM m (tH q).length) (tH q) w := by
  refine ⟨h.below, h.hB, fun b L hm => ?_, fun b L k hm hk => ?_, fun b1 b2 L1 L2 k1 k2 hm1 hm2 hk1 hk2 hne hbb => ?_⟩
  · obtain ⟨h1, h2⟩ := cutM_some hm
    exact ⟨h1, (h.dom b L h2).2⟩
  · obtain ⟨h1, h2⟩ := cutM_some hm
    have := h.blks b L k h2 (by rw [kb_lt h1]; exact hk)
    rwa [Nat.max_eq_left (by omega)] at this
  · obtain ⟨h1, h2⟩ := cutM_some hm1
    obtain ⟨h3, h4⟩ := cutM_some hm2
    exact h.inj b1 b2 L1 L2 k1 k2 h2 h4 (by rw [kb_lt h1]; exact hk1) (by rw [kb_lt h3]; exact hk2) hne hbb
def padH (tH : Nat → AH) (n q : Nat) : AH := tH q ++ List.replicate ((tH n).length - (tH q).length) none
theorem blk_pad {b : Nat} {k : Blk} (h : blk (padH tH n q) b = some k) : b < (tH q).length ∧ blk (tH q) b = some k := by
  unfold padH at h
  rcases Nat.lt_or_ge b (tH q).length with h1 | h1
  · refine ⟨h1, ?_⟩
    unfold blk at h ⊢
    rwa [List.getElem?_append_left h1] at h
  · unfold blk at h
    rw [List.getElem?_append_right h1] at h
    rw [List.getElem?_replicate] at h
    split at h <;> cases h
theorem VR.pad (h : VR P B0 w0 tH n q m w) (hl : (tH q).length ≤ (tH n).length) : Rel P B0 w0 m (padH tH n q) w := by
  refine ⟨h.below, h.hB, fun b L hm => ?_, fun b L k hm hk => ?_, fun b1 b2 L1 L2 k1 k2 hm1 hm2 hk1 hk2 hne hbb => ?_⟩
  · have := h.dom b L hm
    refine ⟨?_, this.2⟩
    unfold padH
    rw [List.length_append, List.length_replicate]
    omega
  · obtain ⟨h1, h2⟩ := blk_pad hk
    exact (h.blks b L k hm (by rw [kb_lt h1]; exact h2)).mono fun b L hb => (cutM_some hb).2
  · obtain ⟨h1, h2⟩ := blk_pad hk1
    obtain ⟨h3, h4⟩ := blk_pad hk2
    exact h.inj b1 b2 L1 L2 k1 k2 hm1 hm2 (by rw [kb_lt h1]; exact h2) (by rw [kb_lt h3]; exact h4) hne hbb
theorem blk_dead (l b : Nat) : blk (List.replicate l none) b = none := by
  unfold blk
  rw [List.getElem?_replicate]
  split <;> rfl
theorem VR.dead (h : VR P B0 w0 tH n q m w) (l : Nat) : Rel P B0 w0 (cutM m l) (List.replicate l none) w := by
  refine ⟨h.below, h.hB, fun b L hm => ?_, fun b L k hm hk => (by rw [blk_dead] at hk; cases hk), fun b1 b2 L1 L2 k1 k2 hm1 hm2 hk1 hk2 hne hbb => (by rw [blk_dead] at hk1; cases hk1)⟩
  obtain ⟨h1, h2⟩ := cutM_some hm
  exact ⟨by rw [List.length_replicate]; exact h1, (h.dom b L h2).2⟩
/-- The world has moved on, its blocks are as they were. -/
theorem VR.still (h : VR P B0 w0 tH n q m w) {w1 : World} (hb : Below B0 w0 w1) (hs : w.heap.size ≤ w1.heap.size) (hw : ∀ B, B < w.heap.size → w1.heap[B]? = w.heap[B]?) : VR P B0 w0 tH n q m w1 :=
  ⟨hb, Nat.le_trans h.hB hs, fun b L hm => ⟨(h.dom b L hm).1, Nat.lt_of_lt_of_le (h.dom b L hm).2 hs⟩, fun b L k hm hk => (h.blks b L k hm hk).world (hw _ (h.dom b L hm).2), h.inj⟩
/-- A block more. -/
theorem VR.alloc (h : VR P B0 w0 tH n q m w) {w1 : World} (hb : Below B0 w0 w1) (hs : w.heap.size ≤ w1.heap.size) (hw : ∀ B, B < w.heap.size → w1.heap[B]? = w.heap[B]?) {l : Nat} {L : Loc} {k : Blk} (hl : l < (tH n).length) (hm : m l = none) (hk : kb tH n q l = some k)
    (hL : w.heap.size ≤ L.blk) (hL1 : L.blk < w1.heap.size) (hB : BRel P B0 (cutM (upd m l L) (l + 1)) L k w1) : VR P B0 w0 tH n q (upd m l L) w1 := by
  have hmono : ∀ b L', m b = some L' → upd m l L b = some L' := fun b L' h1 => by
    unfold upd
    split
    · rename_i he; subst he; rw [hm] at h1; cases h1
    · exact h1
  have old : ∀ b2 L2, upd m l L b2 = some L2 → (b2 = l ∧ L2 = L) ∨ (b2 ≠ l ∧ m b2 = some L2) := by
    intro b2 L2 h2
    unfold upd at h2
    split at h2
    · rename_i hb; cases h2; exact .inl ⟨hb, rfl⟩
    · rename_i hb; exact .inr ⟨hb, h2⟩
  have h1 := h.still hb hs hw
  refine ⟨hb, h1.hB, fun b L' hb' => ?_, fun b L' k' hb' hk' => ?_, fun b1 b2 L1 L2 k1 k2 hm1 hm2 hk1 hk2 hne hbb => ?_⟩
  · rcases old b L' hb' with ⟨rfl, rfl⟩ | ⟨_, h2⟩
    · exact ⟨hl, hL1⟩
    · exact h1.dom b L' h2
  · rcases old b L' hb' with ⟨rfl, rfl⟩ | ⟨_, h2⟩
    · rw [hk] at hk'
      cases hk'
      exact hB.mono fun b' L'' h3 => by obtain ⟨h4, h5⟩ := cutM_some h3; exact cutM_of (by omega) h5
    · exact (h1.blks b L' k' h2 hk').mono fun b' L'' h3 => by obtain ⟨h4, h5⟩ := cutM_some h3; exact cutM_of h4 (hmono _ _ h5)
  · rcases old b1 L1 hm1 with ⟨rfl, rfl⟩ | ⟨_, h2⟩
    · rcases old b2 L2 hm2 with ⟨rfl, rfl⟩ | ⟨_, h3⟩
      · exact (hbb rfl).elim
      · have := (h.dom b2 L2 h3).2; omega
    · rcases old b2 L2 hm2 with ⟨rfl, rfl⟩ | ⟨_, h3⟩
      · have := (h.dom b1 L1 h2).2; omega
      · exact h.inj b1 b2 L1 L2 k1 k2 h2 h3 hk1 hk2 hne hbb
/-- What acts is done. -/
def mrg (m1 m : Mp) (l1 : Nat) : Mp := fun b => if b < l1 then m1 b else m b
theorem VR.eff (h : VR P B0 w0 tH n q m w) {q' : Nat} {m1 : Mp} {w1 : World} (hq : q < q') (hq' : q' ≤ n) (hlen : (tH q).length ≤ (tH (q + 1)).length) (hsame : (tH (q + 1)).length ≤ (tH q').length ∧ ∀ b, b < (tH (q + 1)).length → blk (tH q') b = blk (tH (q + 1)) b)
    (hini : ∀ b, (tH (q + 1)).length ≤ b → b < (tH q').length → blk (tH q') b = ini tH n b) (hle : (tH q').length ≤ (tH n).length)
    (R1 : Rel P B0 w0 m1 (tH (q + 1)) w1) (E : Ext (cutM m (tH q).length) (tH q) w m1 (tH (q + 1)) w1) (hnew : ∀ b, (tH q).length ≤ b → b < (tH (q + 1)).length → m b = none) :
    VR P B0 w0 tH n q' (mrg m1 m (tH (q + 1)).length) w1 ∧ (∀ b L, m b = some L → mrg m1 m (tH (q + 1)).length b = some L) := by
  have hmono : ∀ b L, m b = some L → mrg m1 m (tH (q + 1)).length b = some L := by
    intro b L hb
    unfold mrg
    split
    · rename_i hlt
      rcases Nat.lt_or_ge b (tH q).length with h1 | h1
      · exact E.mono b L (cutM_of h1 hb)
      · rw [hnew b h1 hlt] at hb; cases hb
    · exact hb
  have hmono1 : ∀ b L, m1 b = some L → mrg m1 m (tH (q + 1)).length b = some L := by
    intro b L hb
    unfold mrg
    rw [if_pos (R1.dom b L hb).1]
    exact hb
  have old : ∀ b L, mrg m1 m (tH (q + 1)).length b = some L → (b < (tH (q + 1)).length ∧ m1 b = some L) ∨ ((tH (q + 1)).length ≤ b ∧ m b = some L) := by
    intro b L hb
    unfold mrg at hb
    split at hb
    · rename_i h1; exact .inl ⟨h1, hb⟩
    · rename_i h1; exact .inr ⟨by omega, hb⟩
  -- what lies beyond is as it was
  have kbeyond : ∀ b, (tH (q + 1)).length ≤ b → kb tH n q' b = kb tH n q b := by
    intro b hb
    rw [kb_ge (q := q) (by omega)]
    rcases Nat.lt_or_ge b (tH q').length with h1 | h1
    · rw [kb_lt h1]; exact hini b hb h1
    · exact kb_ge h1
  have wbeyond : ∀ b L k, (tH (q + 1)).length ≤ b → m b = some L → kb tH n q b = some k → w1.heap[L.blk]? = w.heap[L.blk]? := by
    intro b L k hb hm hk
    refine E.frame _ (h.dom b L hm).2 fun b2 L2 k2 hm2 hk2 hne => ?_
    obtain ⟨h1, h2⟩ := cutM_some hm2
    exact h.inj b2 b L2 L k2 k h2 hm (by rw [kb_lt h1]; exact hk2) hk hne (by omega)
  -- where a block of the lesser heap may lie
  have place : ∀ b L k, m1 b = some L → blk (tH (q + 1)) b = some k → ∀ b2 L2 k2, (tH (q + 1)).length ≤ b2 → m b2 = some L2 → kb tH n q b2 = some k2 → (k.kind ≠ .ro ∨ k2.kind ≠ .ro) → L.blk ≠ L2.blk := by
    intro b L k hm hk b2 L2 k2 hb2 hm2 hk2 hor
    rcases E.new b L hm with h1 | ⟨h1, h3 | ⟨b0, L0, k0, h3, h4, h5, h6⟩⟩
    · obtain ⟨h3, h4⟩ := cutM_some h1
      obtain ⟨k', h5, h6⟩ := E.alive b k h3 hk
      rcases hor with hor | hor
      · exact h.inj b b2 L L2 k' k2 h4 hm2 (by rw [kb_lt h3]; exact h5) hk2 (by rw [h6]; exact hor) (by omega)
      · exact Ne.symm (h.inj b2 b L2 L k2 k' hm2 h4 hk2 (by rw [kb_lt h3]; exact h5) hor (by omega))
    · have := (h.dom b2 L2 hm2).2; omega
    · obtain ⟨h7, h8⟩ := cutM_some h3
      rw [← h6]
      exact h.inj b0 b2 L0 L2 k0 k2 h8 hm2 (by rw [kb_lt h7]; exact h4) hk2 h5 (by omega)
  refine ⟨⟨R1.below, R1.hB, fun b L hb => ?_, fun b L k hb hk => ?_, fun b1 b2 L1 L2 k1 k2 hm1 hm2 hk1 hk2 hne hbb => ?_⟩, hmono⟩
  · rcases old b L hb with ⟨h1, h2⟩ | ⟨h1, h2⟩
    · exact ⟨by omega, (R1.dom b L h2).2⟩
    · exact ⟨(h.dom b L h2).1, Nat.lt_of_lt_of_le (h.dom b L h2).2 E.size⟩
  · rcases old b L hb with ⟨h1, h2⟩ | ⟨h1, h2⟩
    · rw [kb_lt (by omega), hsame.2 b h1] at hk
      exact (R1.blks b L k h2 hk).mono fun b' L' h3 => cutM_of (by have := (R1.dom b' L' h3).1; omega) (hmono1 b' L' h3)
    · rw [kbeyond b h1] at hk
      refine ((h.blks b L k h2 hk).world (wbeyond b L k h1 h2 hk)).mono fun b' L' h3 => ?_
      obtain ⟨h4, h5⟩ := cutM_some h3
      exact cutM_of (by omega) (hmono b' L' h5)
  · rcases old b1 L1 hm1 with ⟨h1, h2⟩ | ⟨h1, h2⟩
    · rw [kb_lt (by omega), hsame.2 b1 h1] at hk1
      rcases old b2 L2 hm2 with ⟨h3, h4⟩ | ⟨h3, h4⟩
      · rw [kb_lt (by omega), hsame.2 b2 h3] at hk2
        exact R1.inj b1 b2 L1 L2 k1 k2 h2 h4 hk1 hk2 hne hbb
      · rw [kbeyond b2 h3] at hk2
        exact place b1 L1 k1 h2 hk1 b2 L2 k2 h3 h4 hk2 (.inl hne)
    · rw [kbeyond b1 h1] at hk1
      rcases old b2 L2 hm2 with ⟨h3, h4⟩ | ⟨h3, h4⟩
      · rw [kb_lt (by omega), hsame.2 b2 h3] at hk2
        exact Ne.symm (place b2 L2 k2 h4 hk2 b1 L1 k1 h1 h2 hk1 (.inr hne))
      · rw [kbeyond b2 h3] at hk2
        exact h.inj b1 b2 L1 L2 k1 k2 h2 h4 hk1 hk2 hne hbb
end
end Go.AM
set_option linter.unusedVariables false
set_option linter.unusedSimpArgs false
namespace Go.AM
open Go.RowKit

section
variable {P : Program} {call : CallF} {ops : Array Oper}
def dstAt (ops : Array Oper) (i : Nat) : Option Tmp := (ops[i]?).bind (·.dst)
def sv (ops : Array Oper) (vl : Nat → Value) (T0 : List Value) (D : Nat → Bool) : Nat → Nat → Value
  | 0, s => T0.getD s undef
  | i + 1, s => if D i = true ∧ dstAt ops i = some s then vl i else sv ops vl T0 D i s
def svL (ops : Array Oper) (vl : Nat → Value) (T0 : List Value) (D : Nat → Bool) : List Value := (List.range T0.length).map (sv ops vl T0 D ops.size)
variable {vl : Nat → Value} {T0 : List Value}
theorem svL_length (D : Nat → Bool) : (svL ops vl T0 D).length = T0.length := by simp [svL]
theorem svL_getD (D : Nat → Bool) {s : Nat} (hs : s < T0.length) : (svL ops vl T0 D).getD s undef = sv ops vl T0 D ops.size s := by
  unfold svL
  rw [List.getD_eq_getElem?_getD, List.getElem?_map, List.getElem?_range hs]
  rfl
theorem sv_congr {D D' : Nat → Bool} {s : Nat} : ∀ i, (∀ j, j < i → dstAt ops j = some s → D j = D' j) → sv ops vl T0 D i s = sv ops vl T0 D' i s
  | 0, _ => rfl
  | i + 1, h => by
    have ih := sv_congr (D := D) (D' := D') i fun j hj => h j (by omega)
    unfold sv
    rw [ih]
    by_cases hd : dstAt ops i = some s
    · rw [h i (by omega) hd]
    · rw [if_neg (fun hh => hd hh.2), if_neg (fun hh => hd hh.2)]
theorem sv_cut {D : Nat → Bool} {s i : Nat} : ∀ d, (∀ j, i ≤ j → j < i + d → dstAt ops j = some s → D j = false) → sv ops vl T0 D (i + d) s = sv ops vl T0 D i s
  | 0, _ => rfl
  | d + 1, h => by
    have ih := sv_cut (D := D) (s := s) (i := i) d fun j h1 h2 => h j h1 (by omega)
    have e : sv ops vl T0 D (i + (d + 1)) s = if D (i + d) = true ∧ dstAt ops (i + d) = some s then vl (i + d) else sv ops vl T0 D (i + d) s := rfl
    rw [e, if_neg]
    · exact ih
    · intro hh
      have := h (i + d) (by omega) (by omega) hh.2
      rw [hh.1] at this
      cases this
theorem tT_sv {tT : Nat → List Value} (h0 : tT 0 = T0) (hstep : ∀ j o, ops[j]? = some o → tT (j + 1) = putT (tT j) o.dst (vl j)) : ∀ j, j ≤ ops.size → (tT j).length = T0.length ∧ ∀ s, s < T0.length → (tT j).getD s undef = sv ops vl T0 (fun _ => true) j s
  | 0, _ => by rw [h0]; exact ⟨rfl, fun s _ => rfl⟩
  | j + 1, hj => by
    obtain ⟨h1, h2⟩ := tT_sv h0 hstep j (by omega)
    have ho : ops[j]? = some ops[j] := Array.getElem?_eq_getElem (by omega)
    rw [hstep j _ ho]
    have hd : dstAt ops j = ops[j].dst := by simp [dstAt, ho]
    cases hdst : ops[j].dst with
    | none =>
      refine ⟨h1, fun s hs => ?_⟩
      unfold sv
      rw [if_neg (by rw [hd, hdst]; simp)]
      exact h2 s hs
    | some d =>
      refine ⟨by simp [putT, h1], fun s hs => ?_⟩
      unfold sv
      rw [hd, hdst]
      by_cases he : d = s
      · subst he
        rw [if_pos ⟨rfl, rfl⟩]
        simp only [putT]
        rw [List.getD_eq_getElem?_getD, List.getElem?_set_self (by omega)]
        rfl
      · rw [if_neg (by simp [he])]
        simp only [putT]
        rw [List.getD_eq_getElem?_getD, List.getElem?_set_ne he, ← List.getD_eq_getElem?_getD]
        exact h2 s hs
/-- What the region's own test says of two operations. -/
theorem regOK_pair (hreg : regOK ops = true) {i j : Nat} (hij : i < j) {oi oj : Oper} (hi : ops[i]? = some oi) (hj : ops[j]? = some oj) : ordB (befL [] ops.toList) i j = true ∨ ((isEff oi.op = true → isEff oj.op = true → False) ∧ oi.apart ops oj = true ∧ oj.apart ops oi = true) := by
  unfold regOK at hreg
  rw [Bool.and_eq_true] at hreg
  have h1 := List.all_eq_true.1 hreg.2 j (List.mem_range.2 (Array.getElem?_eq_some_iff.1 hj).1)
  have h2 := List.all_eq_true.1 h1 i (List.mem_range.2 hij)
  rw [Bool.or_eq_true] at h2
  rcases h2 with h2 | h2
  · exact .inl h2
  · right
    simp only [hi, hj, Option.any_some, Bool.and_eq_true, Bool.not_eq_true', Bool.and_eq_false_iff] at h2
    refine ⟨fun h3 h4 => ?_, h2.1.2, h2.2⟩
    rcases h2.1.1 with h5 | h5
    · rw [h3] at h5; cases h5
    · rw [h4] at h5; cases h5
theorem regOK_edge (hreg : regOK ops = true) {j : Nat} {o : Oper} (ho : ops[j]? = some o) {e : Edge} (he : e ∈ o.after) (hb : Region.binds .any e = true) : e.on < j := by
  unfold regOK at hreg
  rw [Bool.and_eq_true] at hreg
  have h1 := List.all_eq_true.1 hreg.1 j (List.mem_range.2 (Array.getElem?_eq_some_iff.1 ho).1)
  simp only [ho, Option.any_some] at h1
  have h2 := Array.all_eq_true'.1 h1 e he
  simpa [hb] using h2
/-- The operation is ready: what it comes behind is done, it is not. -/
structure Ready (ops : Array Oper) (D : Nat → Bool) (j : Nat) (o : Oper) : Prop where
  op : ops[j]? = some o
  down : Down ops (fun i => D i = true)
  edges : ∀ e ∈ o.after, Region.binds .any e = true → D e.on = true
  not : D j = false
variable {D : Nat → Bool} {j : Nat} {o : Oper}
theorem Ready.before (h : Ready ops D j o) {i : Nat} (ho : ordB (befL [] ops.toList) i j = true) : D i = true := ordB_down h.down j o h.op h.edges i ho
theorem Ready.behind (h : Ready ops D j o) {i : Nat} {oi : Oper} (hi : ops[i]? = some oi) (ho : ordB (befL [] ops.toList) j i = true) : D i = false := by
  cases hD : D i with
  | false => rfl
  | true =>
    have := ordB_down h.down i oi hi (fun e he hb => h.down i oi hi hD e he hb) j ho
    have h2 := h.not
    rw [this] at h2
    cases h2
theorem Ready.slots (hreg : regOK ops = true) (h : Ready ops D j o) {s : Tmp} (hs : s ∈ o.looksAt ops) : sv ops vl T0 D ops.size s = sv ops vl T0 (fun _ => true) j s := by
  have hj : j < ops.size := (Array.getElem?_eq_some_iff.1 h.op).1
  have e1 : sv ops vl T0 D ops.size s = sv ops vl T0 D j s := by
    have := sv_cut (ops := ops) (vl := vl) (T0 := T0) (D := D) (s := s) (i := j) (ops.size - j) fun i h1 h2 hd => ?_
    · rwa [show j + (ops.size - j) = ops.size by omega] at this
    · by_cases hij : i = j
      · subst hij; exact h.not
      · have hi : ops[i]? = some ops[i] := Array.getElem?_eq_getElem (by omega)
        rcases regOK_pair hreg (show j < i by omega) h.op hi with h3 | ⟨_, h3, _⟩
        · exact h.behind hi h3
        · obtain ⟨_, _, h5⟩ := Oper.apart_spec h3
          exact absurd hs (h5 s (by simpa [dstAt, hi] using hd))
  rw [e1]
  refine sv_congr j fun i hij hd => ?_
  have hi : ops[i]? = some ops[i] := Array.getElem?_eq_getElem (by omega)
  rcases regOK_pair hreg hij hi h.op with h3 | ⟨_, h3, _⟩
  · exact h.before h3
  · obtain ⟨h4, _, _⟩ := Oper.apart_spec h3
    exact absurd hs (h4 s (by simpa [dstAt, hi] using hd))
theorem Ready.put (hreg : regOK ops = true) (h : Ready ops D j o) : svL ops vl T0 (fun i => if i = j then true else D i) = putT (svL ops vl T0 D) o.dst (vl j) := by
  have hj : j < ops.size := (Array.getElem?_eq_some_iff.1 h.op).1
  have hdj : dstAt ops j = o.dst := by simp [dstAt, h.op]
  apply List.ext_getElem?
  intro s
  rcases Nat.lt_or_ge s T0.length with hs | hs
  · have hl : (svL ops vl T0 (fun i => if i = j then true else D i))[s]? = some (sv ops vl T0 (fun i => if i = j then true else D i) ops.size s) := by
      unfold svL; rw [List.getElem?_map, List.getElem?_range hs]; rfl
    have hl2 : (svL ops vl T0 D)[s]? = some (sv ops vl T0 D ops.size s) := by
      unfold svL; rw [List.getElem?_map, List.getElem?_range hs]; rfl
    rw [hl]
    by_cases hd : o.dst = some s
    · rw [hd]
      simp only [putT]
      rw [List.getElem?_set_self (by rw [svL_length]; exact hs)]
      congr 1
      have := sv_cut (ops := ops) (vl := vl) (T0 := T0) (D := fun i => if i = j then true else D i) (s := s) (i := j + 1) (ops.size - (j + 1)) fun i h1 h2 hdi => ?_
      · rw [show j + 1 + (ops.size - (j + 1)) = ops.size by omega] at this
        rw [this]
        unfold sv
        rw [if_pos ⟨by simp, by rw [hdj]; exact hd⟩]
      · simp only [if_neg (show i ≠ j by omega)]
        have hi : ops[i]? = some ops[i] := Array.getElem?_eq_getElem (by omega)
        rcases regOK_pair hreg (show j < i by omega) h.op hi with h3 | ⟨_, h3, _⟩
        · exact h.behind hi h3
        · obtain ⟨_, h5, _⟩ := Oper.apart_spec h3
          exact absurd (show ops[i].dst = some s by simpa [dstAt, hi] using hdi) (h5 s hd)
    · have e1 : sv ops vl T0 (fun i => if i = j then true else D i) ops.size s = sv ops vl T0 D ops.size s := sv_congr _ fun i hi hdi => by
        have : i ≠ j := fun he => hd (by rw [← hdj, ← he]; exact hdi)
        simp only [if_neg this]
      rw [e1]
      cases hdst : o.dst with
      | none => exact hl2.symm
      | some d =>
        simp only [putT]
        rw [List.getElem?_set_ne (fun he => hd (by rw [hdst, he]))]
        exact hl2.symm
  · have hl : (svL ops vl T0 (fun i => if i = j then true else D i))[s]? = none := List.getElem?_eq_none (by rw [svL_length]; exact hs)
    rw [hl]
    cases o.dst with
    | none => exact (List.getElem?_eq_none (by simp only [putT]; rw [svL_length]; exact hs)).symm
    | some d => exact (List.getElem?_eq_none (by simp only [putT, List.length_set]; rw [svL_length]; exact hs)).symm
theorem opv_slots {T T' : List Value} (hl : T.length = T'.length) {o : Oper} (h : ∀ s ∈ o.looksAt ops, s < T.length → T.getD s undef = T'.getD s undef) : (∀ x ∈ o.op.operands, opv T x = opv T' x) ∧ ∀ g want, o.guard = some (g, want) → yieldV ops T g = yieldV ops T' g := by
  have one : ∀ s ∈ o.looksAt ops, T.getD s undef = T'.getD s undef := by
    intro s hs
    rcases Nat.lt_or_ge s T.length with h1 | h1
    · exact h s hs h1
    · rw [List.getD_eq_getElem?_getD, List.getD_eq_getElem?_getD, List.getElem?_eq_none h1, List.getElem?_eq_none (by omega)]
  refine ⟨fun x hx => ?_, fun g want hg => ?_⟩
  · cases x with
    | tmp s => exact one s (List.mem_append_left _ (List.mem_filterMap.2 ⟨.tmp s, by simpa using hx, rfl⟩))
    | _ => rfl
  · unfold yieldV
    cases hd : (ops[g]?).bind (·.dst) with
    | none => rfl
    | some s => exact one s (by simp [Oper.looksAt, hg, hd])
end
end Go.AM
set_option linter.unusedVariables false
set_option linter.unusedSimpArgs false
namespace Go.AM
open Go.RowKit

section
variable {P : Program} {call : CallF} {ops : Array Oper} {tT : Nat → List Value} {tH : Nat → AH} {sk : Nat → Bool} {vl : Nat → Value}

theorem read_sound {B0 : Nat} {w0 : World} {m : Mp} {X : AH} {w : World} (R0 : Rel P B0 w0 m X w) {T : List Value} {a : Act} (hT : LRel m T a.tmps.toList) {o : Oper} {f : AH → Option Value} (hf : opRead P (opv T) o.op = some f) {v : Value} (h : f X = some v) :
    ∃ v', (execOp a.eval o).run P w = .ok (.value v') w ∧ VRel m v v' := by
  obtain ⟨dst, op, ty, ps, af, g⟩ := o
  unfold opRead at hf
  split at hf
  · rename_i t x hop
    simp only at hop
    subst hop
    cases hf
    obtain ⟨v', q1, q2⟩ := ld_sound R0 (opv_rel hT x) h
    exact ⟨v', by simp [execOp, q1], q2⟩
  · rename_i s d x hop
    simp only at hop
    subst hop
    cases hb : isBytesToString P s d with
    | true =>
      rw [hb] at hf
      cases hf
      obtain ⟨v', q1, q2⟩ := cvS_sound R0 (opv_rel hT x) h
      exact ⟨v', by simp [execOp, q1], q2⟩
    | false => rw [hb] at hf; cases hf
  · cases hf
theorem nextE (s : Nat) : ∀ d, s + d = ops.size → ∃ q, s ≤ q ∧ q ≤ ops.size ∧ (∀ e, s ≤ e → e < q → eE ops sk e = false) ∧ (q < ops.size → eE ops sk q = true)
  | 0, h => ⟨s, Nat.le_refl _, by omega, fun e h1 h2 => by omega, fun h1 => by omega⟩
  | d + 1, h => by
    cases he : eE ops sk s with
    | true => exact ⟨s, Nat.le_refl _, by omega, fun e h1 h2 => by omega, fun _ => he⟩
    | false =>
      obtain ⟨q, h1, h2, h3, h4⟩ := nextE (s + 1) d (by omega)
      exact ⟨q, by omega, h2, fun e h5 h6 => by
        by_cases hes : e = s
        · subst hes; exact he
        · exact h3 e (by omega) h6, h4⟩
theorem eE_inv {j : Nat} (h : eE ops sk j = true) : ∃ o, ops[j]? = some o ∧ isEff o.op = true ∧ sk j = false := by
  unfold eE at h
  rw [Bool.and_eq_true] at h
  cases ho : ops[j]? with
  | none => rw [ho] at h; cases h.1
  | some o => rw [ho] at h; exact ⟨o, rfl, by simpa using h.1, by simpa using h.2⟩
theorem crossing (f : Nat → Nat) (i : Nat) (b : Nat) (h0 : f i ≤ b) : ∀ d, b < f (i + d) → ∃ j, i ≤ j ∧ j < i + d ∧ f j ≤ b ∧ b < f (j + 1)
  | 0, h => by simp at h; omega
  | d + 1, h => by
    rcases Nat.lt_or_ge b (f (i + d)) with h1 | h1
    · obtain ⟨j, h2, h3, h4⟩ := crossing f i b h0 d h1
      exact ⟨j, h2, by omega, h4⟩
    · exact ⟨i + d, by omega, by omega, h1, h⟩

structure Inv (P : Program) (ops : Array Oper) (tT : Nat → List Value) (tH : Nat → AH) (sk : Nat → Bool) (vl : Nat → Value) (B0 : Nat) (w0 : World) (m0 : Mp) (wI : World) (listed : Array Bool) (q : Nat) (m : Mp) (a : Act) (w : World) : Prop where
  lsize : listed.size = ops.size
  down : Down ops (fun i => listed.getD i false = true)
  hq : q ≤ ops.size
  hq1 : q < ops.size → eE ops sk q = true ∧ listed.getD q false = false
  hq2 : ∀ e, e < q → eE ops sk e = true → listed.getD e false = true
  slots : LRel m (svL ops vl (tT 0) (fun i => listed.getD i false)) a.tmps.toList
  defers : a.defers = []
  vr : VR P B0 w0 tH ops.size q m w
  dm : ∀ b L, m b = some L → b < (tH 0).length ∨ ∃ i, i < ops.size ∧ listed.getD i false = true ∧ (tH i).length ≤ b ∧ b < (tH (i + 1)).length
  mono0 : ∀ b L, m0 b = some L → m b = some L
  size : wI.heap.size ≤ w.heap.size
  new : ∀ b L, m b = some L → m0 b = some L ∨ ((tH 0).length ≤ b ∧ (wI.heap.size ≤ L.blk ∨ ∃ b0 L0 k0, m0 b0 = some L0 ∧ blk (tH 0) b0 = some k0 ∧ k0.kind ≠ .ro ∧ L0.blk = L.blk))
  frame : ∀ B, B < wI.heap.size → (∀ b L k, m0 b = some L → blk (tH 0) b = some k → k.kind ≠ .ro → L.blk ≠ B) → w.heap[B]? = wI.heap[B]?

/-- The lengths and kinds along the text's own order. -/
structure Along (ops : Array Oper) (tT : Nat → List Value) (tH : Nat → AH) (m0 : Mp) : Prop where
  lens : ∀ i d, i + d ≤ ops.size → (tH i).length ≤ (tH (i + d)).length
  alive : ∀ d, d ≤ ops.size → ∀ b k', b < (tH 0).length → blk (tH d) b = some k' → ∃ k, blk (tH 0) b = some k ∧ k.kind = k'.kind
  bel : ∀ (j s : Nat) (x : Value), j ≤ ops.size → (tT j)[s]? = some x → Bel (tH j).length x
  dom0 : ∀ b L, m0 b = some L → b < (tH 0).length
theorem Along.le {m0 : Mp} (A : Along ops tT tH m0) {i j : Nat} (h : i ≤ j) (hj : j ≤ ops.size) : (tH i).length ≤ (tH j).length := by
  have := A.lens i (j - i) (by omega)
  rwa [show i + (j - i) = j by omega] at this
theorem getD_set {listed : Array Bool} {j : Nat} (hj : j < listed.size) (i : Nat) : (listed.setIfInBounds j true).getD i false = if i = j then true else listed.getD i false := by
  by_cases h : i = j
  · subst h
    rw [if_pos rfl]
    simp [Array.getD, hj]
  · rw [if_neg h]
    exact getD_set_ne false (Ne.symm h)
section
variable {B0 : Nat} {w0 : World} {m0 : Mp} {wI : World} {listed : Array Bool} {q : Nat} {m : Mp} {a : Act} {w : World}
theorem Inv.rdy (I : Inv P ops tT tH sk vl B0 w0 m0 wI listed q m a w) {j : Nat} (hr : j ∈ Region.ready .any ops listed) : ∃ o, Ready ops (fun i => listed.getD i false) j o := by
  unfold Region.ready at hr
  rw [List.mem_filter] at hr
  obtain ⟨h1, h2⟩ := hr
  have hj : j < ops.size := List.mem_range.1 h1
  have ho : ops[j]? = some ops[j] := Array.getElem?_eq_getElem hj
  rw [Bool.and_eq_true, ho] at h2
  simp only [Option.map_some, Option.getD_some] at h2
  refine ⟨ops[j], ho, I.down, fun e he hb => ?_, ?_⟩
  · have := Array.all_eq_true'.1 h2.2 e he
    simpa [hb] using this
  · have hlt : j < listed.size := by rw [I.lsize]; exact hj
    have := h2.1
    simp [Array.getD, hlt] at this ⊢
    exact this
theorem Inv.down' (I : Inv P ops tT tH sk vl B0 w0 m0 wI listed q m a w) {j : Nat} {o : Oper} (hr : Ready ops (fun i => listed.getD i false) j o) : Down ops (fun i => (listed.setIfInBounds j true).getD i false = true) := by
  have hlt : j < listed.size := by rw [I.lsize]; exact (Array.getElem?_eq_some_iff.1 hr.op).1
  intro i oi hi hD e he hb
  simp only [getD_set hlt] at hD ⊢
  by_cases hij : i = j
  · subst hij
    rw [hr.op] at hi
    cases hi
    have := hr.edges e he hb
    split
    · rfl
    · exact this
  · rw [if_neg hij] at hD
    have := I.down i oi hi hD e he hb
    split
    · rfl
    · exact this
/-- An operation that doesn't act is done: slots and marks. -/
theorem Inv.mark (hreg : regOK ops = true) (I : Inv P ops tT tH sk vl B0 w0 m0 wI listed q m a w) {j : Nat} {o : Oper} (hr : Ready ops (fun i => listed.getD i false) j o) (hne : eE ops sk j = false) {m2 : Mp} {w2 : World} {v' : Value}
    (hmono : ∀ b L, m b = some L → m2 b = some L) (hv : VRel m2 (vl j) v') (hvr : VR P B0 w0 tH ops.size q m2 w2) (hdm : ∀ b L, m2 b = some L → m b = some L ∨ ((tH j).length ≤ b ∧ b < (tH (j + 1)).length ∧ w.heap.size ≤ L.blk)) (h0 : (tH 0).length ≤ (tH j).length)
    (hs : w.heap.size ≤ w2.heap.size) (hw : ∀ B, B < w.heap.size → w2.heap[B]? = w.heap[B]?) :
    Inv P ops tT tH sk vl B0 w0 m0 wI (listed.setIfInBounds j true) q m2 (a.put o.dst v') w2 := by
  have hj : j < ops.size := (Array.getElem?_eq_some_iff.1 hr.op).1
  have hlt : j < listed.size := by rw [I.lsize]; exact hj
  refine ⟨by simp [I.lsize], I.down' hr, I.hq, fun h => ?_, fun e he hE => ?_, ?_, by rw [AM.put_defers]; exact I.defers, hvr, fun b L hb => ?_, fun b L hb => hmono b L (I.mono0 b L hb), Nat.le_trans I.size hs, fun b L hb => ?_, fun B hB hr' => ?_⟩
  · obtain ⟨h1, h2⟩ := I.hq1 h
    refine ⟨h1, ?_⟩
    rw [getD_set hlt, if_neg]
    · exact h2
    · intro he
      subst he
      rw [h1] at hne
      cases hne
  · rw [getD_set hlt]
    split
    · rfl
    · exact I.hq2 e he hE
  · have e1 : (fun i => (listed.setIfInBounds j true).getD i false) = fun i => if i = j then true else listed.getD i false := by funext i; exact getD_set hlt i
    rw [e1, hr.put hreg]
    exact put_rel (I.slots.mono hmono) _ hv
  · rcases hdm b L hb with h1 | ⟨h1, h2, h3⟩
    · rcases I.dm b L h1 with h4 | ⟨i, h4, h5, h6⟩
      · exact .inl h4
      · refine .inr ⟨i, h4, ?_, h6⟩
        rw [getD_set hlt]
        split
        · rfl
        · exact h5
    · exact .inr ⟨j, hj, by rw [getD_set hlt, if_pos rfl], h1, h2⟩
  · rcases hdm b L hb with h1 | ⟨h1, h2, h3⟩
    · exact I.new b L h1
    · exact .inr ⟨by omega, .inl (Nat.le_trans I.size h3)⟩
  · rw [hw B (Nat.lt_of_lt_of_le hB I.size)]
    exact I.frame B hB hr'
/-- A read tells the same now. -/
theorem Inv.readNow (X : Tr P call ops (befL [] ops.toList) 0 tT tH sk vl) (A : Along ops tT tH m0) (I : Inv P ops tT tH sk vl B0 w0 m0 wI listed q m a w) {j : Nat} {o : Oper} (hr : Ready ops (fun i => listed.getD i false) j o) (hs : sk j = false) {f : AH → Option Value}
    (hf : opRead P (opv (tT j)) o.op = some f) : f (tH q) = some (vl j) := by
  have hj : j < ops.size := (Array.getElem?_eq_some_iff.1 hr.op).1
  have hnj : eE ops sk j = false := by simp [eE, hr.op, read_not_eff hf]
  rcases Nat.lt_or_ge j q with hlt | hge
  · have key : ∀ d, j + 1 + d ≤ q → f (tH (j + 1 + d)) = some (vl j) := by
      intro d
      induction d with
      | zero =>
        intro _
        obtain ⟨h1, h2⟩ := X.read j o f (Nat.zero_le _) hr.op hs hf
        rw [Nat.add_zero, h2]
        exact h1
      | succ d ih =>
        intro hd
        have hprev := ih (by omega)
        have hq := I.hq
        cases hE : eE ops sk (j + 1 + d) with
        | true =>
          obtain ⟨oe, he1, he2, he3⟩ := eE_inv hE
          have hl := I.hq2 (j + 1 + d) (by omega) hE
          have hord : ordB (befL [] ops.toList) j (j + 1 + d) = false := by
            cases hc : ordB (befL [] ops.toList) j (j + 1 + d) with
            | false => rfl
            | true => have := hr.behind he1 hc; rw [hl] at this; cases this
          exact X.futR j o f (j + 1 + d) oe (Nat.zero_le _) (by omega) hr.op he1 hs he3 he2 hf hord
        | false =>
          rcases X.noeff (j := j + 1 + d) (by omega) hE with h3 | ⟨k, _, h3⟩
          · rw [show j + 1 + (d + 1) = j + 1 + d + 1 by omega, h3]; exact hprev
          · rw [show j + 1 + (d + 1) = j + 1 + d + 1 by omega, h3]
            exact opRead_keep hf (fun b k' hk => by rw [blk_app_old _ (blk_lt' hk)]; exact hk) hprev
    have := key (q - (j + 1)) (by omega)
    rwa [show j + 1 + (q - (j + 1)) = q by omega] at this
  · have hne : q ≠ j := by
      intro he
      subst he
      have := (I.hq1 hj).1
      rw [hnj] at this
      cases this
    obtain ⟨h1, h2⟩ := I.hq1 (by omega)
    obtain ⟨oe, he1, he2, he3⟩ := eE_inv h1
    refine X.pastR j o f q oe (Nat.zero_le _) (by omega) hr.op he1 hs he3 he2 hf ?_
    cases hc : ordB (befL [] ops.toList) q j with
    | false => rfl
    | true => have := hr.before hc; rw [h2] at this; cases this
/-- A block that is yet to be made stands as it will be made. -/
theorem Inv.makeNow (X : Tr P call ops (befL [] ops.toList) 0 tT tH sk vl) (A : Along ops tT tH m0) (I : Inv P ops tT tH sk vl B0 w0 m0 wI listed q m a w) {j : Nat} {o : Oper} (hr : Ready ops (fun i => listed.getD i false) j o) (hs : sk j = false)
    (hf : opRead P (opv (tT j)) o.op = none) (ha : isAlloc o.op = true) {k : Blk} (hk : tH (j + 1) = tH j ++ [some k]) : kb tH ops.size q (tH j).length = some k := by
  have hj : j < ops.size := (Array.getElem?_eq_some_iff.1 hr.op).1
  have hnew : blk (tH (j + 1)) (tH j).length = some k := by rw [hk]; unfold blk; simp
  have hlen : (tH (j + 1)).length = (tH j).length + 1 := by rw [hk]; simp
  have hnj : eE ops sk j = false := by simp [eE, hr.op, alloc_not_eff ha]
  rcases Nat.lt_or_ge j q with hlt | hge
  · have key : ∀ d, j + 1 + d ≤ q → blk (tH (j + 1 + d)) (tH j).length = some k := by
      intro d
      induction d with
      | zero => intro _; exact hnew
      | succ d ih =>
        intro hd
        have hprev := ih (by omega)
        have hq := I.hq
        cases hE : eE ops sk (j + 1 + d) with
        | true =>
          obtain ⟨oe, he1, he2, he3⟩ := eE_inv hE
          have hl := I.hq2 (j + 1 + d) (by omega) hE
          have hord : ordB (befL [] ops.toList) j (j + 1 + d) = false := by
            cases hc : ordB (befL [] ops.toList) j (j + 1 + d) with
            | false => rfl
            | true => have := hr.behind he1 hc; rw [hl] at this; cases this
          have := X.futA j o (j + 1 + d) oe (Nat.zero_le _) (by omega) hr.op he1 hs he3 he2 hf ha hord
          rw [show j + 1 + (d + 1) = j + 1 + d + 1 by omega, this]
          exact hnew
        | false =>
          rcases X.noeff (j := j + 1 + d) (by omega) hE with h3 | ⟨k', _, h3⟩
          · rw [show j + 1 + (d + 1) = j + 1 + d + 1 by omega, h3]; exact hprev
          · rw [show j + 1 + (d + 1) = j + 1 + d + 1 by omega, h3, blk_app_old _ (blk_lt' hprev)]
            exact hprev
    have := key (q - (j + 1)) (by omega)
    rw [show j + 1 + (q - (j + 1)) = q by omega] at this
    rw [kb_lt (blk_lt' this)]
    exact this
  · have hle := A.le hge (by omega)
    rw [kb_ge hle, ini_eq A.lens hj (Nat.le_refl _) (by omega)]
    exact hnew
end
end
end Go.AM
set_option linter.unusedVariables false
set_option linter.unusedSimpArgs false
namespace Go.AM
open Go.RowKit

section
variable {P : Program} {call : CallF} {ops : Array Oper} {tT : Nat → List Value} {tH : Nat → AH} {sk : Nat → Bool} {vl : Nat → Value} {B0 : Nat} {w0 : World} {m0 : Mp} {wI : World} {listed : Array Bool} {q : Nat} {m : Mp} {a : Act} {w : World}

theorem Tr.sv (X : Tr P call ops (befL [] ops.toList) 0 tT tH sk vl) {j : Nat} (hj : j ≤ ops.size) : (tT j).length = (tT 0).length ∧ ∀ s, s < (tT 0).length → (tT j).getD s undef = AM.sv ops vl (tT 0) (fun _ => true) j s :=
  tT_sv rfl (fun j o ho => X.step j o (Nat.zero_le _) ho) j hj
/-- What the operation looks at holds what it held in the text's own order. -/
theorem Inv.looks (hreg : regOK ops = true) (X : Tr P call ops (befL [] ops.toList) 0 tT tH sk vl) (I : Inv P ops tT tH sk vl B0 w0 m0 wI listed q m a w) {j : Nat} {o : Oper} (hr : Ready ops (fun i => listed.getD i false) j o) :
    ∀ s ∈ o.looksAt ops, s < (svL ops vl (tT 0) (fun i => listed.getD i false)).length → (svL ops vl (tT 0) (fun i => listed.getD i false)).getD s undef = (tT j).getD s undef := by
  intro s hs hlt
  rw [svL_length] at hlt
  rw [svL_getD _ hlt, hr.slots hreg hs, ((X.sv (Nat.le_of_lt (Array.getElem?_eq_some_iff.1 hr.op).1)).2 s hlt)]
theorem Inv.opv (hreg : regOK ops = true) (X : Tr P call ops (befL [] ops.toList) 0 tT tH sk vl) (I : Inv P ops tT tH sk vl B0 w0 m0 wI listed q m a w) {j : Nat} {o : Oper} (hr : Ready ops (fun i => listed.getD i false) j o) :
    (∀ x ∈ o.op.operands, AM.opv (svL ops vl (tT 0) (fun i => listed.getD i false)) x = AM.opv (tT j) x) ∧ ∀ g want, o.guard = some (g, want) → yieldV ops (svL ops vl (tT 0) (fun i => listed.getD i false)) g = yieldV ops (tT j) g := by
  have hj := Nat.le_of_lt (Array.getElem?_eq_some_iff.1 hr.op).1
  exact opv_slots (by rw [svL_length, (X.sv hj).1]) (I.looks hreg X hr)
theorem Inv.wanted (hreg : regOK ops = true) (X : Tr P call ops (befL [] ops.toList) 0 tT tH sk vl) (I : Inv P ops tT tH sk vl B0 w0 m0 wI listed q m a w) {j : Nat} {o : Oper} (hr : Ready ops (fun i => listed.getD i false) j o) :
    Region.wanted o (yielded ops a.tmps) = !sk j := by
  obtain ⟨_, hy⟩ := I.opv hreg X hr
  cases hs : sk j with
  | true =>
    obtain ⟨⟨g, want, hg, hu⟩, _⟩ := X.skip j o (Nat.zero_le _) hr.op hs
    rcases hu with ⟨b, hu, hb⟩ | ⟨vs, hu, _⟩
    · rw [wanted_of hg ((yield_rel I.slots g).1 b (by rw [hy g want hg]; exact hu))]
      simp [hb]
    · rw [wanted_of hg ((yield_rel I.slots g).2 vs (by rw [hy g want hg]; exact hu))]
      rfl
  | false =>
    rcases X.go j o (Nat.zero_le _) hr.op hs with hg | ⟨g, want, hg, hu⟩
    · unfold Region.wanted; rw [hg]; rfl
    · rw [wanted_of hg ((yield_rel I.slots g).1 want (by rw [hy g want hg]; exact hu))]
      simp
/-- What acts next is the one. -/
theorem Inv.isq (hreg : regOK ops = true) (I : Inv P ops tT tH sk vl B0 w0 m0 wI listed q m a w) {j : Nat} {o : Oper} (hr : Ready ops (fun i => listed.getD i false) j o) (hE : eE ops sk j = true) : j = q := by
  have hj : j < ops.size := (Array.getElem?_eq_some_iff.1 hr.op).1
  rcases Nat.lt_trichotomy j q with h | h | h
  · have := I.hq2 j h hE
    have h2 := hr.not
    rw [this] at h2
    cases h2
  · exact h
  · obtain ⟨h1, h2⟩ := I.hq1 (by omega)
    obtain ⟨oq, hq1, hq2, _⟩ := eE_inv h1
    obtain ⟨oj, hj1, hj2, _⟩ := eE_inv hE
    rcases regOK_pair hreg h hq1 hj1 with h3 | ⟨h3, _⟩
    · have := hr.before h3; rw [h2] at this; cases this
    · exact (h3 hq2 hj2).elim
/-- The slots that an operation looks at, under the lesser map. -/
theorem Inv.masked (hreg : regOK ops = true) (X : Tr P call ops (befL [] ops.toList) 0 tT tH sk vl) (A : Along ops tT tH m0) (I : Inv P ops tT tH sk vl B0 w0 m0 wI listed q m a w) {j : Nat} {o : Oper} (hr : Ready ops (fun i => listed.getD i false) j o) :
    ∃ T, LRel (cutM m (tH j).length) T a.tmps.toList ∧ ∀ x ∈ o.op.operands, AM.opv T x = AM.opv (tT j) x := by
  have hj : j ≤ ops.size := Nat.le_of_lt (Array.getElem?_eq_some_iff.1 hr.op).1
  refine ⟨(List.range (tT 0).length).map fun s => if s ∈ o.looksAt ops then (tT j).getD s undef else unk, ⟨?_, ?_⟩, ?_⟩
  · rw [List.length_map, List.length_range, ← I.slots.1, svL_length]
  · intro s x y hx hy
    rw [List.getElem?_map] at hx
    have hlt : s < (tT 0).length := by
      rcases Nat.lt_or_ge s (tT 0).length with h1 | h1
      · exact h1
      · rw [List.getElem?_eq_none (by simpa using h1)] at hx; cases hx
    rw [List.getElem?_range hlt, Option.map_some] at hx
    cases hx
    split
    · rename_i hs
      have h1 := I.looks hreg X hr s hs (by rw [svL_length]; exact hlt)
      have h2 : (svL ops vl (tT 0) (fun i => listed.getD i false))[s]? = some ((tT j).getD s undef) := by
        rw [← h1, List.getD_eq_getElem?_getD, List.getElem?_eq_getElem (by rw [svL_length]; exact hlt)]
        rfl
      have h3 := I.slots.2 s _ y h2 hy
      have h4 : (tT j)[s]? = some ((tT j).getD s undef) := by
        rw [List.getD_eq_getElem?_getD, List.getElem?_eq_getElem (by rw [(X.sv hj).1]; exact hlt)]
        rfl
      exact h3.cutB (A.bel j s _ hj h4)
    · exact .unk _
  · refine (opv_slots (ops := ops) (by rw [List.length_map, List.length_range, (X.sv hj).1]) fun s hs hlt => ?_).1
    rw [List.length_map, List.length_range] at hlt
    rw [List.getD_eq_getElem?_getD, List.getElem?_map, List.getElem?_range hlt, Option.map_some, Option.getD_some, if_pos hs]
theorem Inv.act (hreg : regOK ops = true) (X : Tr P call ops (befL [] ops.toList) 0 tT tH sk vl) (A : Along ops tT tH m0) (I : Inv P ops tT tH sk vl B0 w0 m0 wI listed q m a w) {o : Oper} (hr : Ready ops (fun i => listed.getD i false) q o) (hE : eE ops sk q = true)
    {m1 : Mp} {w1 : World} {v' : Value} (E : Ext (cutM m (tH q).length) (tH q) w m1 (tH (q + 1)) w1) (R1 : Rel P B0 w0 m1 (tH (q + 1)) w1) (hv : VRel m1 (vl q) v') :
    ∃ q' m2, Inv P ops tT tH sk vl B0 w0 m0 wI (listed.setIfInBounds q true) q' m2 (a.put o.dst v') w1 := by
  have hq : q < ops.size := (Array.getElem?_eq_some_iff.1 hr.op).1
  have hlt : q < listed.size := by rw [I.lsize]; exact hq
  obtain ⟨q', hq1, hq2, hq3, hq4⟩ := nextE (ops := ops) (sk := sk) (q + 1) (ops.size - (q + 1)) (by omega)
  have hlen := A.le (i := q) (j := q + 1) (by omega) (by omega)
  have hsame := X.same (q + 1) (q' - (q + 1)) (by omega) (fun e h1 h2 => hq3 e h1 (by omega))
  rw [show q + 1 + (q' - (q + 1)) = q' by omega] at hsame
  have hini : ∀ b, (tH (q + 1)).length ≤ b → b < (tH q').length → blk (tH q') b = ini tH ops.size b := by
    intro b h1 h2
    obtain ⟨j, h3, h4, h5, h6⟩ := crossing (fun i => (tH i).length) (q + 1) b h1 (q' - (q + 1)) (by rw [show q + 1 + (q' - (q + 1)) = q' by omega]; exact h2)
    rw [ini_eq A.lens (show j < ops.size by omega) h5 h6]
    have h7 := X.same (j + 1) (q' - (j + 1)) (by omega) (fun e h7 h8 => hq3 e (by omega) (by omega))
    rw [show j + 1 + (q' - (j + 1)) = q' by omega] at h7
    exact h7.2 b h6
  have hnew : ∀ b, (tH q).length ≤ b → b < (tH (q + 1)).length → m b = none := by
    intro b h1 h2
    cases hb : m b with
    | none => rfl
    | some L =>
      exfalso
      rcases I.dm b L hb with h3 | ⟨i, h3, h4, h5, h6⟩
      · have := A.le (i := 0) (j := q) (by omega) (by omega); omega
      · rcases Nat.lt_trichotomy i q with h7 | h7 | h7
        · have := A.le (i := i + 1) (j := q) (by omega) (by omega); omega
        · subst h7
          have := hr.not
          rw [h4] at this
          cases this
        · have := A.le (i := q + 1) (j := i) (by omega) (by omega); omega
  obtain ⟨V, hmono⟩ := I.vr.eff (by omega) hq2 hlen hsame hini (A.le hq2 (Nat.le_refl _)) R1 E hnew
  have hmono1 : ∀ b L, m1 b = some L → mrg m1 m (tH (q + 1)).length b = some L := by
    intro b L hb
    unfold mrg
    rw [if_pos (R1.dom b L hb).1]
    exact hb
  have split_ : ∀ b L, mrg m1 m (tH (q + 1)).length b = some L → m b = some L ∨ ((tH q).length ≤ b ∧ b < (tH (q + 1)).length ∧ (w.heap.size ≤ L.blk ∨ ∃ b0 L0 k0, m b0 = some L0 ∧ blk (tH q) b0 = some k0 ∧ b0 < (tH q).length ∧ k0.kind ≠ .ro ∧ L0.blk = L.blk)) := by
    intro b L hb
    unfold mrg at hb
    split at hb
    · rename_i h1
      rcases E.new b L hb with h2 | ⟨h2, h3 | ⟨b0, L0, k0, h3, h4, h5, h6⟩⟩
      · exact .inl (cutM_some h2).2
      · exact .inr ⟨h2, h1, .inl h3⟩
      · obtain ⟨h7, h8⟩ := cutM_some h3
        exact .inr ⟨h2, h1, .inr ⟨b0, L0, k0, h8, h4, h7, h5, h6⟩⟩
    · exact .inl hb
  -- an own block that there was
  have own0 : ∀ b L k, m b = some L → blk (tH q) b = some k → k.kind ≠ .ro → (wI.heap.size ≤ L.blk ∨ ∃ b0 L0 k0, m0 b0 = some L0 ∧ blk (tH 0) b0 = some k0 ∧ k0.kind ≠ .ro ∧ L0.blk = L.blk) := by
    intro b L k h1 h2 h3
    rcases I.new b L h1 with h4 | ⟨_, h4⟩
    · obtain ⟨k0, h5, h6⟩ := A.alive q (by omega) b k (A.dom0 b L h4) h2
      exact .inr ⟨b, L, k0, h4, h5, by rw [h6]; exact h3, rfl⟩
    · exact h4
  refine ⟨q', mrg m1 m (tH (q + 1)).length, ⟨by simp [I.lsize], I.down' hr, hq2, fun h => ⟨hq4 h, ?_⟩, fun e he hEe => ?_, ?_, by rw [AM.put_defers]; exact I.defers, V, fun b L hb => ?_, fun b L hb => hmono b L (I.mono0 b L hb), Nat.le_trans I.size E.size, fun b L hb => ?_, fun B hB hr' => ?_⟩⟩
  · rw [getD_set hlt, if_neg (by omega)]
    cases hc : listed.getD q' false with
    | false => rfl
    | true =>
      exfalso
      obtain ⟨oq', h1, h2, _⟩ := eE_inv (hq4 h)
      obtain ⟨oq, h3, h4, _⟩ := eE_inv hE
      rcases regOK_pair hreg (show q < q' by omega) h3 h1 with h5 | ⟨h5, _⟩
      · have := hr.behind h1 h5
        rw [hc] at this
        cases this
      · exact h5 h4 h2
  · rw [getD_set hlt]
    split
    · rfl
    · rename_i hne
      rcases Nat.lt_or_ge e q with h1 | h1
      · exact I.hq2 e h1 hEe
      · have := hq3 e (by omega) he
        rw [hEe] at this
        cases this
  · have e1 : (fun i => (listed.setIfInBounds q true).getD i false) = fun i => if i = q then true else listed.getD i false := by funext i; exact getD_set hlt i
    rw [e1, hr.put hreg]
    exact put_rel (I.slots.mono hmono) _ (hv.mono hmono1)
  · rcases split_ b L hb with h1 | ⟨h1, h2, _⟩
    · rcases I.dm b L h1 with h4 | ⟨i, h4, h5, h6⟩
      · exact .inl h4
      · refine .inr ⟨i, h4, ?_, h6⟩
        rw [getD_set hlt]
        split
        · rfl
        · exact h5
    · exact .inr ⟨q, hq, by rw [getD_set hlt, if_pos rfl], h1, h2⟩
  · rcases split_ b L hb with h1 | ⟨h1, h2, h3⟩
    · exact I.new b L h1
    · have := A.le (i := 0) (j := q) (by omega) (by omega)
      refine .inr ⟨by omega, ?_⟩
      rcases h3 with h3 | ⟨b0, L0, k0, h3, h4, _, h5, h6⟩
      · exact .inl (Nat.le_trans I.size h3)
      · have := own0 b0 L0 k0 h3 h4 h5
        rw [h6] at this
        exact this
  · rw [E.frame B (Nat.lt_of_lt_of_le hB I.size), I.frame B hB hr']
    intro b L k hb hk hne
    obtain ⟨h1, h2⟩ := cutM_some hb
    rcases own0 b L k h2 hk hne with h3 | ⟨b0, L0, k0, h3, h4, h5, h6⟩
    · omega
    · rw [← h6]; exact hr' b0 L0 k0 h3 h4 h5
def left (ops : Array Oper) (listed : Array Bool) : List Nat := (List.range ops.size).filter fun i => !listed.getD i false
theorem filter_less {f g : Nat → Bool} : ∀ (l : List Nat) (j : Nat), j ∈ l → f j = true → g j = false → (∀ i, g i = true → f i = true) → (l.filter g).length < (l.filter f).length
  | [], j, hj, _, _, _ => by cases hj
  | i :: l, j, hj, hf, hg, hgf => by
    have hle : (l.filter g).length ≤ (l.filter f).length := by
      clear hj
      induction l with
      | nil => simp
      | cons i l ih =>
        simp only [List.filter_cons]
        cases hgi : g i with
        | true => rw [hgf i hgi]; simp; exact ih
        | false => cases f i <;> simp <;> omega
    by_cases hij : i = j
    · subst hij
      simp only [List.filter_cons, hf, hg, if_true]
      simp
      omega
    · have hjl : j ∈ l := by cases hj with | head => exact (hij rfl).elim | tail _ h => exact h
      have := filter_less l j hjl hf hg hgf
      simp only [List.filter_cons]
      cases hgi : g i with
      | true => rw [hgf i hgi]; simp; exact this
      | false => cases f i <;> simp <;> omega
theorem Inv.any (hcall : CallOK P call) (hreg : regOK ops = true) (X : Tr P call ops (befL [] ops.toList) 0 tT tH sk vl) (A : Along ops tT tH m0) {Q : Exit → Act → World → Prop}
    (hq : ∀ (m' : Mp) (a' : Act) (w' : World), After P B0 w0 m0 (tH 0) wI (tT ops.size) (tH ops.size) m' a' w' → Q .normal a' w') :
    ∀ (fuel : Nat) (listed : Array Bool) (q : Nat) (m : Mp) (a : Act) (w : World), Inv P ops tT tH sk vl B0 w0 m0 wI listed q m a w → (left ops listed).length ≤ fuel → wpAny P .any ops Q fuel listed a w := by
  -- when nothing is ready, all is done
  have fin : ∀ (listed : Array Bool) (q : Nat) (m : Mp) (a : Act) (w : World), Inv P ops tT tH sk vl B0 w0 m0 wI listed q m a w → (∀ j, j < ops.size → listed.getD j false = true) → Q .normal a w := by
    intro listed q m a w I hall
    have hqn : q = ops.size := by
      rcases Nat.lt_or_ge q ops.size with h | h
      · have := (I.hq1 h).2
        rw [hall q h] at this
        cases this
      · have := I.hq; omega
    subst hqn
    have hN : ∀ b L, m b = some L → cutM m (tH ops.size).length b = some L := fun b L hb => cutM_of (I.vr.dom b L hb).1 hb
    have hT : svL ops vl (tT 0) (fun i => listed.getD i false) = tT ops.size := by
      obtain ⟨h1, h2⟩ := X.sv (Nat.le_refl ops.size)
      apply List.ext_getElem?
      intro s
      rcases Nat.lt_or_ge s (tT 0).length with hs | hs
      · have e1 : (svL ops vl (tT 0) (fun i => listed.getD i false))[s]? = some (AM.sv ops vl (tT 0) (fun i => listed.getD i false) ops.size s) := by
          unfold svL; rw [List.getElem?_map, List.getElem?_range hs]; rfl
        rw [e1, AM.sv_congr (D' := fun _ => true) _ (fun j hj _ => hall j hj), ← h2 s hs, List.getD_eq_getElem?_getD, List.getElem?_eq_getElem (by omega)]
        rfl
      · rw [List.getElem?_eq_none (by rw [svL_length]; exact hs), List.getElem?_eq_none (by omega)]
    refine hq (cutM m (tH ops.size).length) a w ⟨⟨fun b L hb => hN b L (I.mono0 b L hb), A.le (Nat.zero_le _) (Nat.le_refl _), I.size, fun b k' hb hk => A.alive ops.size (Nat.le_refl _) b k' hb hk, fun b L hb => I.new b L (cutM_some hb).2, I.frame⟩, I.vr.rel, ?_, I.defers⟩
    rw [← hT]
    exact I.slots.mono hN
  have ready_nil : ∀ (listed : Array Bool), Region.ready .any ops listed = [] → listed.size = ops.size → ∀ j, j < ops.size → listed.getD j false = true := by
    intro listed hnil hsz j
    induction j using Nat.strongRecOn with
    | _ j ih =>
      intro hj
      cases hl : listed.getD j false with
      | true => rfl
      | false =>
        exfalso
        have ho : ops[j]? = some ops[j] := Array.getElem?_eq_getElem hj
        have hmem : j ∈ Region.ready .any ops listed := by
          unfold Region.ready
          rw [List.mem_filter]
          refine ⟨List.mem_range.2 hj, ?_⟩
          rw [Bool.and_eq_true, ho]
          have hlt : j < listed.size := by omega
          refine ⟨by simp [Array.getD, hlt] at hl ⊢; exact hl, ?_⟩
          simp only [Option.map_some, Option.getD_some]
          refine Array.all_eq_true'.2 fun e he => ?_
          cases hb : Region.binds .any e with
          | false => rfl
          | true =>
            have hlte := regOK_edge hreg ho he hb
            simp [ih e.on hlte (by omega)]
        rw [hnil] at hmem
        cases hmem
  intro fuel
  induction fuel with
  | zero =>
    intro listed q m a w I hf
    have hall : ∀ j, j < ops.size → listed.getD j false = true := by
      intro j hj
      cases hl : listed.getD j false with
      | true => rfl
      | false =>
        exfalso
        have : j ∈ left ops listed := List.mem_filter.2 ⟨List.mem_range.2 hj, by simp [hl]⟩
        have hnil : left ops listed = [] := List.eq_nil_of_length_eq_zero (by omega)
        rw [hnil] at this
        cases this
    refine ⟨?_, fin listed q m a w I hall⟩
    cases hr : Region.ready .any ops listed with
    | nil => rfl
    | cons j rest =>
      exfalso
      obtain ⟨o, hrd⟩ := I.rdy (j := j) (by rw [hr]; simp)
      have := hrd.not
      rw [hall j (Array.getElem?_eq_some_iff.1 hrd.op).1] at this
      cases this
  | succ fuel ih =>
    intro listed q m a w I hf
    refine ⟨fun hnil => fin listed q m a w I (ready_nil listed hnil I.lsize), fun j hjr => ?_⟩
    obtain ⟨o, hr⟩ := I.rdy hjr
    have hj : j < ops.size := (Array.getElem?_eq_some_iff.1 hr.op).1
    have hlt : j < listed.size := by rw [I.lsize]; exact hj
    have hfuel : (left ops (listed.setIfInBounds j true)).length ≤ fuel := by
      have : (left ops (listed.setIfInBounds j true)).length < (left ops listed).length := by
        refine filter_less _ j (List.mem_range.2 hj) (by have := hr.not; simpa using this) (by rw [getD_set hlt]; simp) fun i hi => ?_
        rw [getD_set hlt] at hi
        split at hi
        · cases hi
        · exact hi
      omega
    have h0 : (tH 0).length ≤ (tH j).length := A.le (Nat.zero_le _) (by omega)
    unfold wpOp
    rw [hr.op]
    simp only
    rw [I.wanted hreg X hr]
    cases hs : sk j with
    | true =>
      simp only [Bool.not_true, Bool.false_eq_true, if_false]
      obtain ⟨_, h2, _⟩ := X.skip j o (Nat.zero_le _) hr.op hs
      refine ih _ q m _ w (I.mark hreg hr (by simp [eE, hs]) (fun _ _ h => h) (by rw [h2]; exact VRel.undef _) I.vr (fun b L h => .inl h) h0 (Nat.le_refl _) fun _ _ => rfl) hfuel
    | false =>
      simp only [Bool.not_false, if_true]
      refine .inl ?_
      obtain ⟨hop, _⟩ := I.opv hreg X hr
      cases hE : eE ops sk j with
      | true =>
        have hjq := I.isq hreg hr hE
        subst hjq
        obtain ⟨T, hT, hTo⟩ := I.masked hreg X A hr
        have hres := X.res hr.op hs
        rw [← aRes_congr o.op hTo] at hres
        refine res_sound hcall hres I.vr.rel hT _ _ fun m1 v' w1 E R1 hv => ?_
        obtain ⟨q', m2, I2⟩ := I.act hreg X A hr hE E R1 hv
        exact ih _ q' m2 _ w1 I2 hfuel
      | false =>
        have heff : isEff o.op = false := by simpa [eE, hr.op, hs] using hE
        cases hf' : opRead P (AM.opv (tT j)) o.op with
        | some f =>
          have hnow := I.readNow X A hr hs hf'
          have hpad : f (padH tH ops.size q) = some (vl j) := opRead_keep hf' (fun b k hk => by
            unfold padH blk
            rw [List.getElem?_append_left (blk_lt' hk)]
            exact hk) hnow
          rw [← opRead_congr o.op hop] at hf'
          obtain ⟨v', q1, q2⟩ := read_sound (I.vr.pad (A.le I.hq (Nat.le_refl _))) I.slots hf' hpad
          unfold Oper.wp
          rw [q1]
          exact ih _ q m _ w (I.mark hreg hr hE (fun _ _ h => h) q2 I.vr (fun b L h => .inl h) h0 (Nat.le_refl _) fun _ _ => rfl) hfuel
        | none =>
          have hres := X.other j o (Nat.zero_le _) hr.op hs hf'
          cases ha : isAlloc o.op with
          | false =>
            obtain ⟨_, hpure⟩ := pure_res heff hf' ha hres
            have hp2 := hpure (List.replicate (tH ops.size).length none)
            rw [← aRes_congr o.op hop] at hp2
            have hN : ∀ b L, m b = some L → cutM m (tH ops.size).length b = some L := fun b L hb => cutM_of (I.vr.dom b L hb).1 hb
            refine res_sound hcall hp2 (I.vr.dead _) (I.slots.mono hN) _ _ fun m1 v' w1 E R1 hv => ?_
            have hback : ∀ b L, m1 b = some L → m b = some L := by
              intro b L hb
              rcases E.new b L hb with h1 | ⟨h1, _⟩
              · exact (cutM_some h1).2
              · have := (R1.dom b L hb).1; omega
            have hw : ∀ B, B < w.heap.size → w1.heap[B]? = w.heap[B]? := fun B hB => E.frame B hB fun b L k _ hk => by rw [blk_dead] at hk; cases hk
            exact ih _ q m _ w1 (I.mark hreg hr hE (fun _ _ h => h) (hv.mono hback) (I.vr.still R1.below E.size hw) (fun b L h => .inl h) h0 E.size hw) hfuel
          | true =>
            obtain ⟨k, hk1, hk2, hall⟩ := alloc_res ha hres
            have hp2 := hall (List.replicate (tH j).length none) (by simp)
            have hkb := I.makeNow X A hr hs hf' ha hk2
            have hlen : (tH (j + 1)).length = (tH j).length + 1 := by rw [hk2]; simp
            have hnone : m (tH j).length = none := by
              cases hb : m (tH j).length with
              | none => rfl
              | some L =>
                exfalso
                rcases I.dm _ L hb with h3 | ⟨i, h3, h4, h5, h6⟩
                · omega
                · rcases Nat.lt_trichotomy i j with h7 | h7 | h7
                  · have := A.le (i := i + 1) (j := j) (by omega) (by omega); omega
                  · subst h7
                    have := hr.not
                    rw [h4] at this
                    cases this
                  · have := A.le (i := j + 1) (j := i) (by omega) (by omega); omega
            obtain ⟨T, hT, hTo⟩ := I.masked hreg X A hr
            rw [← aRes_congr o.op hTo] at hp2
            refine res_sound hcall hp2 (I.vr.dead _) hT _ _ fun m1 v' w1 E R1 hv => ?_
            have hmap : ∃ L, m1 (tH j).length = some L := by
              rcases hk1.2 with h1 | ⟨n, c, h1⟩
              · rw [h1] at hv; obtain ⟨L, h2, _⟩ := VRel.ptr_inv hv; exact ⟨L, h2⟩
              · rw [h1] at hv; obtain ⟨L, _, _, h2, _⟩ := VRel.slice_inv hv; exact ⟨L, h2⟩
            obtain ⟨L, hL⟩ := hmap
            have hup : ∀ b L', m1 b = some L' → upd m (tH j).length L b = some L' ∧ b < (tH j).length + 1 := by
              intro b L' hb
              have h2 := (R1.dom b L' hb).1
              rw [List.length_append, List.length_replicate, List.length_singleton] at h2
              refine ⟨?_, h2⟩
              unfold upd
              by_cases hbl : b = (tH j).length
              · subst hbl; rw [if_pos rfl, ← hL]; exact hb
              · rw [if_neg hbl]
                rcases E.new b L' hb with h1 | ⟨h1, _⟩
                · exact (cutM_some h1).2
                · rw [List.length_replicate] at h1; omega
            have hblk : blk (List.replicate (tH j).length none ++ [some k]) (tH j).length = some k := by
              unfold blk
              rw [List.getElem?_append_right (by simp)]
              simp
            have hfresh : w.heap.size ≤ L.blk := by
              rcases E.new _ L hL with h1 | ⟨_, h1 | ⟨b0, L0, k0, _, h1, _⟩⟩
              · have := (cutM_some h1).1; omega
              · exact h1
              · rw [blk_dead] at h1; cases h1
            have hw : ∀ B, B < w.heap.size → w1.heap[B]? = w.heap[B]? := fun B hB => E.frame B hB fun b L k _ hk => by rw [blk_dead] at hk; cases hk
            have hmono : ∀ b L', m b = some L' → upd m (tH j).length L b = some L' := by
              intro b L' hb
              unfold upd
              rw [if_neg]
              · exact hb
              · intro he; rw [he, hnone] at hb; cases hb
            have hV := I.vr.alloc R1.below E.size hw (l := (tH j).length) (L := L) (k := k) (by have := A.le (i := j + 1) (j := ops.size) (by omega) (Nat.le_refl _); omega) hnone hkb hfresh (R1.dom _ L hL).2
              ((R1.blks _ L k hL hblk).mono fun b L' hb => cutM_of (hup b L' hb).2 (hup b L' hb).1)
            refine ih _ q _ _ w1 (I.mark hreg hr hE hmono (hv.mono fun b L' hb => (hup b L' hb).1) hV (fun b L' hb => ?_) h0 E.size hw) hfuel
            unfold upd at hb
            split at hb
            · rename_i he
              cases hb
              exact .inr ⟨by omega, by omega, hfresh⟩
            · exact .inl hb
theorem getD_replicate (n i : Nat) : (Array.replicate n false).getD i false = false := by
  unfold Array.getD
  split
  · simp
  · rfl
theorem draw_ok {P : Program} {call : CallF} (hcall : CallOK P call) : DrawOK P call := by
  intro ops hreg R T H K r h
  obtain ⟨tT, tH, sk, vl, h0, h1, X, _, hK⟩ := evD_inv ops (befL [] ops.toList) ops.toList 0 T H [] [] (fun j => by simp) h
  simp only [Array.length_toList, Nat.zero_add] at hK
  subst h0 h1
  refine ⟨_, _, hK, fun B0 w0 m a w Q R0 hT hd hq => ?_⟩
  have A : Along ops tT tH m := ⟨fun i d hd => (X.lens hcall R0 hT i d hd).1, fun d hd b k' hb hk => by
      have := (X.lens hcall R0 hT 0 d (by omega)).2 b k' hb (by rw [Nat.zero_add]; exact hk)
      exact this, fun j s x hj hx => X.bel hcall R0 hT hj s x hx, fun b L hb => (R0.dom b L hb).1⟩
  obtain ⟨q, _, hq1, hq2, hq3⟩ := nextE (ops := ops) (sk := sk) 0 ops.size (by omega)
  have hsame := X.same 0 q (by omega) (fun e h1 h2 => hq2 e h1 (by omega))
  rw [Nat.zero_add] at hsame
  have hle := A.le hq1 (Nat.le_refl _)
  refine Inv.any hcall hreg X A hq ops.size _ q m a w ⟨by simp, fun j o ho hD => (by have hD' : (Array.replicate ops.size false).getD j false = true := hD; rw [getD_replicate] at hD'; cases hD'), hq1, fun hlt => ⟨hq3 hlt, getD_replicate _ _⟩, fun e he hE => ?_, ?_, hd, ?_, fun b L hb => .inl (R0.dom b L hb).1, fun _ _ h => h, Nat.le_refl _, fun b L hb => .inl hb, fun _ _ _ => rfl⟩ ?_
  · have := hq2 e (Nat.zero_le _) he
    rw [hE] at this
    cases this
  · have e1 : svL ops vl (tT 0) (fun i => (Array.replicate ops.size false).getD i false) = tT 0 := by
      apply List.ext_getElem?
      intro s
      rcases Nat.lt_or_ge s (tT 0).length with hs | hs
      · have e2 : (svL ops vl (tT 0) (fun i => (Array.replicate ops.size false).getD i false))[s]? = some (AM.sv ops vl (tT 0) (fun i => (Array.replicate ops.size false).getD i false) ops.size s) := by
          unfold svL; rw [List.getElem?_map, List.getElem?_range hs]; rfl
        have e3 := sv_cut (ops := ops) (vl := vl) (T0 := tT 0) (D := fun i => (Array.replicate ops.size false).getD i false) (s := s) (i := 0) ops.size fun j _ _ _ => getD_replicate _ _
        rw [Nat.zero_add] at e3
        rw [e2, e3]
        unfold AM.sv
        rw [List.getD_eq_getElem?_getD, List.getElem?_eq_getElem hs]
        rfl
      · rw [List.getElem?_eq_none (by rw [svL_length]; exact hs), List.getElem?_eq_none hs]
    rw [e1]
    exact hT
  · have kb0 : ∀ b, b < (tH 0).length → kb tH ops.size q b = blk (tH 0) b := fun b hb => by rw [kb_lt (by omega)]; exact hsame.2 b hb
    have hcut : ∀ l, (tH 0).length ≤ l → ∀ b L, m b = some L → cutM m l b = some L := fun l hl b L hb => cutM_of (by have := (R0.dom b L hb).1; omega) hb
    refine ⟨R0.below, R0.hB, fun b L hb => ⟨by have := (R0.dom b L hb).1; omega, (R0.dom b L hb).2⟩, fun b L k hb hk => ?_, fun b1 b2 L1 L2 k1 k2 hm1 hm2 hk1 hk2 hne hbb => ?_⟩
    · rw [kb0 b (R0.dom b L hb).1] at hk
      exact (R0.blks b L k hb hk).mono (hcut _ (by omega))
    · rw [kb0 b1 (R0.dom b1 L1 hm1).1] at hk1
      rw [kb0 b2 (R0.dom b2 L2 hm2).1] at hk2
      exact R0.inj b1 b2 L1 L2 k1 k2 hm1 hm2 hk1 hk2 hne hbb
  · unfold left
    exact Nat.le_trans (List.length_filter_le _ _) (by simp)
end
/-- What the evaluator tells of a call, the machine comes to. -/
theorem run_ok {P : Program} (hmix : P.follows .mixedOrders = true) {tbs : FuncId → Tbl} {gv : Given} (hgv : GivenOK P gv) (k : Nat) : CallOK P (run P tbs gv k) := run_sound (fun _ h => draw_ok h) hmix hgv k
end Go.AM
set_option linter.unusedVariables false
set_option linter.unusedSimpArgs false
namespace Go.AM
open Go.ChangeShapes Go.WideShapes Go.Deep Go.RowKit
variable {P : Program}

structure Ro (P : Program) (W : World) (m : Mp) (H : AH) : Prop where
  rel : Rel P W.heap.size W m H W
  ro : ∀ b k, blk H b = some k → k.kind = .ro
def Sub (m m' : Mp) : Prop := ∀ b L, m b = some L → m' b = some L
theorem Sub.refl (m : Mp) : Sub m m := fun _ _ h => h
theorem Sub.trans {a b c : Mp} (h : Sub a b) (k : Sub b c) : Sub a c := fun x L hx => k x L (h x L hx)
theorem Ro.empty (W : World) : Ro P W (fun _ => none) [] :=
  ⟨⟨Below.refl _ _, Nat.le_refl _, fun _ _ h => (by cases h), fun _ _ _ h => (by cases h), fun _ _ _ _ _ _ h => (by cases h)⟩, fun b k h => (by simp [blk] at h)⟩
def SlOK (W : World) (cs : List Value) : Prop := ∀ a len cap, Value.slice (some a) len cap ∈ cs → a.spot = none ∧ ∃ c e fr, W.heap[a.block]? = some (.cells c e fr)

/-- One more that came in. -/
theorem Ro.add {W : World} {m : Mp} {H : AH} {ks : List Value} {e : TypeId} {bl base : Nat} {c : Array Value} {te : TypeId} {fr : Nat × Nat} (R : Ro P W m H) (hb : W.heap[bl]? = some (.cells c te fr))
    (hl : LRel m ks ((c.toList.drop base).take ks.length)) :
    ∃ m' : Mp, Sub m m' ∧ m' H.length = some ⟨bl, base, .ro, 0, 0⟩ ∧ Ro P W m' (mkB H ks e .ro) := by
  refine ⟨fun b => if b = H.length then some ⟨bl, base, .ro, 0, 0⟩ else m b, ?_, if_pos rfl, ?_⟩
  · intro b L h
    have := (R.rel.dom b L h).1
    show (if b = H.length then _ else m b) = _
    rw [if_neg (by omega)]; exact h
  have hsub : Sub m (fun b => if b = H.length then some ⟨bl, base, .ro, 0, 0⟩ else m b) := by
    intro b L h
    have := (R.rel.dom b L h).1
    show (if b = H.length then _ else m b) = _
    rw [if_neg (by omega)]; exact h
  have hro : ∀ b k, blk (mkB H ks e .ro) b = some k → k.kind = .ro := by
    intro b k h
    by_cases hbn : b < H.length
    · rw [blk_mkB_old hbn] at h; exact R.ro b k h
    · have := blk_lt h
      rw [length_mkB] at this
      have : b = H.length := by omega
      subst this
      rw [blk_mkB_new] at h; cases h; rfl
  refine ⟨⟨R.rel.below, R.rel.hB, ?_, ?_, ?_⟩, hro⟩
  · intro b L h
    replace h : (if b = H.length then some _ else m b) = some L := h
    rw [length_mkB]
    by_cases hb2 : b = H.length
    · rw [if_pos hb2] at h; cases h
      exact ⟨by omega, (Array.getElem?_eq_some_iff.1 hb).1⟩
    · rw [if_neg hb2] at h
      have := R.rel.dom b L h
      exact ⟨by omega, this.2⟩
  · intro b L k h hk
    replace h : (if b = H.length then some _ else m b) = some L := h
    by_cases hb2 : b = H.length
    · rw [if_pos hb2] at h; cases h
      subst hb2
      rw [blk_mkB_new] at hk; cases hk
      exact ⟨rfl, ⟨c, te, fr, hb, hl.mono hsub, fun hh => absurd rfl hh, fun hh => (by cases hh), fun hh => (by cases hh)⟩, fun hh => absurd rfl hh, fun hh => (by cases hh)⟩
    · rw [if_neg hb2] at h
      have hlt := (R.rel.dom b L h).1
      rw [blk_mkB_old hlt] at hk
      have h1 := R.rel.blks b L k h hk
      obtain ⟨c', e', fr', q1, q2, q3, q4, q5⟩ := h1.there
      exact ⟨h1.kind, ⟨c', e', fr', q1, q2.mono hsub, q3, q4, q5⟩, h1.own, h1.esz⟩
  · intro b1 b2 L1 L2 k1 k2 _ _ h1 _ hne _
    exact absurd (hro b1 k1 h1) hne

/-- A kind of datum over the abstract heap. -/
structure Kn (α : Type) where
  K : AH → α → List Value → Prop
  mono : ∀ {H H' : AH} {a : α} {cs : List Value}, Mo H H' → K H a cs → K H' a cs
def Kn.int (k : IntKind) : Kn Int := ⟨fun _ n cs => cs = [.int k n], fun _ h => h⟩
def Kn.bool : Kn Bool := ⟨fun _ n cs => cs = [.bool n], fun _ h => h⟩
def Kn.string : Kn ByteArray := ⟨fun _ n cs => cs = [.string n], fun _ h => h⟩
def Kn.pair {α β : Type} (a : Kn α) (b : Kn β) : Kn (α × β) :=
  ⟨fun H x cs => ∃ c d, cs = c ++ d ∧ a.K H x.1 c ∧ b.K H x.2 d, fun hm ⟨c, d, h, h1, h2⟩ => ⟨c, d, h, a.mono hm h1, b.mono hm h2⟩⟩
def Kn.unit : Kn Unit := ⟨fun _ _ cs => cs = [], fun _ h => h⟩
/-- A slice that came in. -/
def Kn.slice {α : Type} (e : TypeId) (sz : Nat) (d : Kn α) : Kn (List α) :=
  ⟨fun H l cs => (cs = [.slice none 0 0] ∧ l = []) ∨ ∃ (b : Nat) (css : List (List Value)), cs = [sl b 0 l.length (l.length + 1)] ∧ blk H b = some ⟨css.flatten, e, .ro⟩ ∧ css.length = l.length ∧ ∀ (i : Nat) (a : α) (c : List Value), l[i]? = some a → css[i]? = some c → c.length = sz ∧ d.K H a c,
   by
    intro H H' l cs hm h
    rcases h with h | ⟨b, css, h1, h2, h3, h4⟩
    · exact .inl h
    · exact .inr ⟨b, css, h1, hm _ _ h2, h3, fun i a c h5 h6 => ⟨(h4 i a c h5 h6).1, d.mono hm (h4 i a c h5 h6).2⟩⟩⟩
/-- What follows from a cells' list: each is one. -/
def OpA (P : Program) (t : TypeId) {α : Type} (d : Kn α) (G : α → Prop) : Prop :=
  ∀ (Hh : Type) (enc : TypeId × Value → Hh) (W : World) (spare : Nat → Bool) (held : Bool) (fuel : Nat) (cs : List Value) (x : DataW Hh × List MemPlace),
    DataW.trod enc P W 0 spare held fuel t cs = some x → SlOK W cs → ∀ (m : Mp) (H : AH), Ro P W m H →
    ∃ m' H' cs' a, Ro P W m' H' ∧ Sub m m' ∧ Fr H H' ∧ LRel m' cs' cs ∧ d.K H' a cs' ∧ G a
theorem LRel.one {m : Mp} {x y : Value} (h : VRel m x y) : LRel m [x] [y] := LRel.cons h (LRel.nil m)
theorem opA_int {t : TypeId} {k : IntKind} (ht : P.underlying t = some (.int k)) : OpA P t (Kn.int k) (fun n => (Lit.int k n).wf = true) := by
  intro Hh enc W spare held fuel cs x h _ m H R
  obtain ⟨n, rfl, _, hw⟩ := DataW.trod_int ht h
  exact ⟨m, H, _, n, R, Sub.refl m, Fr.refl H, LRel.one (.flat _ rfl), rfl, hw⟩
theorem opA_bool {t : TypeId} (ht : P.underlying t = some .bool) : OpA P t Kn.bool (fun _ => True) := by
  intro Hh enc W spare held fuel cs x h _ m H R
  obtain ⟨n, rfl, _⟩ := DataW.trod_bool ht h
  exact ⟨m, H, _, n, R, Sub.refl m, Fr.refl H, LRel.one (.flat _ rfl), rfl, trivial⟩
theorem opA_string {t : TypeId} (ht : P.underlying t = some .string) : OpA P t Kn.string (fun s => s.size ≤ maxLen) := by
  intro Hh enc W spare held fuel cs x h _ m H R
  obtain ⟨n, rfl, _, hw⟩ := DataW.trod_string ht h
  exact ⟨m, H, _, n, R, Sub.refl m, Fr.refl H, LRel.one (.flat _ rfl), rfl, hw⟩
/-- No slice among a type's cells. -/
def NoSl (P : Program) (t : TypeId) : Prop :=
  ∀ (Hh : Type) (enc : TypeId × Value → Hh) (W : World) (spare : Nat → Bool) (held : Bool) (fuel : Nat) (cs : List Value) (x : DataW Hh × List MemPlace), DataW.trod enc P W 0 spare held fuel t cs = some x → SlOK W cs
theorem noSl_int {t : TypeId} {k : IntKind} (ht : P.underlying t = some (.int k)) : NoSl P t := by
  intro Hh enc W spare held fuel cs x h
  obtain ⟨n, rfl, _, hw⟩ := DataW.trod_int ht h
  intro a l c hm; simp at hm
theorem flatten_snoc {α : Type} (l : List (List α)) (x : List α) : (l ++ [x]).flatten = l.flatten ++ x := by simp
theorem opA_slice {t e : TypeId} {α : Type} {d : Kn α} {G : α → Prop} {sz : Nat} (ht : P.underlying t = some (.slice e)) (hsz : P.cellsOf e = sz) (he : OpA P e d G) (hn : NoSl P e) :
    OpA P t (Kn.slice e sz d) (fun l => l.length ≤ maxLen ∧ ∀ x ∈ l, G x) := by
  intro Hh enc W spare held fuel cs x h hs m H R
  rcases open_slice ht h with ⟨rfl, _⟩ | ⟨a, len, cap, mm, n, D, Pl, rfl, _, hlc, hcm, hm, _, hel⟩
  · exact ⟨m, H, [.slice none 0 0], [], R, Sub.refl m, Fr.refl H, LRel.one (.flat _ rfl), Or.inl ⟨rfl, rfl⟩, by simp, fun x hx => by simp at hx⟩
  · have hlm : len ≤ mm := by rw [hm]; split <;> omega
    obtain ⟨hsp, c, te, fr, hb⟩ := hs a len cap (by simp)
    have hcell : ∀ i, i < mm → ∃ cs', cs' = (c.toList.drop (a.off + i * sz)).take sz ∧ cs'.length = sz ∧ DataW.trod enc P W 0 spare held n e cs' = some (D i, Pl i) := by
      intro i hi
      obtain ⟨cs', h1, h2⟩ := hel i hi
      obtain ⟨_, h3, h4⟩ := World.cells?_some h1
      rw [hsz] at h3 h4
      refine ⟨cs', ?_, h3, h2⟩
      apply List.ext_getElem?
      intro j
      by_cases hj : j < sz
      · rw [List.getElem?_take_of_lt hj, List.getElem?_drop, ← h4 j hj]
        have e1 : (a.add (i * sz)).add j = a.add (i * sz + j) := add_add _ _ _
        have e2 : (a.add (i * sz + j)).block = a.block ∧ (a.add (i * sz + j)).spot = none ∧ (a.add (i * sz + j)).off = a.off + (i * sz + j) := by
          unfold Addr.add
          by_cases h0 : i * sz + j = 0
          · rw [if_pos h0, h0]; exact ⟨rfl, hsp, rfl⟩
          · rw [if_neg h0]; exact ⟨rfl, rfl, rfl⟩
        rw [e1]
        unfold World.cell?
        rw [e2.1, hb]
        simp only [e2.2.1, e2.2.2]
        simp [Nat.add_assoc]
      · rw [List.getElem?_eq_none (by omega), List.getElem?_eq_none (by rw [List.length_take]; omega)]
    have key : ∀ q, q ≤ len → ∃ (m' : Mp) (H' : AH) (l : List α) (css : List (List Value)), Ro P W m' H' ∧ Sub m m' ∧ Fr H H' ∧ l.length = q ∧ css.length = q ∧ (∀ x ∈ l, G x) ∧ css.flatten.length = q * sz ∧ LRel m' css.flatten ((c.toList.drop a.off).take (q * sz)) ∧
        ∀ (i : Nat) (y : α) (c : List Value), l[i]? = some y → css[i]? = some c → c.length = sz ∧ d.K H' y c := by
      intro q
      induction q with
      | zero => exact fun _ => ⟨m, H, [], [], R, Sub.refl m, Fr.refl H, rfl, rfl, fun x hx => by simp at hx, by simp, by simpa using LRel.nil m, fun i y c h => by simp at h⟩
      | succ q ih =>
        intro hq
        obtain ⟨m1, H1, l, css, R1, s1, f1, hl, hcs, hG, hfl, hLR, hK⟩ := ih (by omega)
        obtain ⟨cs', e1, e2, e3⟩ := hcell q (by omega)
        obtain ⟨m2, H2, ds, y, R2, s2, f2, hLR2, hK2, hG2⟩ := he Hh enc W spare held n cs' _ e3 (hn Hh enc W spare held n cs' _ e3) m1 H1 R1
        refine ⟨m2, H2, l ++ [y], css ++ [ds], R2, s1.trans s2, f1.trans f2, by simp [hl], by simp [hcs], ?_, ?_, ?_, ?_⟩
        · intro x hx
          rcases List.mem_append.1 hx with hx | hx
          · exact hG x hx
          · simp at hx; subst hx; exact hG2
        · rw [flatten_snoc, List.length_append, hfl, hLR2.1, e2, Nat.succ_mul]
        · rw [flatten_snoc, Nat.succ_mul, List.take_add, List.drop_drop, ← e1]
          exact (hLR.mono s2).append hLR2
        · intro i y' c' h1 h2
          by_cases hi : i < q
          · rw [List.getElem?_append_left (by omega)] at h1 h2
            exact ⟨(hK i y' c' h1 h2).1, d.mono f2.mo (hK i y' c' h1 h2).2⟩
          · have hi2 := (List.getElem?_eq_some_iff.1 h1).1
            have : i = q := by simp [hl] at hi2; omega
            subst this
            rw [List.getElem?_append_right (by omega), hl, Nat.sub_self] at h1
            rw [List.getElem?_append_right (by omega), hcs, Nat.sub_self] at h2
            simp at h1 h2
            subst h1 h2
            exact ⟨by rw [hLR2.1, e2], hK2⟩
    obtain ⟨m1, H1, l, css, R1, s1, f1, hl, hcs, hG, hfl, hLR, hK⟩ := key len (Nat.le_refl _)
    obtain ⟨m2, s2, hm2, R2⟩ := R1.add (ks := css.flatten) (e := e) (base := a.off) hb (by rw [hfl]; exact hLR)
    have fnew : Fr H1 (mkB H1 css.flatten e .ro) := ⟨by rw [length_mkB]; omega, fun b hb => blk_mkB_old hb⟩
    refine ⟨m2, mkB H1 css.flatten e .ro, [sl H1.length 0 l.length (l.length + 1)], l, R2, s1.trans s2, f1.trans fnew, ?_, Or.inr ⟨H1.length, css, rfl, blk_mkB_new, by omega, fun i y c h1 h2 => ⟨(hK i y c h1 h2).1, d.mono fnew.mo (hK i y c h1 h2).2⟩⟩, by omega, hG⟩
    refine LRel.one ?_
    rw [hl]
    have ea : a = ⟨a.block, a.off, none⟩ := by rw [← hsp]
    rw [ea]
    exact .slice H1.length 0 a.off len (len + 1) cap ⟨a.block, a.off, .ro, 0, 0⟩ hm2 (by omega) hlc (.inl (by simp)) (fun h => (by cases h)) (fun h => (by cases h)) (fun _ => .inl (by omega))

/-- The fields of a struct from one on. -/
def OpFs (P : Program) (fs : List Field) (off tot : Nat) {α : Type} (d : Kn α) (G : α → Prop) : Prop :=
  ∀ (Hh : Type) (enc : TypeId × Value → Hh) (W : World) (spare : Nat → Bool) (held : Bool) (fuel : Nat) (cs : List Value),
    (∀ f ∈ fs, ∃ x, DataW.trod enc P W 0 spare held fuel f.type ((cs.drop f.offset).take (P.cellsOf f.type)) = some x) → cs.length = tot → SlOK W cs → ∀ (m : Mp) (H : AH), Ro P W m H →
    ∃ m' H' cs' a, Ro P W m' H' ∧ Sub m m' ∧ Fr H H' ∧ LRel m' cs' (cs.drop off) ∧ d.K H' a cs' ∧ G a
theorem opFs_nil {off : Nat} : OpFs P [] off off Kn.unit (fun _ => True) := by
  intro Hh enc W spare held fuel cs _ hl hs m H R
  refine ⟨m, H, [], (), R, Sub.refl m, Fr.refl H, ?_, rfl, trivial⟩
  rw [List.drop_eq_nil_of_le (by omega)]; exact LRel.nil m
theorem opFs_cons {f : Field} {fs : List Field} {off tot sz : Nat} {α β : Type} {a : Kn α} {b : Kn β} {G0 : α → Prop} {G1 : β → Prop} (ho : f.offset = off) (hc : P.cellsOf f.type = sz) (A : OpA P f.type a G0)
    (B : OpFs P fs (off + sz) tot b G1) : OpFs P (f :: fs) off tot (Kn.pair a b) (fun x => G0 x.1 ∧ G1 x.2) := by
  intro Hh enc W spare held fuel cs hf hl hs m H R
  obtain ⟨x, hx⟩ := hf f (by simp)
  rw [ho, hc] at hx
  obtain ⟨m1, H1, c1, y1, R1, s1, f1, l1, k1, g1⟩ := A Hh enc W spare held fuel _ x hx (fun a l c h => hs a l c (List.mem_of_mem_drop (List.mem_of_mem_take h))) m H R
  obtain ⟨m2, H2, c2, y2, R2, s2, f2, l2, k2, g2⟩ := B Hh enc W spare held fuel cs (fun g hg => hf g (by simp [hg])) hl hs m1 H1 R1
  refine ⟨m2, H2, c1 ++ c2, (y1, y2), R2, s1.trans s2, f1.trans f2, ?_, ⟨c1, c2, rfl, a.mono f2.mo k1, k2⟩, g1, g2⟩
  have := (l1.mono s2).append l2
  rw [← List.drop_drop, List.take_append_drop] at this
  exact this
theorem opA_struct {t : TypeId} {fs : List Field} {tot : Nat} {α : Type} {d : Kn α} {G : α → Prop} (ht : P.underlying t = some (.struct ⟨fs⟩)) (hc : P.cellsOf t = tot) (A : OpFs P fs 0 tot d G) : OpA P t d G := by
  intro Hh enc W spare held fuel cs x h hs m H R
  obtain ⟨xs, n, _, rfl, hl, hlen, hf⟩ := DataW.trod_struct ht h
  refine A Hh enc W spare held n cs (fun f hfm => ?_) (by rw [hl, hc]) hs m H R
  obtain ⟨i, hi, he⟩ := List.mem_iff_getElem.1 hfm
  have h1 := hf i f (by simp [← he, hi])
  rw [h1]
  have : i < xs.length := by rw [hlen]; simpa using hi
  exact ⟨_, List.getElem?_eq_getElem this⟩
theorem slOK_cell {W : World} {base : Nat} {u : TypeId} {a : Addr} {len cap : Nat} (h : Cell.okWide P W .any base u (.slice (some a) len cap)) : a.spot = none ∧ ∃ c e fr, W.heap[a.block]? = some (.cells c e fr) := by
  have hc : ∃ e n, W.has P .any base a e n := by
    unfold Cell.okWide at h
    cases hu : P.underlying u with
    | none => rw [hu] at h; simp [Cell.ok, hu] at h
    | some D =>
      rw [hu] at h
      cases D <;> simp [Cell.ok, hu] at h
      exact ⟨_, _, h.2.2⟩
  obtain ⟨e, n, hh⟩ := hc
  obtain ⟨_, h1, row, cells, h2, _⟩ := hh
  refine ⟨h1, ?_⟩
  unfold World.shape? at h2
  split at h2
  · rename_i c' e' fr' hb; exact ⟨c', e', fr', hb⟩
  · cases h2
theorem slOK_of {W : World} {base : Nat} {t : TypeId} {v : Value} (h : Value.okWide P W .any base t v) : SlOK W v.cells.toList := by
  intro a len cap hm
  have key : (∃ u, Cell.okWide P W .any base u (.slice (some a) len cap)) := by
    unfold Value.okWide at h
    split at h
    · obtain ⟨cs, rfl, _, ts, _, _, hr⟩ := h
      obtain ⟨i, hi⟩ := List.getElem?_of_mem hm
      obtain ⟨u, _, hu⟩ := hr i _ (by simpa [Value.cells] using hi)
      exact ⟨u, hu⟩
    · obtain ⟨cs, rfl, _, ts, _, _, hr⟩ := h
      obtain ⟨i, hi⟩ := List.getElem?_of_mem hm
      obtain ⟨u, _, hu⟩ := hr i _ (by simpa [Value.cells] using hi)
      exact ⟨u, hu⟩
    · cases v with
      | agg cs =>
        exfalso
        unfold Cell.okWide at h
        cases hu : P.underlying t with
        | none => rw [hu] at h; simp [Cell.ok, hu] at h
        | some D => rw [hu] at h; cases D <;> simp [Cell.ok, hu] at h
      | slice p l c =>
        simp [Value.cells] at hm
        obtain ⟨rfl, rfl, rfl⟩ := hm
        exact ⟨t, h⟩
      | _ => simp [Value.cells] at hm
  obtain ⟨u, hu⟩ := key
  exact slOK_cell hu
/-- An argument. -/
structure OpV (P : Program) (t : TypeId) {α : Type} (d : Kn α) (G : α → Prop) (KV : AH → α → Value → Prop) : Prop where
  op : OpA P t d G
  val : ∀ (W : World) (base : Nat) (v : Value), Value.okWide P W .any base t v → (∃ cs, v = .agg cs) ∧ (∀ H a cs, d.K H a cs → KV H a (.agg cs.toArray)) ∨ v.cells = #[v] ∧ (∀ H a v, d.K H a [v] → KV H a v)
  mono : ∀ {H H' : AH} {a : α} {v : Value}, Mo H H' → KV H a v → KV H' a v
def KvS {α : Type} (d : Kn α) (H : AH) (a : α) (v : Value) : Prop := ∃ cs, v = .agg cs.toArray ∧ d.K H a cs
def KvC {α : Type} (d : Kn α) (H : AH) (a : α) (v : Value) : Prop := d.K H a [v]
theorem opV_struct {t : TypeId} {fs : Array Field} {α : Type} {d : Kn α} {G : α → Prop} (ht : P.underlying t = some (.struct fs)) (A : OpA P t d G) : OpV P t d G (KvS d) := by
  refine ⟨A, fun W base v h => .inl ⟨?_, fun H a cs h => ⟨cs, rfl, h⟩⟩, fun hm ⟨cs, h1, h2⟩ => ⟨cs, h1, d.mono hm h2⟩⟩
  unfold Value.okWide at h
  rw [ht] at h
  obtain ⟨cs, rfl, _⟩ := h
  exact ⟨cs, rfl⟩
theorem opV_cell {t : TypeId} {D : TypeDesc} {α : Type} {d : Kn α} {G : α → Prop} (ht : P.underlying t = some D) (hD : (∀ fs, D ≠ .struct fs) ∧ ∀ n e, D ≠ .array n e) (A : OpA P t d G) : OpV P t d G (KvC d) := by
  refine ⟨A, fun W base v h => .inr ⟨?_, fun H a v h => h⟩, fun hm h => d.mono hm h⟩
  unfold Value.okWide at h
  rw [ht] at h
  have h' : Cell.okWide P W .any base t v := by
    cases D with
    | struct fs => exact absurd rfl (hD.1 fs)
    | array n e => exact absurd rfl (hD.2 n e)
    | _ => exact h
  cases v with
  | agg cs =>
    exfalso
    unfold Cell.okWide at h'
    rw [ht] at h'
    cases D <;> simp [Cell.ok, ht] at h'
  | _ => rfl
/-- All arguments. -/
structure OpAs (P : Program) (ts : List TypeId) {α : Type} (G : α → Prop) (KV : AH → α → List Value → Prop) : Prop where
  op : ∀ (Hh : Type) (enc : TypeId × Value → Hh) (W : World) (base : Nat) (spare : Nat → Bool) (held : Bool) (vs : List Value) (ds : List (DataW Hh)) (ps : List MemPlace),
    DataW.TrodAll enc P W 0 spare held ts vs ds ps → (∀ (j : Nat) t v, ts[j]? = some t → vs[j]? = some v → Value.okWide P W .any base t v) → ∀ (m : Mp) (H : AH), Ro P W m H →
    ∃ m' H' vs' a, Ro P W m' H' ∧ Sub m m' ∧ Fr H H' ∧ LRel m' vs' vs ∧ KV H' a vs' ∧ G a
  mono : ∀ {H H' : AH} {a : α} {vs : List Value}, Mo H H' → KV H a vs → KV H' a vs
theorem opAs_nil : OpAs P [] (fun _ : Unit => True) (fun _ _ vs => vs = []) := by
  refine ⟨?_, fun _ h => h⟩
  intro Hh enc W base spare held vs ds ps h _ m H R
  obtain ⟨rfl, rfl, rfl⟩ := trodAll_nil h
  exact ⟨m, H, [], (), R, Sub.refl m, Fr.refl H, LRel.nil m, rfl, trivial⟩
theorem opAs_cons {t : TypeId} {ts : List TypeId} {α β : Type} {d : Kn α} {G : α → Prop} {KV : AH → α → Value → Prop} {G' : β → Prop} {KV' : AH → β → List Value → Prop} (A : OpV P t d G KV) (B : OpAs P ts G' KV') :
    OpAs P (t :: ts) (fun x : α × β => G x.1 ∧ G' x.2) (fun H x vs => ∃ v vs', vs = v :: vs' ∧ KV H x.1 v ∧ KV' H x.2 vs') := by
  refine ⟨?_, fun hm ⟨v, vs', h1, h2, h3⟩ => ⟨v, vs', h1, A.mono hm h2, B.mono hm h3⟩⟩
  intro Hh enc W base spare held vs ds ps h hv m H R
  obtain ⟨v, vs', d0, ds', p, q, rfl, rfl, rfl, ⟨fuel, h0⟩, hr⟩ := trodAll_cons h
  have hok := hv 0 t v rfl rfl
  obtain ⟨m2, H2, us, y2, R2, s2, f2, l2, k2, g2⟩ := B.op Hh enc W base spare held vs' ds' q hr (fun j t' v' h1 h2 => hv (j + 1) t' v' h1 h2) m H R
  obtain ⟨m1, H1, cs', y1, R1, s1, f1, l1, k1, g1⟩ := A.op Hh enc W spare held fuel _ _ h0 (slOK_of hok) m2 H2 R2
  rcases A.val W base v hok with ⟨⟨cs, rfl⟩, hk⟩ | ⟨hc, hk⟩
  · exact ⟨m1, H1, .agg cs'.toArray :: us, (y1, y2), R1, s2.trans s1, f2.trans f1, LRel.cons (VRel.aggL (by simpa [Value.cells] using l1)) (l2.mono s1), ⟨_, _, rfl, hk _ _ _ k1, B.mono f1.mo k2⟩, g1, g2⟩
  · rw [hc] at l1
    obtain ⟨x, rfl⟩ : ∃ x, cs' = [x] := List.length_eq_one_iff.1 l1.1
    exact ⟨m1, H1, x :: us, (y1, y2), R1, s2.trans s1, f2.trans f1, LRel.cons (l1.2 0 x v rfl rfl) (l2.mono s1), ⟨_, _, rfl, hk _ _ _ k1, B.mono f1.mo k2⟩, g1, g2⟩
/-- Behind a call: nothing that was there is another. -/
theorem walk_of {W : World} {f : FuncId} {args vs : List Value} {m : Mp} {H H' : AH} {v : Value} {call : CallF} (hc : CallOK P call) (R : Ro P W m H) (hl : LRel m args vs) (h : call f args H = some (v, H')) (hf : flat1 v = true) :
    Calls P f vs.toArray W fun e W' => e = .returned v ∧ Below W.heap.size W W' := by
  refine ((hc f args H v H' h).2 W.heap.size W m W vs R.rel hl).mono fun e w' ⟨m', v', he, hv, hr, _⟩ => ?_
  rw [VRel.flat_inv hf hv] at he
  exact ⟨he, hr.below⟩
end Go.AM
set_option linter.unusedVariables false
set_option linter.unusedSimpArgs false
set_option maxRecDepth 100000
namespace Go.AM.Y
open Go Go.AM Go.Proofs
attribute [local irreducible] run bin un ld st box newV mkS fldA fld ixA ix slc slc3 build buildS cv cvS ap cpy lenV gOp pickV b2 aIf aChk evalK resume iterD Option.bind

theorem gv_ok : GivenOK Try.prog gv := fun f g h => by cases h
abbrev KDy := Kn.pair (Kn.pair Kn.bool (Kn.pair (Kn.slice 67 1 (Kn.int .u32)) Kn.unit)) (Kn.pair (Kn.int .i64) Kn.unit)
abbrev GDy (x : (Bool × List Int × Unit) × Int × Unit) : Prop := (True ∧ (x.1.2.1.length ≤ maxLen ∧ ∀ n ∈ x.1.2.1, (Lit.int .u32 n).wf = true) ∧ True) ∧ (Lit.int .i64 x.2.1).wf = true ∧ True
def dyOf (x : (Bool × List Int × Unit) × Int × Unit) : Dy := ⟨x.1.1, x.1.2.1.map Int.toNat, x.2.1⟩
theorem wf_i64 {n : Int} (h : (Lit.int .i64 n).wf = true) : -9223372036854775808 ≤ n ∧ n < 9223372036854775808 := by
  simp [Lit.wf, IntKind.min, IntKind.max, IntKind.bits, IntKind.signed] at h; omega
theorem wf_u32 {n : Int} (h : (Lit.int .u32 n).wf = true) : 0 ≤ n ∧ n < 4294967296 := by
  simp [Lit.wf, IntKind.min, IntKind.max, IntKind.bits, IntKind.signed] at h; omega
theorem rd_slice {H : AH} {l : List Int} {m : Value} (h : (Kn.slice 67 1 (Kn.int .u32)).K H l [m]) (hw : ∀ n ∈ l, (Lit.int .u32 n).wf = true) : RdN H m (l.map Int.toNat) := by
  have hsm : small (l.map Int.toNat) := by
    intro x hx
    obtain ⟨n, hn, rfl⟩ := List.mem_map.mp hx
    have := wf_u32 (hw n hn); omega
  rcases h with ⟨h1, rfl⟩ | ⟨b, css, h1, h2, h3, h4⟩
  · cases h1; exact RdN.nil
  · cases h1
    refine ⟨.inr ⟨b, 0, l.length + 1, by simp, by simp, ?_⟩, hsm⟩
    by_cases hn : l = []
    · left; rw [hn]; rfl
    · right
      refine ⟨_, h2, ?_⟩
      have e : css.flatten = (l.map Int.toNat).map u32 := by
        have : css = l.map fun n => [Value.int .u32 n] := by
          apply List.ext_getElem?
          intro i
          by_cases hi : i < l.length
          · rw [List.getElem?_map, List.getElem?_eq_getElem hi, List.getElem?_eq_getElem (by omega)]
            have := (h4 i _ _ (List.getElem?_eq_getElem hi) (List.getElem?_eq_getElem (by omega))).2
            exact congrArg some this
          · rw [List.getElem?_eq_none (by omega), List.getElem?_eq_none (by simp; omega)]
        rw [this, List.map_map]
        clear this h2 h3 h4 hn hsm
        induction l with
        | nil => rfl
        | cons a l ih =>
          have := wf_u32 (hw a (by simp))
          simp only [List.map_cons, List.flatten_cons, List.cons_append, List.nil_append, Function.comp]
          rw [ih (fun n hn => hw n (by simp [hn]))]
          congr 2
          show a = ((a.toNat : Nat) : Int)
          omega
      rw [e]
      simp [rdN, List.take_of_length_le]
theorem dy_open {H : AH} {v : Value} {x : (Bool × List Int × Unit) × Int × Unit} (h : KvS KDy H x v) (hG : GDy x) : DyV H v (dyOf x) ∧ (dyOf x).mag.length < 9223372036854775808 ∧ (-9223372036854775808 ≤ (dyOf x).e ∧ (dyOf x).e < 9223372036854775808) := by
  obtain ⟨cs, rfl, c1, c2, rfl, ⟨c3, c4, rfl, h1, c5, c6, rfl, h2, h3⟩, c7, c8, rfl, h4, h5⟩ := h
  obtain ⟨⟨_, ⟨g1, g2⟩, _⟩, g3, _⟩ := hG
  have h1 : c3 = [.bool x.1.1] := h1
  have h3 : c6 = [] := h3
  have h4 : c7 = [.int .i64 x.2.1] := h4
  have h5 : c8 = [] := h5
  subst h1 h3 h4 h5
  have hl : c5.length = 1 := by
    rcases h2 with ⟨e, _⟩ | ⟨b, css, e, _⟩ <;> rw [e] <;> rfl
  obtain ⟨m, rfl⟩ := List.length_eq_one_iff.mp hl
  refine ⟨⟨m, rfl, rd_slice h2 g2⟩, ?_, wf_i64 g3⟩
  have : maxLen = 9223372036854775807 := by decide
  simp [dyOf]; omega
theorem tame_canon (d : Dy) (hs : small d.mag) : ∃ z e : Int, tameD d = canon z e ∧ nbits z.natAbs ≤ 192 ∧ -300 ≤ e ∧ e ≤ 300 := by
  refine ⟨sg d.neg (val (d.mag.take 6)), ((abs1 d.e % 601 : Nat) : Int) - 300, ?_, ?_, by omega, by omega⟩
  · unfold tameD makeR
    have h1 := nbits_val (hs.take 6)
    have h2 : (d.mag.take 6).length ≤ 6 := by rw [List.length_take]; omega
    rw [if_pos (by omega), if_pos (inRange_canon (by omega) (.inr (by omega)) (by rw [sg_abs]; omega) (by rw [sg_abs]; omega))]
  · rw [sg_abs]
    have h1 := nbits_val (hs.take 6)
    have h2 : (d.mag.take 6).length ≤ 6 := by rw [List.length_take]; omega
    omega
end Go.AM.Y
set_option linter.unusedVariables false
set_option linter.unusedSimpArgs false
set_option maxRecDepth 100000
namespace Go.AM.Y
open Go Go.AM Go.Proofs
attribute [local irreducible] run bin un ld st box newV mkS fldA fld ixA ix slc slc3 build buildS cv cvS ap cpy lenV gOp pickV b2 aIf aChk evalK resume iterD Option.bind

abbrev Dc (X E : Int) (m : Value) : Value := .agg #[.bool (canon X E).neg, m, .int .i64 (canon X E).e]
def ResC (B : AH) (v : Value) (X E : Int) : Prop := ∃ m, v = .tuple #[Dc X E m, .int .i64 0] ∧ RdN B m (canon X E).mag
def ValC (B : AH) (v : Value) (X E : Int) : Prop := ∃ m, v = Dc X E m ∧ RdN B m (canon X E).mag
section
variable {B H : AH} {X Y E F : Int} {m m2 : Value}
theorem ResV.c {v : Value} {r : Dy × Int} (h : ResV B v r.1 r.2) (e : r = (canon X E, 0)) : ResC B v X E := by
  subst e
  obtain ⟨x, rfl, m, rfl, hr⟩ := h
  exact ⟨m, rfl, hr⟩
theorem An.imp {Post Post' : AH → Value → Prop} {g : Nat → Nat → Option (Value × AH)} (h : Ev g (An B H Post)) (hp : ∀ B' v, Post B' v → Post' B' v) : Ev g (An B H Post') :=
  h.mono fun r ⟨B', h1, h2, h3, h4⟩ => ⟨B', h1, h2, h3, hp B' r.1 h4⟩
theorem same_C [hx : RdT B m (canon X E).mag] [hy : RdT B m2 (canon Y E).mag] (ox : Ok X E) (hL : Le B H) : Ev (fun k _ => rn k 19 [Dc X E m, Dc Y E m2] H) (An B H fun _ v => v = .bool (decide (X = Y))) :=
  An.imp (same_spec (by have := ox.len; omega) ⟨m, rfl, hx.rd⟩ ⟨m2, rfl, hy.rd⟩ hL) fun B' v h => by rw [h]; congr 1; exact decide_eq_decide.mpr same_c
theorem tame_C {d : Dy} (hl : d.mag.length < 9223372036854775808) (he : -9223372036854775808 ≤ d.e ∧ d.e < 9223372036854775808) [hx : RdT B m d.mag] (hL : Le B H) :
    Ev (fun k _ => rn k 16 [.agg #[.bool d.neg, m, .int .i64 d.e]] H) (An B H fun B' v => ∃ X, nbits X.natAbs ≤ 792 ∧ ValC B' v X (-300)) := by
  refine An.imp (tame_spec hl he ⟨m, rfl, hx.rd⟩ hL) fun B' v h => ?_
  obtain ⟨z, e, ht, hz, he2⟩ := tame_canon d hx.rd.sm
  refine ⟨z * ((2 ^ (e + 300).toNat : Nat) : Int), ?_, ?_⟩
  · rw [Int.natAbs_mul, Int.natAbs_natCast]
    by_cases h0 : z.natAbs = 0
    · rw [h0, Nat.zero_mul]; decide
    · rw [nbits_mul_pow h0]; omega
  · unfold ValC Dc
    rw [canon_mul, show -300 + (((e + 300).toNat : Nat) : Int) = e by omega, ← ht]
    exact h
theorem An.tt {B H : AH} {g : Nat → Nat → Option (Value × AH)} (h : Ev g (An B H fun _ v => v = .bool true)) : Ev g (fun r => r.1 = .bool true) := h.mono fun r ⟨_, _, _, _, e⟩ => e
end
end Go.AM.Y
set_option linter.unusedVariables false
namespace Go.AM
/-- It is so as it stands: M is not even, or it is nought. -/
structure Odd (A e : Int) : Prop where
  z : dz (canon A e) = A
  e : (canon A e).e = e
theorem Odd.of {d : Dy} (h : rightD d = true) (hs : small d.mag) : Odd (dz d) d.e := ⟨by rw [canon_right h hs], by rw [canon_right h hs]⟩
theorem Odd.neg {A e : Int} (h : Odd A e) : (canon A e).neg = decide (A < 0) := canon_neg
theorem Odd.val {A e : Int} (h : Odd A e) : val (canon A e).mag = A.natAbs := by
  have := congrArg Int.natAbs h.z
  unfold dz at this; rwa [sg_abs] at this
def dk (A C : Int) (p : Nat) : Nat := p + 2 + nbits C.natAbs - nbits A.natAbs
theorem Odd.zero : Odd 0 0 := ⟨rfl, rfl⟩
end Go.AM
set_option linter.unusedVariables false
set_option linter.unusedSimpArgs false
set_option maxRecDepth 100000
namespace Go.AM.Y
open Go Go.AM Go.Proofs
attribute [local irreducible] run bin un ld st box newV mkS fldA fld ixA ix slc slc3 build buildS cv cvS ap cpy lenV gOp pickV b2 aIf aChk evalK resume iterD Option.bind

section
variable {B H : AH} {X Y E F : Int} {m m2 : Value}
end
end Go.AM.Y
set_option linter.unusedVariables false
set_option linter.unusedSimpArgs false
set_option maxRecDepth 100000
namespace Go.AM.Y
open Go Go.AM Go.Proofs
attribute [local irreducible] run bin un ld st box newV mkS fldA fld ixA ix slc slc3 build buildS cv cvS ap cpy lenV gOp pickV b2 aIf aChk evalK resume iterD Option.bind

end Go.AM.Y
set_option linter.unusedVariables false
set_option linter.unusedSimpArgs false
set_option maxRecDepth 100000
namespace Go.AM.Y
open Go Go.AM Go.Proofs
attribute [local irreducible] run bin un ld st box newV mkS fldA fld ixA ix slc slc3 build buildS cv cvS ap cpy lenV gOp pickV b2 aIf aChk evalK resume iterD Option.bind

section
variable {B H : AH} {X E : Int} {m : Value}
end
end Go.AM.Y
set_option linter.unusedVariables false
set_option linter.unusedSimpArgs false
set_option maxRecDepth 100000
namespace Go.AM.Y
open Go Go.AM Go.Proofs
attribute [local irreducible] run bin un ld st box newV mkS fldA fld ixA ix slc slc3 build buildS cv cvS ap cpy lenV gOp pickV b2 aIf aChk evalK resume iterD Option.bind

end Go.AM.Y
set_option linter.unusedVariables false
namespace Go.AM
variable {α β R : Type} {P : Program}
section
variable {t e : TypeId} {z : Value} {sz : Nat}
def Acc (e : TypeId) (H0 B0 B : AH) (L : List (Nat × Blk)) (H : AH) (v : Value) (ds : List Nat) : Prop :=
  (ds = [] ∧ (v = .slice none 0 0 ∨ ∃ b off, v = sl b off 0 0) ∧ St H0 B0 B L H) ∨
  (ds ≠ [] ∧ ∃ b kd cap, v = sl b 0 ds.length cap ∧ (kd = .grow ∧ cap ≠ 0 ∧ ds.length ≤ cap ∨ kd = .fix ∧ cap = ds.length) ∧ St H0 B0 B ((b, ⟨ds.map u32, e, kd⟩) :: L) H)
theorem Acc.nil {H0 B0 B L H} (hS : St H0 B0 B L H) : Acc e H0 B0 B L H (.slice none 0 0) [] := .inl ⟨rfl, .inl rfl, hS⟩
theorem Acc.le {H0 B0 B L H v ds} (h : Acc e H0 B0 B L H v ds) : Le B H := by
  rcases h with ⟨_, _, hS⟩ | ⟨_, b, kd, cap, _, _, hS⟩
  · exact hS.lel
  · exact hS.lel
theorem Acc.st {H0 B0 B L H v ds} (h : Acc e H0 B0 B L H v ds) : St H0 B0 B L H := by
  rcases h with ⟨_, _, hS⟩ | ⟨_, b, kd, cap, _, _, hS⟩
  · exact hS
  · exact hS.drop1
theorem drop2 {x y : Nat × Blk} {L : List (Nat × Blk)} {H0 B0 B H} (h : St H0 B0 B (x :: y :: L) H) : St H0 B0 B (x :: L) H := h.drop (.cons_cons _ (List.sublist_cons_self _ _))
theorem drop3 {x y z : Nat × Blk} {L : List (Nat × Blk)} {H0 B0 B H} (h : St H0 B0 B (x :: y :: z :: L) H) : St H0 B0 B (x :: L) H := drop2 (drop2 h)
/-- One more digit. -/
theorem Acc.push {H0 B0 B : AH} {L : List (Nat × Blk)} {H : AH} {v : Value} {ds : List Nat} {d : Nat} {f : Nat → Nat → Value → AH → Option R} {Q : R → Prop} [hE : Elt P t e (.int .u32 0) sz] (h : Acc e H0 B0 B L H v ds)
    (hl : (ds.length + 1) * sz ≤ 140737488355328 ∧ ds.length + 1 ≤ 9223372036854775807) (hk : ∀ v' B' H', MoC B B' → Acc e H0 B0 B' L H' v' (ds ++ [d]) → Ev (fun k n => f k n v' H') Q) :
    Ev (fun k n => Go.AM.b2 (Go.AM.buildS P t H 1 [(0, u32 d)]) fun w h => Go.AM.b2 (Go.AM.ap P t t h v w) (f k n)) Q := by
  have e1 : ([d].map u32).length = 1 := rfl
  have hlen : (ds.map u32).length = ds.length := List.length_map ..
  rcases h with ⟨rfl, hv, hS⟩ | ⟨hne, b, kd, cap, rfl, hkc, hS⟩
  · refine Ev.bsC (P := P) (t := t) (by decide) fun bw H1 hS1 => ?_
    have hx : Sc H1 (sl bw 0 1 1) ([d].map u32) := hS1.sc (.head _) (Nat.le_refl 1)
    refine Ev.apNew hE hE.U hS1 (hv.imp id fun ⟨b, off, h⟩ => ⟨b, off, 0, h⟩) hx (all_u32 _) (by simp) ⟨by simpa using hl.1, by simp⟩ fun b' B' H' hm hS' => ?_
    exact hk _ B' H' ⟨hm⟩ (.inr ⟨by simp, b', .grow, 2, rfl, .inl ⟨rfl, by decide, by simp⟩, drop2 hS'⟩)
  · refine Ev.bsC (P := P) (t := t) (by decide) fun bw H1 hS1 => ?_
    have hx : Sc H1 (sl bw 0 1 1) ([d].map u32) := hS1.sc (.head _) (Nat.le_refl 1)
    rcases hkc with ⟨rfl, hc, hcl⟩ | ⟨rfl, rfl⟩
    · have hS2 : St H0 B0 B ((b, ⟨ds.map u32, e, .grow⟩) :: (bw, ⟨[u32 d], e, .fix⟩) :: L) H1 := hS1.perm (List.Perm.swap _ _ _)
      have hk2 := Ev.apGrow (b := b) (cap := cap) (cs := ds.map u32) (v := sl bw 0 1 1) (ds := [d].map u32) (f := f) (Q := Q) hE hE.U hS2 hc hx (all_u32 _) (by simp) (by rw [hlen, e1]; exact hl) (fun b' B' H' hm hS' => by
        have := hk (sl b' 0 (ds ++ [d]).length ((ds ++ [d]).length + 1)) B' H' ⟨hm⟩ (.inr ⟨by simp, b', .grow, _, rfl, .inl ⟨rfl, by omega, by omega⟩, by rw [List.map_append]; exact drop2 hS'⟩)
        have e2 : (ds.map u32 ++ [d].map u32).length = (ds ++ [d]).length := by simp
        rw [e2]; exact this)
      rw [hlen] at hk2
      exact hk2
    · have hk2 := Ev.apFull (b := b) (cs := ds.map u32) (v := sl bw 0 1 1) (ds := [d].map u32) (f := f) (Q := Q) hE hE.U hS1 (hS1.get (.tail _ (.head _))) (by simpa using hne) hx (all_u32 _) (by simp) (by rw [hlen, e1]; exact hl) (fun b' B' H' hm hS' => by
        have := hk (sl b' 0 (ds ++ [d]).length ((ds ++ [d]).length + 1)) B' H' ⟨hm⟩ (.inr ⟨by simp, b', .grow, _, rfl, .inl ⟨rfl, by omega, by omega⟩, by rw [List.map_append]; exact drop3 hS'⟩)
        have e2 : (ds.map u32 ++ [d].map u32).length = (ds ++ [d]).length := by simp
        rw [e2]; exact this)
      rw [hlen] at hk2
      exact hk2
/-- It is done. -/
theorem Acc.freeze {H0 B0 B : AH} {L : List (Nat × Blk)} {H : AH} {v : Value} {ds : List Nat} (h : Acc e H0 B0 B L H v ds) (hs : small ds) : ∃ B', MoC B B' ∧ RdN B' v ds ∧ St H0 B0 B' L H := by
  rcases h with ⟨rfl, hv, hS⟩ | ⟨hne, b, kd, cap, rfl, hkc, hS⟩
  · refine ⟨B, ⟨Mo.refl B⟩, ?_, hS⟩
    rcases hv with rfl | ⟨b, off, rfl⟩
    · exact RdN.nil
    · exact ⟨.inr ⟨b, off, 0, rfl, Nat.le_refl _, .inl rfl⟩, hs⟩
  · obtain ⟨B', h1, h2, h3⟩ := hS.freezeN hs rfl (cap := cap) (by rcases hkc with ⟨_, _, h⟩ | ⟨_, h⟩ <;> omega)
    exact ⟨B', ⟨h1⟩, h2, h3⟩
/-- A call beside it. -/
theorem Acc.mo {H0 B0 B : AH} {L : List (Nat × Blk)} {H : AH} {v : Value} {ds : List Nat} (h : Acc e H0 B0 B L H v ds) {r : Value × AH} {Post : AH → Value → Prop} (ha : An B H Post r) : ∃ B', Mo B B' ∧ Acc e H0 B0 B' L r.2 v ds ∧ Post B' r.1 := by
  rcases h with ⟨rfl, hv, hS⟩ | ⟨hne, b, kd, cap, rfl, hkc, hS⟩
  · obtain ⟨B', h1, h2, h3⟩ := hS.call ha
    exact ⟨B', h1, .inl ⟨rfl, hv, h2⟩, h3⟩
  · obtain ⟨B', h1, h2, h3⟩ := hS.call ha
    exact ⟨B', h1, .inr ⟨hne, b, kd, cap, rfl, hkc, h2⟩, h3⟩
end
end Go.AM
set_option linter.unusedVariables false
namespace Go.AM
variable {R : Type} {P : Program}
abbrev str (l : List UInt8) : Value := .string ⟨l.toArray⟩
theorem str_of (s : ByteArray) : Value.string s = str s.data.toList := by
  obtain ⟨⟨l⟩⟩ := s; rfl
instance {t : TypeId} {l : List UInt8} [h : Und P t .string] : PrimEq (lenV P t (str l)) (i64 l.length) := ⟨by unfold lenV; rw [h.eq]; rfl⟩
theorem ix_str {t : TypeId} {l : List UInt8} {k : IntKind} {n : Int} [h : Und P t .string] (i : Nat) (hn : n = (i : Int)) (hi : i < l.length) : ix P t (str l) (.int k n) = some (u8 (l.getD i 0).toNat) := by
  subst hn
  unfold ix; rw [h.eq]
  have : ByteArray.size ⟨l.toArray⟩ = l.length := rfl
  simp only [this]
  rw [if_pos ⟨by omega, by omega⟩]
  simp [List.getD_eq_getElem?_getD]
theorem slc_str {t : TypeId} {l : List UInt8} {k : IntKind} {n : Int} [h : Und P t .string] (i : Nat) (hn : n = (i : Int)) (hi : i ≤ l.length) : slc P t (str l) (some (.int k n)) none = some (str (l.drop i)) := by
  subst hn
  unfold slc; rw [h.eq]
  have : ByteArray.size ⟨l.toArray⟩ = l.length := rfl
  simp only [this, intOr, Option.bind_some]
  rw [if_pos ⟨by omega, by omega, by omega⟩]
  congr 2
  simp [ByteArray.extract, ByteArray.copySlice]
  rw [List.take_of_length_le (by simp)]
theorem toList_loop (a : Array UInt8) : ∀ (n i : Nat) (r : List UInt8), i + n = a.size → ByteArray.toList.loop ⟨a⟩ i r = r.reverse ++ a.toList.drop i := by
  intro n
  induction n with
  | zero =>
    intro i r h
    have h1 : ¬ i < ByteArray.size ⟨a⟩ := by show ¬ i < a.size; omega
    unfold ByteArray.toList.loop
    rw [if_neg h1, List.drop_eq_nil_of_le (by simp; omega), List.append_nil]
  | succ n ih =>
    intro i r h
    have h1 : i < ByteArray.size ⟨a⟩ := by show i < a.size; omega
    have h2 : i < a.size := by omega
    unfold ByteArray.toList.loop
    rw [if_pos h1, ih (i + 1) _ (by omega), List.reverse_cons, List.append_assoc]
    congr 1
    have e : a.toList.drop i = a.toList[i]'(by simpa using h2) :: a.toList.drop (i + 1) := List.drop_eq_getElem_cons (by simpa using h2)
    rw [e]
    have e2 : ByteArray.get! ⟨a⟩ i = a[i] := by
      show a[i]! = a[i]
      rw [getElem!_pos a i h2]
    rw [e2]
    simp
theorem toList_str (l : List UInt8) : ByteArray.toList ⟨l.toArray⟩ = l := by
  unfold ByteArray.toList
  rw [toList_loop l.toArray l.length 0 [] (by simp)]
  simp
theorem add_str {t : TypeId} {a b : List UInt8} (h : a.length + b.length ≤ 9223372036854775807) : bin P .add t (str a) (str b) = some (str (a ++ b)) := by
  have e : binOp .add t (str a) (str b) = .pure (str (a ++ b)) := by
    show Op.stringOp .add _ _ = _
    unfold Op.stringOp
    have e1 : ByteArray.size ⟨a.toArray⟩ = a.length := rfl
    have e2 : ByteArray.size ⟨b.toArray⟩ = b.length := rfl
    have e3 : IntKind.i64.max = 9223372036854775807 := rfl
    simp only [e1, e2, e3]
    rw [if_neg (by omega)]
    have e4 : ((⟨a.toArray⟩ : ByteArray) ++ (⟨b.toArray⟩ : ByteArray)) = ⟨(a ++ b).toArray⟩ := by
      refine ByteArray.ext ?_
      simp
    rw [e4]; rfl
  unfold bin
  rw [if_pos ⟨rfl, rfl, rfl⟩, e]
  rfl
theorem eql_str {t : TypeId} {a b : List UInt8} : bin P .eql t (str a) (str b) = some (.bool (decide (a = b))) := by
  have e : binOp .eql t (str a) (str b) = .pure (.bool (decide (a = b))) := by
    show Op.stringOp .eql _ _ = _
    unfold Op.stringOp
    simp only [toList_str]
    show Sem.pure _ = _
    congr 2
    exact Bool.eq_iff_iff.mpr (by simp)
  unfold bin
  rw [if_pos ⟨rfl, rfl, rfl⟩, e]
  rfl
instance {t : TypeId} {a b : List UInt8} : PrimEq (bin P .eql t (str a) (str b)) (.bool (decide (a = b))) := ⟨eql_str⟩
instance (priority := 2000) {t : TypeId} {a : List UInt8} : PrimEq (bin P .eql t (str a) (str a)) (.bool true) := ⟨by rw [eql_str, decide_eq_true rfl]⟩
theorem bytesOf_map (l : List Nat) : bytesOf (l.map u8) = some (l.map fun n => UInt8.ofNat n) := by
  induction l with
  | nil => rfl
  | cons a l ih => show (bytesOf (l.map u8)).map _ = _; rw [ih]; rfl
/-- Bytes of ours, as a string. -/
theorem cvS_own {t d e : TypeId} {B0 H0 B H : AH} {L : List (Nat × Blk)} {b cap n : Nat} {ds rest : List Nat} {kd : BK} [h1 : Und P t (.slice e)] [h2 : Und P d .string] [h3 : Und P e (.int .u8)] (hS : St H0 B0 B L H) (hm : (b, ⟨(ds ++ rest).map u8, e, kd⟩) ∈ L) (hn : n = ds.length) :
    cvS P t d H (sl b 0 n cap) = some (str (ds.map fun n => UInt8.ofNat n)) := by
  subst hn
  unfold cvS
  rw [h1.eq, h2.eq]
  simp only [sl, h3.eq, sliceCells]
  by_cases h0 : ds.length = 0
  · rw [if_pos h0]
    have : ds = [] := List.length_eq_zero_iff.mp h0
    subst this; rfl
  · rw [if_neg h0, if_pos (Nat.le_refl _), hS.get hm, Option.bind_some]
    have : rdN ⟨(ds ++ rest).map u8, e, kd⟩ 0 (ds.length * 1) = some (ds.map u8) := by
      unfold rdN
      rw [if_pos (by simp), Nat.mul_one, List.drop_zero, List.map_append, List.take_left' (by simp)]
    rw [this, Option.bind_some, bytesOf_map]; rfl
/-- Into room that is there. -/
theorem Ev.apRoom {t u e u' : TypeId} {z : Value} {sz : Nat} {f : Nat → Nat → Value → AH → Option R} {Q : R → Prop} {B0 H0 B H : AH} {L L' : List (Nat × Blk)} {b cap n : Nat} {cs ds : List Value} {v : Value} (hE : Elt P t e z sz) (hu : P.underlying u = some (.slice u')) (hS : St H0 B0 B L H)
    (hm : (b, ⟨cs, e, .fix⟩) ∈ L) (hx : Sc H v ds) (hd : ds.all isCell = true) (hn : ds ≠ []) (hc : n + ds.length ≤ cap) (hl : n + ds.length ≤ cs.length) (hl2 : (n + ds.length) * sz ≤ 140737488355328 ∧ n + ds.length ≤ 9223372036854775807)
    (hu2 : Upd b ⟨cs, e, .fix⟩ ⟨spl cs n ds, e, .fix⟩ L L') (h : ∀ H', St H0 B0 B L' H' → Ev (fun k m => f k m (sl b 0 (n + ds.length) cap) H') Q) :
    Ev (fun k m => Go.AM.b2 (Go.AM.ap P t u H (sl b 0 n cap) v) (f k m)) Q := by
  have hn' : ds.length ≠ 0 := fun e => hn (List.length_eq_zero_iff.mp e)
  refine Ev.prim2 ?_ (h _ (hS.put hu2))
  rw [ap_eq hE hu hx hd]
  simp only [apS, sl, if_neg hn', hS.get hm, Option.bind_some, rdN, Nat.mul_one, Nat.zero_add]
  rw [if_neg (by omega), if_pos (by omega), Option.bind_some, if_pos ⟨hl2.1, hl2.2, trivial⟩, if_pos hc, if_pos (by omega)]
/-- Room for later. -/
theorem Ev.mkCap {t e : TypeId} {z : Value} {sz : Nat} {f : Nat → Nat → Value → AH → Option R} {Q : R → Prop} {B0 H0 B H : AH} {L : List (Nat × Blk)} {m : Nat} (hE : Elt P t e z sz) (hS : St H0 B0 B L H) (hm : m * sz ≤ 281474976710656) (hm' : m ≤ 9223372036854775807)
    (h : ∀ b B' H', Mo B B' → St H0 B0 B' ((b, ⟨List.replicate m z, e, .fix⟩) :: L) H' → Ev (fun k n => f k n (sl b 0 0 m) H') Q) :
    Ev (fun k n => Go.AM.b2 (Go.AM.mkS P t H (.int .i64 0) (.int .i64 (m : Int))) (f k n)) Q := by
  obtain ⟨B', hm1, hS'⟩ := hS.mkB (List.replicate m z) e .fix
  refine Ev.prim2 ?_ (h H.length B' _ hm1 hS')
  unfold Go.AM.mkS
  rw [hE.U]; simp only [hE.Z, hE.Y, hE.S, hE.zn, Option.bind_some, rep_one]
  rw [if_pos ⟨by omega, by omega, by omega, by omega, size_cells hE.zn, okCells_of hE.zc⟩]
  simp
/-- A literal, whose number counts. -/
theorem Ev.bsL {t e : TypeId} {z : Value} {sz : Nat} {B0 H0 B H : AH} {L : List (Nat × Blk)} {m : Nat} {parts : List (Nat × Value)} {l cs : List Value} {f : Nat → Nat → Value → AH → Option R} {Q : R → Prop} [hE : Elt P t e z sz] [hS : St H0 B0 B L H] [hr : Rep m z l] [hf : FillL l parts cs] (hm : m ≤ 16777216)
    (h : ∀ H', St H0 B0 B ((H.length, ⟨cs, e, .fix⟩) :: L) H' → Ev (fun k n => f k n (sl H.length 0 m m) H') Q) : Ev (fun k n => Go.AM.b2 (Go.AM.buildS P t H m parts) (f k n)) Q := by
  refine Ev.prim2 ?_ (h _ (hS.mkB' cs e .fix))
  unfold Go.AM.buildS
  rw [hE.U]; simp only [hE.Z, hE.S, hE.zn, Option.bind_some, rep_one]
  rw [if_pos ⟨by omega, size_cells hE.zn⟩, hr.eq, hf.eq]; rfl
theorem Acc.cell {e : TypeId} {H0 B0 B L H v ds} (h : Acc e H0 B0 B L H v ds) : IsCell v := by
  rcases h with ⟨_, rfl | ⟨b, off, rfl⟩, _⟩ | ⟨_, b, kd, cap, rfl, _, _⟩
  · exact inferInstance
  · exact inferInstance
  · exact inferInstance
theorem Acc.stC {t e e' : TypeId} {H0 B0 B : AH} {L L' : List (Nat × Blk)} {H : AH} {v : Value} {ds : List Nat} {b off : Nat} {cs0 cs : List Value} {w : Value} {f : Nat → Nat → AH → Option R} {Q : R → Prop} (h : Acc e H0 B0 B L H v ds) [hm : InL b ⟨cs0, e', .fix⟩ L] [hs : PrimEq (stK P t cs0 off w) cs]
    [hu : UpL b ⟨cs0, e', .fix⟩ ⟨cs, e', .fix⟩ L L'] (hk : ∀ H', Acc e H0 B0 B L' H' v ds → Ev (fun k n => f k n H') Q) : Ev (fun k n => (Go.AM.st P t H (ptr b off) w).bind (f k n)) Q := by
  rcases h with ⟨h1, hv, hS⟩ | ⟨hne, b2, kd, cap, hv, hkc, hS⟩
  · exact Ev.st hS hm.mem hs.eq (fun h => by cases h) hu.upd fun H' hS' => hk H' (.inl ⟨h1, hv, hS'⟩)
  · exact Ev.st hS (.tail _ hm.mem) hs.eq (fun h => by cases h) (.tail _ hu.upd) fun H' hS' => hk H' (.inr ⟨hne, b2, kd, cap, hv, hkc, hS'⟩)
theorem shl8I {t : TypeId} {a : Nat} {k' : IntKind} (h : a < 1000) : bin P .shl t (i64 a) (.int k' 8) = some (i64 (a * 256)) := by
  rw [bin_shl (by decide), show min (8 : Int).toNat IntKind.i64.bits = 8 from rfl, wrap64 (by omega)]
  have : (a : Int) * 2 ^ 8 = ((a * 256 : Nat) : Int) := by omega
  rw [this]
theorem orI {t : TypeId} {a b : Nat} (h : a < 1073741824 ∧ b < 1073741824) : bin P .or t (i64 a) (i64 b) = some (i64 (a ||| b)) := by
  rw [bin_or]
  have e : (BitVec.ofInt IntKind.i64.bits (a : Int) ||| BitVec.ofInt IntKind.i64.bits (b : Int)).toNat = a ||| b := by
    rw [BitVec.toNat_or, BitVec.ofInt_natCast, BitVec.ofInt_natCast, BitVec.toNat_ofNat, BitVec.toNat_ofNat, show 2 ^ IntKind.i64.bits = 18446744073709551616 from rfl, Nat.mod_eq_of_lt (by omega), Nat.mod_eq_of_lt (by omega)]
  have : a ||| b < 2 ^ 30 := Nat.or_lt_two_pow h.1 h.2
  rw [e, wrap64 (by omega)]
theorem shlWL {t : TypeId} {a n : Nat} {k' : IntKind} (h : n < 32 ∧ a * 2 ^ n < 4294967296) : bin P .shl t (u32 a) (.int k' (n : Int)) = some (u32 (a * 2 ^ n)) := by
  rw [shlW h.1, Nat.mod_eq_of_lt h.2]
instance {t : TypeId} {a b : List UInt8} : PrimC (bin P .add t (str a) (str b)) (a.length + b.length ≤ 9223372036854775807) (str (a ++ b)) := ⟨add_str⟩
end Go.AM
set_option linter.unusedVariables false
set_option linter.unusedSimpArgs false
namespace Go.AM
def le4 (d : Nat) : List Nat := [d % 256, d / 2 ^ 8 % 256, d / 2 ^ 16 % 256, d / 2 ^ 24 % 256]
def byN (xs : List Nat) : List Nat := xs.flatMap le4
def hdN (neg : Bool) (c : Nat) : Nat := 2 * c + (if neg then 1 else 0)
def enc (neg : Bool) (xs : List Nat) : List UInt8 := [UInt8.ofNat (hdN neg xs.length / 256 % 256), UInt8.ofNat (hdN neg xs.length % 256)] ++ (byN xs).map fun n => UInt8.ofNat n
def word4 (a b c d : UInt8) : Nat := a.toNat + b.toNat * 2 ^ 8 + c.toNat * 2 ^ 16 + d.toNat * 2 ^ 24
def words : Nat → List UInt8 → List Nat
  | 0, _ => []
  | n + 1, a :: b :: c :: d :: l => word4 a b c d :: words n l
  | _, _ => []
def hdOf (l : List UInt8) : Nat := (l.getD 0 0).toNat * 256 + (l.getD 1 0).toNat
def dec (l : List UInt8) : Option (Bool × List Nat × List UInt8) :=
  if l.length < 2 then none
  else if 400 < hdOf l / 2 ∨ l.length - 2 < 4 * (hdOf l / 2) then none
  else if rightI (decide (hdOf l % 2 ≠ 0)) (words (hdOf l / 2) (l.drop 2)) = true then some (decide (hdOf l % 2 ≠ 0), words (hdOf l / 2) (l.drop 2), l.drop (2 + 4 * (hdOf l / 2)))
  else none
theorem byN_length (xs : List Nat) : (byN xs).length = 4 * xs.length := by
  induction xs with
  | nil => rfl
  | cons x xs ih =>
    show ([_, _, _, _] ++ byN xs).length = _
    simp only [List.length_append, ih, List.length_cons, List.length_nil]
    omega
theorem enc_length (neg : Bool) (xs : List Nat) : (enc neg xs).length = 2 + 4 * xs.length := by
  unfold enc
  rw [List.length_append, List.length_map, byN_length]
  show 2 + _ = _
  omega
theorem ofNat_toNat8 (n : Nat) : (UInt8.ofNat n).toNat = n % 256 := by simp
theorem word4_of {d : Nat} (h : d < 4294967296) : word4 (UInt8.ofNat (d % 256)) (UInt8.ofNat (d / 2 ^ 8 % 256)) (UInt8.ofNat (d / 2 ^ 16 % 256)) (UInt8.ofNat (d / 2 ^ 24 % 256)) = d := by
  unfold word4
  simp only [ofNat_toNat8]
  omega
theorem of_word4 (a b c d : UInt8) : (le4 (word4 a b c d)).map (fun n => UInt8.ofNat n) = [a, b, c, d] := by
  have ha := UInt8.toNat_lt a
  have hb := UInt8.toNat_lt b
  have hc := UInt8.toNat_lt c
  have hd := UInt8.toNat_lt d
  have e : le4 (word4 a b c d) = [a.toNat, b.toNat, c.toNat, d.toNat] := by
    unfold le4 word4
    congr 1
    · omega
    congr 1
    · omega
    congr 1
    · omega
    congr 1
    omega
  rw [e]
  simp
theorem word4_lt (a b c d : UInt8) : word4 a b c d < 4294967296 := by
  have ha := UInt8.toNat_lt a
  have hb := UInt8.toNat_lt b
  have hc := UInt8.toNat_lt c
  have hd := UInt8.toNat_lt d
  unfold word4
  omega
theorem words_of {xs : List Nat} (h : small xs) (r : List UInt8) : words xs.length ((byN xs).map (fun n => UInt8.ofNat n) ++ r) = xs := by
  induction xs with
  | nil => rfl
  | cons x xs ih =>
    show word4 _ _ _ _ :: words xs.length ((byN xs).map (fun n => UInt8.ofNat n) ++ r) = _
    rw [ih h.tail, word4_of h.head]
theorem of_words : ∀ (c : Nat) (l : List UInt8), 4 * c ≤ l.length → (byN (words c l)).map (fun n => UInt8.ofNat n) = l.take (4 * c) ∧ (words c l).length = c ∧ small (words c l) := by
  intro c
  induction c with
  | zero => intro l h; exact ⟨rfl, rfl, fun x hx => absurd hx List.not_mem_nil⟩
  | succ c ih =>
    intro l h
    match l, h with
    | a :: b :: d :: e :: l, h =>
      obtain ⟨h1, h2, h3⟩ := ih l (by simp at h; omega)
      refine ⟨?_, ?_, ?_⟩
      · show (le4 (word4 a b d e) ++ byN (words c l)).map (fun n => UInt8.ofNat n) = _
        rw [List.map_append, of_word4, h1, show 4 * (c + 1) = 4 * c + 1 + 1 + 1 + 1 by omega]
        rfl
      · show (words c l).length + 1 = _
        rw [h2]
      · intro x hx
        rcases List.mem_cons.mp hx with rfl | hx
        · exact word4_lt ..
        · exact h3 x hx
    | [], h => simp at h
    | [_], h => simp at h; omega
    | [_, _], h => simp at h; omega
    | [_, _, _], h => simp at h; omega
theorem words_snoc : ∀ (c : Nat) (l : List UInt8), 4 * (c + 1) ≤ l.length → words (c + 1) l = words c l ++ [word4 (l.getD (4 * c) 0) (l.getD (4 * c + 1) 0) (l.getD (4 * c + 2) 0) (l.getD (4 * c + 3) 0)] := by
  intro c
  induction c with
  | zero =>
    intro l h
    match l, h with
    | a :: b :: d :: e :: l, h => rfl
    | [], h => simp at h
    | [_], h => simp at h
    | [_, _], h => simp at h
    | [_, _, _], h => simp at h
  | succ c ih =>
    intro l h
    match l, h with
    | a :: b :: d :: e :: l, h =>
      show word4 a b d e :: words (c + 1) l = word4 a b d e :: words c l ++ _
      rw [ih l (by simp at h; omega)]
      have e1 : ∀ i, (a :: b :: d :: e :: l).getD (4 * (c + 1) + i) 0 = l.getD (4 * c + i) 0 := by
        intro i
        rw [show 4 * (c + 1) + i = 4 * c + i + 1 + 1 + 1 + 1 by omega]
        simp
      have e0 := e1 0
      rw [Nat.add_zero, Nat.add_zero] at e0
      rw [e0, e1 1, e1 2, e1 3]
      rfl
    | [], h => simp at h
    | [_], h => simp at h; omega
    | [_, _], h => simp at h; omega
    | [_, _, _], h => simp at h; omega
theorem hdOf_enc {neg : Bool} {xs : List Nat} {r : List UInt8} (h : xs.length ≤ 400) : hdOf (enc neg xs ++ r) = hdN neg xs.length ∧ hdN neg xs.length / 2 = xs.length ∧ decide (hdN neg xs.length % 2 ≠ 0) = neg := by
  have e : hdN neg xs.length / 2 = xs.length ∧ decide (hdN neg xs.length % 2 ≠ 0) = neg := by
    unfold hdN
    cases neg with
    | true => exact ⟨by simp only [if_true]; omega, decide_eq_true (by simp only [if_true]; omega)⟩
    | false => exact ⟨by simp, decide_eq_false (by simp)⟩
  refine ⟨?_, e⟩
  have h2 : hdN neg xs.length < 1000 := by unfold hdN; split <;> omega
  unfold hdOf enc
  show (UInt8.ofNat _).toNat * 256 + (UInt8.ofNat _).toNat = _
  rw [ofNat_toNat8, ofNat_toNat8]
  omega
theorem drop2_enc (neg : Bool) (xs : List Nat) (r : List UInt8) : (enc neg xs ++ r).drop 2 = (byN xs).map (fun n => UInt8.ofNat n) ++ r := rfl
theorem dec_of {neg : Bool} {xs : List Nat} {r : List UInt8} (hr : rightI neg xs = true) (hl : xs.length ≤ 400) (hs : small xs) : dec (enc neg xs ++ r) = some (neg, xs, r) := by
  obtain ⟨e1, e2, e3⟩ := hdOf_enc (neg := neg) (r := r) hl
  have hlen : (enc neg xs ++ r).length = 2 + 4 * xs.length + r.length := by rw [List.length_append, enc_length]
  unfold dec
  rw [if_neg (by omega), e1, e2, e3, if_neg (by omega), drop2_enc, words_of hs, if_pos hr]
  congr 3
  have : (enc neg xs).length = 2 + 4 * xs.length := enc_length ..
  rw [← this, List.drop_left]
theorem enc_words {a b : UInt8} {l : List UInt8} (h : 4 * (hdOf (a :: b :: l) / 2) ≤ l.length) : a :: b :: l = enc (decide (hdOf (a :: b :: l) % 2 ≠ 0)) (words (hdOf (a :: b :: l) / 2) l) ++ l.drop (4 * (hdOf (a :: b :: l) / 2)) := by
  have hla := UInt8.toNat_lt a
  have hlb := UInt8.toNat_lt b
  have e : hdOf (a :: b :: l) = a.toNat * 256 + b.toNat := rfl
  obtain ⟨w1, w2, w3⟩ := of_words (hdOf (a :: b :: l) / 2) l h
  have e2 : hdN (decide (hdOf (a :: b :: l) % 2 ≠ 0)) (words (hdOf (a :: b :: l) / 2) l).length = a.toNat * 256 + b.toNat := by
    rw [w2, ← e]
    unfold hdN
    generalize hdOf (a :: b :: l) = n
    by_cases hn : n % 2 ≠ 0
    · rw [decide_eq_true hn]; simp only [if_true]; omega
    · rw [decide_eq_false hn]; simp; omega
  have f1 : (a.toNat * 256 + b.toNat) / 256 % 256 = a.toNat := by omega
  have f2 : (a.toNat * 256 + b.toNat) % 256 = b.toNat := by omega
  unfold enc
  rw [e2, w1, f1, f2, UInt8.ofNat_toNat, UInt8.ofNat_toNat, List.append_assoc, List.take_append_drop]
  rfl
theorem of_dec {l : List UInt8} {neg : Bool} {xs : List Nat} {r : List UInt8} (h : dec l = some (neg, xs, r)) : l = enc neg xs ++ r ∧ rightI neg xs = true ∧ xs.length ≤ 400 ∧ small xs := by
  unfold dec at h
  split at h
  · cases h
  rename_i h1
  split at h
  · cases h
  rename_i h2
  split at h
  · rename_i h3
    injection h with h
    injection h with ha h
    injection h with hb hc
    obtain ⟨w1, w2, w3⟩ := of_words (hdOf l / 2) (l.drop 2) (by rw [List.length_drop]; omega)
    rw [← ha, ← hb, ← hc]
    refine ⟨?_, h3, by omega, w3⟩
    clear h3 ha hb hc w1 w2 w3
    have key : ∀ l : List UInt8, ¬ l.length < 2 → ¬ (400 < hdOf l / 2 ∨ l.length - 2 < 4 * (hdOf l / 2)) → l = enc (decide (hdOf l % 2 ≠ 0)) (words (hdOf l / 2) (l.drop 2)) ++ l.drop (2 + 4 * (hdOf l / 2)) := by
      intro l h1 h2
      cases l with
      | nil => exact absurd (Nat.zero_lt_succ 1) h1
      | cons a l =>
        cases l with
        | nil => exact absurd (Nat.lt_succ_self 1) h1
        | cons b l =>
          have h3 : 4 * (hdOf (a :: b :: l) / 2) ≤ l.length := by
            have : (a :: b :: l).length = l.length + 2 := rfl
            rw [this] at h2
            generalize hdOf (a :: b :: l) = n at *
            omega
          have dk : ∀ k, (a :: b :: l).drop (2 + k) = l.drop k := fun k => by rw [Nat.add_comm]; rfl
          rw [dk]
          exact enc_words h3
    exact key l h1 h2
  · cases h
end Go.AM
set_option linter.unusedVariables false
set_option linter.unusedSimpArgs false
set_option maxRecDepth 100000
namespace Go.AM.Y
open Go Go.AM Go.Proofs
attribute [local irreducible] run bin un ld st box newV mkS fldA fld ixA ix slc slc3 build buildS cv cvS ap cpy lenV gOp pickV b2 aIf aChk evalK resume iterD Option.bind

theorem byN_snoc {xs : List Nat} {i : Nat} (h : i < xs.length) : byN (xs.take (i + 1)) = byN (xs.take i) ++ le4 (xs.getD i 0) := by
  have e : xs.take (i + 1) = xs.take i ++ [xs.getD i 0] := by
    rw [List.take_add_one, List.getD_eq_getElem?_getD, List.getElem?_eq_getElem h]; rfl
  rw [e]
  unfold byN
  rw [List.flatMap_append]
  simp
theorem spl_room {pre d : List Nat} {k : Nat} (hd : d.length = 4) : spl ((pre ++ List.replicate (k + 4) 0).map u8) pre.length (d.map u8) = ((pre ++ d) ++ List.replicate k 0).map u8 := by
  unfold spl
  have e1 : (List.map u8 (pre ++ List.replicate (k + 4) 0)).take pre.length = pre.map u8 := by
    rw [← List.map_take, List.take_left]
  have e2 : (List.map u8 (pre ++ List.replicate (k + 4) 0)).drop (pre.length + (d.map u8).length) = (List.replicate k 0).map u8 := by
    rw [← List.map_drop, List.length_map, hd, List.drop_append, List.drop_replicate]
    simp
  rw [e1, e2]
  simp
theorem bytes_loop {H0 B0 B : AH} {xs : List Nat} {a : Value} {bo n : Nat} (ha : RdN B a xs) (hn : n = xs.length) (hl : xs.length ≤ 100000) :
    ∀ (m i : Nat) (H : AH), i + m = n → St H0 B0 B [(bo, ⟨(byN (xs.take i) ++ List.replicate (4 * m) 0).map u8, 5, .fix⟩)] H →
    Ev (fun k l => f123_L0 k (sl bo 0 (4 * i) (4 * n)) a (i64 n) (i64 i) l H) (fun o => ∃ H', o = (.exit 0, f123_X_L0 (sl bo 0 (4 * n) (4 * n)), H') ∧ St H0 B0 B [(bo, ⟨(byN xs ++ []).map u8, 5, .fix⟩)] H') := by
  intro m
  induction m with
  | zero =>
    intro i H hi hS
    refine Ev.succ (fun k l => f123_L0_succ k _ _ _ _ l H) ?_
    repeat (first | refine Ev.s ?_ | refine Ev.newC fun _ _ _ => ?_ | refine Ev.boxC fun _ _ _ => ?_ | refine Ev.stC fun _ _ => ?_ | refine Ev.sc (by omega) ?_ | refine Ev.scg (by omega) ?_)
    rw [decide_eq_false (by omega)]
    repeat (first | refine Ev.s ?_ | refine Ev.newC fun _ _ _ => ?_ | refine Ev.boxC fun _ _ _ => ?_ | refine Ev.stC fun _ _ => ?_ | refine Ev.sc (by omega) ?_ | refine Ev.scg (by omega) ?_)
    have e : i = n := by omega
    subst e
    rw [List.take_of_length_le (by omega)] at hS
    exact Ev.ret ⟨H, rfl, hS⟩
  | succ m ih =>
    intro i H hi hS
    refine Ev.succ (fun k l => f123_L0_succ k _ _ _ _ l H) ?_
    have hpl : (byN (xs.take i)).length = 4 * i := by rw [byN_length, List.length_take]; omega
    repeat (first | refine Ev.s ?_ | refine Ev.newC fun _ _ _ => ?_ | refine Ev.boxC fun _ _ _ => ?_ | refine Ev.stC fun _ _ => ?_ | refine Ev.sc (by omega) ?_ | refine Ev.scg (by omega) ?_)
    rw [decide_eq_true (by omega)]
    repeat (first | refine Ev.s ?_ | refine Ev.newC fun _ _ _ => ?_ | refine Ev.boxC fun _ _ _ => ?_ | refine Ev.stC fun _ _ => ?_ | refine Ev.sc (by omega) ?_ | refine Ev.scg (by omega) ?_)
    refine Ev.ixC i rfl (by omega) fun p hp => ?_
    repeat (first | refine Ev.s ?_ | refine Ev.newC fun _ _ _ => ?_ | refine Ev.boxC fun _ _ _ => ?_ | refine Ev.stC fun _ _ => ?_ | refine Ev.sc (by omega) ?_ | refine Ev.scg (by omega) ?_)
    refine Ev.prim (shrL (by decide)) ?_
    repeat (first | refine Ev.s ?_ | refine Ev.newC fun _ _ _ => ?_ | refine Ev.boxC fun _ _ _ => ?_ | refine Ev.stC fun _ _ => ?_ | refine Ev.sc (by omega) ?_ | refine Ev.scg (by omega) ?_)
    refine Ev.prim (shrL (by decide)) ?_
    repeat (first | refine Ev.s ?_ | refine Ev.newC fun _ _ _ => ?_ | refine Ev.boxC fun _ _ _ => ?_ | refine Ev.stC fun _ _ => ?_ | refine Ev.sc (by omega) ?_ | refine Ev.scg (by omega) ?_)
    refine Ev.prim (shrL (by decide)) ?_
    repeat (first | refine Ev.s ?_ | refine Ev.newC fun _ _ _ => ?_ | refine Ev.boxC fun _ _ _ => ?_ | refine Ev.stC fun _ _ => ?_ | refine Ev.sc (by omega) ?_ | refine Ev.scg (by omega) ?_)
    refine Ev.bsC (by decide) fun bw H1 hS1 => ?_
    have hx : Sc H1 (sl bw 0 4 4) ((le4 (xs.getD i 0)).map u8) := hS1.sc (.head _) (Nat.le_refl 4)
    have hsp := spl_room (pre := byN (xs.take i)) (d := le4 (xs.getD i 0)) (k := 4 * m) rfl
    rw [show 4 * m + 4 = 4 * (m + 1) by omega, hpl] at hsp
    have hlen : ((byN (xs.take i) ++ List.replicate (4 * (m + 1)) 0).map u8).length = 4 * i + 4 * (m + 1) := by rw [List.length_map, List.length_append, hpl, List.length_replicate]
    have hl4 : ((le4 (xs.getD i 0)).map u8).length = 4 := rfl
    have hEb : Elt Try.prog 126 5 (.int .u8 0) 1 := inferInstance
    refine Ev.apRoom (b := bo) (cap := 4 * n) (n := 4 * i) (cs := (byN (xs.take i) ++ List.replicate (4 * (m + 1)) 0).map u8) (ds := (le4 (xs.getD i 0)).map u8) hEb hEb.U hS1 (.tail _ (.head _)) hx rfl (by intro h; cases h) (by rw [hl4]; omega) (by rw [hl4, hlen]; omega) ⟨by rw [hl4]; omega, by rw [hl4]; omega⟩ (.tail _ (.head _)) fun H2 hS2 => ?_
    rw [hsp, ← byN_snoc (by omega)] at hS2
    rw [hl4, show 4 * i + 4 = 4 * (i + 1) by omega]
    have hS3 := hS2.drop1
    clear hS2
    repeat (first | refine Ev.s ?_ | refine Ev.newC fun _ _ _ => ?_ | refine Ev.boxC fun _ _ _ => ?_ | refine Ev.stC fun _ _ => ?_ | refine Ev.sc (by omega) ?_ | refine Ev.scg (by omega) ?_)
    exact ih (i + 1) H2 (by omega) hS3
theorem bytes_spec {B H : AH} {xs : List Nat} {a : Value} (hl : xs.length ≤ 100000) [ha : RdT B a xs] (hL : Le B H) :
    Ev (fun k _ => rn k 123 [a] H) (An B H fun _ v => v = str ((byN xs).map fun n => UInt8.ofNat n)) := by
  refine Ev.fn (fun k => f123_eq k _ H) ?_
  have hS := St.start hL
  have ha := ha.rd
  repeat (first | refine Ev.s ?_ | refine Ev.newC fun _ _ _ => ?_ | refine Ev.boxC fun _ _ _ => ?_ | refine Ev.stC fun _ _ => ?_ | refine Ev.sc (by omega) ?_ | refine Ev.scg (by omega) ?_)
  refine Ev.mkCap (z := .int .u8 0) (sz := 1) inferInstance hS (by omega) (by omega) fun bo B1 H1 hm1 hS1 => ?_
  have ha1 := ha.mono hm1
  have e0 : List.replicate (4 * xs.length) (Value.int .u8 0) = (byN (xs.take 0) ++ List.replicate (4 * xs.length) 0).map u8 := by
    show _ = (List.replicate _ 0).map u8
    rw [List.map_replicate]; rfl
  rw [e0] at hS1
  repeat (first | refine Ev.s ?_ | refine Ev.newC fun _ _ _ => ?_ | refine Ev.boxC fun _ _ _ => ?_ | refine Ev.stC fun _ _ => ?_ | refine Ev.sc (by omega) ?_ | refine Ev.scg (by omega) ?_)
  refine Ev.bind (Ev.loop (bytes_loop ha1 rfl hl xs.length 0 H1 (by omega) hS1)) ?_
  rintro _ ⟨H2, rfl, hS2⟩
  refine Ev.eq (fun k _ => f123_A0_x0 k _ _) ?_
  refine Ev.prim (cvS_own (ds := byN xs) (rest := []) hS2 (.head _) (byN_length xs).symm) ?_
  exact Ev.doneC rfl
end Go.AM.Y
set_option linter.unusedVariables false
set_option linter.unusedSimpArgs false
set_option maxRecDepth 100000
namespace Go.AM.Y
open Go Go.AM Go.Proofs
attribute [local irreducible] run bin un ld st box newV mkS fldA fld ixA ix slc slc3 build buildS cv cvS ap cpy lenV gOp pickV b2 aIf aChk evalK resume iterD Option.bind

theorem zBytes_spec {B H : AH} {xs : List Nat} {m : Value} {neg : Bool} (hr : rightI neg xs = true) (hl : xs.length ≤ 400) [ha : RdT B m xs] (hL : Le B H) :
    Ev (fun k _ => rn k 83 [.agg #[.bool neg, m]] H) (An B H fun _ v => v = .tuple #[str (enc neg xs), .int .i64 0]) := by
  refine Ev.fn (fun k => f83_eq k _ H) ?_
  have hS := St.start hL
  have ha := ha.rd
  have fin : ∀ (b1 n : Nat) (B1 H1 : AH), n = hdN neg xs.length → St H B B1 [(b1, ⟨[.bool neg, m], 24, .fix⟩)] H1 → RdN B1 m xs →
      Ev (fun k _ => f83_J0 k (ptr b1 0) (i64 n) H1) (An B H fun _ v => v = .tuple #[str (enc neg xs), .int .i64 0]) := by
    intro b1 n B1 H1 hn hS1 hm
    refine Ev.eq (fun k _ => f83_J0_eq k _ _ _) ?_
    have hn2 : n < 1000 := by rw [hn]; unfold hdN; split <;> omega
    refine Ev.prim (shrL (by decide)) ?_
    repeat (first | refine Ev.s ?_ | refine Ev.newC fun _ _ _ => ?_ | refine Ev.boxC fun _ _ _ => ?_ | refine Ev.stC fun _ _ => ?_ | refine Ev.sc (by omega) ?_ | refine Ev.scg (by omega) ?_)
    refine Ev.bsL (by decide) fun H2 hS2 => ?_
    refine Ev.prim (cvS_own (ds := [n / 2 ^ 8 % 256, n % 256]) (rest := []) hS2 (.head _) rfl) ?_
    repeat (first | refine Ev.s ?_ | refine Ev.newC fun _ _ _ => ?_ | refine Ev.boxC fun _ _ _ => ?_ | refine Ev.stC fun _ _ => ?_ | refine Ev.sc (by omega) ?_ | refine Ev.scg (by omega) ?_)
    refine Ev.callD (bytes_spec (xs := xs) (by omega)) fun v3 B3 H3 hm3 hS3 h3 => ?_
    subst h3
    refine Ev.chk (cvS_own (ds := [n / 2 ^ 8 % 256, n % 256]) (rest := []) hS3 (.head _) rfl) ?_
    refine Ev.chk ((hS3.get (.head _)).trans (hS2.get (.head _)).symm) ?_
    refine Ev.prim (add_str (by rw [List.length_map, List.length_map, byN_length]; show 2 + _ ≤ _; omega)) ?_
    refine Ev.doneC ?_
    rw [hn]
    rfl
  repeat (first | refine Ev.s ?_ | refine Ev.newC fun _ _ _ => ?_ | refine Ev.boxC fun _ _ _ => ?_ | refine Ev.stC fun _ _ => ?_ | refine Ev.sc (by omega) ?_ | refine Ev.scg (by omega) ?_)
  refine Ev.callD (Right_spec (xs := xs) (by omega) (by assumption)) fun v1 B1 H1 hm1 hS1 e1 => ?_
  subst e1
  have hm := ha.mono hm1.mo
  rw [hr]
  repeat (first | refine Ev.s ?_ | refine Ev.newC fun _ _ _ => ?_ | refine Ev.boxC fun _ _ _ => ?_ | refine Ev.stC fun _ _ => ?_ | refine Ev.sc (by omega) ?_ | refine Ev.scg (by omega) ?_)
  rw [decide_eq_false (by omega)]
  repeat (first | refine Ev.s ?_ | refine Ev.newC fun _ _ _ => ?_ | refine Ev.boxC fun _ _ _ => ?_ | refine Ev.stC fun _ _ => ?_ | refine Ev.sc (by omega) ?_ | refine Ev.scg (by omega) ?_)
  cases hneg : neg with
  | true =>
    rw [hneg] at hS1 fin
    repeat (first | refine Ev.s ?_ | refine Ev.newC fun _ _ _ => ?_ | refine Ev.boxC fun _ _ _ => ?_ | refine Ev.stC fun _ _ => ?_ | refine Ev.sc (by omega) ?_ | refine Ev.scg (by omega) ?_)
    exact fin _ _ B1 H1 (by unfold hdN; simp) hS1 hm
  | false =>
    rw [hneg] at hS1 fin
    repeat (first | refine Ev.s ?_ | refine Ev.newC fun _ _ _ => ?_ | refine Ev.boxC fun _ _ _ => ?_ | refine Ev.stC fun _ _ => ?_ | refine Ev.sc (by omega) ?_ | refine Ev.scg (by omega) ?_)
    exact fin _ _ B1 H1 (by unfold hdN; simp) hS1 hm
def TakeV (B : AH) (v : Value) (o : Option (Bool × List Nat × List UInt8)) : Prop :=
  match o with
  | none => v = .tuple #[.agg #[.bool false, .slice none 0 0], str [], .int .i64 2]
  | some (neg, xs, r) => ∃ m, v = .tuple #[.agg #[.bool neg, m], str r, .int .i64 0] ∧ RdN B m xs
theorem word_or (a b c d : UInt8) : (((a.toNat ||| b.toNat * 2 ^ 8) ||| c.toNat * 2 ^ 16) ||| d.toNat * 2 ^ 24) = word4 a b c d := by
  have ha := UInt8.toNat_lt a
  have hb := UInt8.toNat_lt b
  have hc := UInt8.toNat_lt c
  unfold word4
  rw [or_add (i := 8) (by omega), or_add (i := 16) (by omega), or_add (i := 24) (by omega)]
theorem ztake_loop {H0 B0 : AH} {l : List UInt8} {b1 c : Nat} {neg : Bool} (hc : c ≤ 400) (hl : 2 + 4 * c ≤ l.length) :
    ∀ (m i : Nat) (v : Value) (B H : AH), i + m = c → Acc 67 H0 B0 B [(b1, ⟨[.bool neg, v], 24, .fix⟩)] H v (words i (l.drop 2)) →
    Ev (fun k n => f84_L0 k (str l) (ptr b1 0) (i64 c) (i64 c) (i64 i) n H)
      (fun o => ∃ v B' H', o = (.exit 0, f84_X_L0 (str l) (ptr b1 0) (i64 c), H') ∧ Mo B B' ∧ Acc 67 H0 B0 B' [(b1, ⟨[.bool neg, v], 24, .fix⟩)] H' v (words c (l.drop 2))) := by
  intro m
  induction m with
  | zero =>
    intro i v B H hi hA
    refine Ev.succ (fun k n => f84_L0_succ k _ _ _ _ _ n H) ?_
    repeat (first | refine Ev.s ?_ | refine Ev.newC fun _ _ _ => ?_ | refine Ev.boxC fun _ _ _ => ?_ | refine Ev.stC fun _ _ => ?_ | refine Ev.sc (by omega) ?_ | refine Ev.scg (by omega) ?_)
    rw [decide_eq_false (by omega)]
    repeat (first | refine Ev.s ?_ | refine Ev.newC fun _ _ _ => ?_ | refine Ev.boxC fun _ _ _ => ?_ | refine Ev.stC fun _ _ => ?_ | refine Ev.sc (by omega) ?_ | refine Ev.scg (by omega) ?_)
    have e : i = c := by omega
    subst e
    exact Ev.ret ⟨v, B, H, rfl, Mo.refl B, hA⟩
  | succ m ih =>
    intro i v B H hi hA
    refine Ev.succ (fun k n => f84_L0_succ k _ _ _ _ _ n H) ?_
    have hSt := hA.st
    have hcell := hA.cell
    have hw := words_snoc i (l.drop 2) (by rw [List.length_drop]; omega)
    have hg : ∀ j, (l.drop (2 + 4 * i)).getD j 0 = (l.drop 2).getD (4 * i + j) 0 := by
      intro j
      rw [List.getD_eq_getElem?_getD, List.getD_eq_getElem?_getD, List.getElem?_drop, List.getElem?_drop]
      congr 2; omega
    have hdl : (l.drop (2 + 4 * i)).length = l.length - (2 + 4 * i) := List.length_drop
    have g0 := hg 0
    have g1 := hg 1
    have g2 := hg 2
    have g3 := hg 3
    rw [Nat.add_zero] at g0
    rw [← g0, ← g1, ← g2, ← g3] at hw
    have b0 := UInt8.toNat_lt ((l.drop (2 + 4 * i)).getD 0 0)
    have b1' := UInt8.toNat_lt ((l.drop (2 + 4 * i)).getD 1 0)
    have b2 := UInt8.toNat_lt ((l.drop (2 + 4 * i)).getD 2 0)
    have b3 := UInt8.toNat_lt ((l.drop (2 + 4 * i)).getD 3 0)
    have hlen : (words i (l.drop 2)).length = i := (of_words i (l.drop 2) (by rw [List.length_drop]; omega)).2.1
    repeat (first | refine Ev.s ?_ | refine Ev.newC fun _ _ _ => ?_ | refine Ev.boxC fun _ _ _ => ?_ | refine Ev.stC fun _ _ => ?_ | refine Ev.sc (by omega) ?_ | refine Ev.scg (by omega) ?_)
    rw [decide_eq_true (by omega)]
    repeat (first | refine Ev.s ?_ | refine Ev.newC fun _ _ _ => ?_ | refine Ev.boxC fun _ _ _ => ?_ | refine Ev.stC fun _ _ => ?_ | refine Ev.sc (by omega) ?_ | refine Ev.scg (by omega) ?_)
    refine Ev.prim (slc_str (2 + 4 * i) (by omega) (by omega)) ?_
    generalize hL : l.drop (2 + 4 * i) = w at *
    repeat (first | refine Ev.s ?_ | refine Ev.newC fun _ _ _ => ?_ | refine Ev.boxC fun _ _ _ => ?_ | refine Ev.stC fun _ _ => ?_ | refine Ev.sc (by omega) ?_ | refine Ev.scg (by omega) ?_)
    refine Ev.prim (ix_str 0 rfl (by omega)) ?_
    generalize w.getD 0 0 = y0 at *
    repeat (first | refine Ev.s ?_ | refine Ev.newC fun _ _ _ => ?_ | refine Ev.boxC fun _ _ _ => ?_ | refine Ev.stC fun _ _ => ?_ | refine Ev.sc (by omega) ?_ | refine Ev.scg (by omega) ?_)
    rw [Nat.mod_eq_of_lt (show y0.toNat < 4294967296 by omega)]
    refine Ev.prim (ix_str 1 rfl (by omega)) ?_
    generalize w.getD 1 0 = y1 at *
    repeat (first | refine Ev.s ?_ | refine Ev.newC fun _ _ _ => ?_ | refine Ev.boxC fun _ _ _ => ?_ | refine Ev.stC fun _ _ => ?_ | refine Ev.sc (by omega) ?_ | refine Ev.scg (by omega) ?_)
    rw [Nat.mod_eq_of_lt (show y1.toNat < 4294967296 by omega)]
    refine Ev.prim (shlWL (n := 8) ⟨by decide, by omega⟩) ?_
    refine Ev.prim (orW ⟨by omega, by omega⟩) ?_
    refine Ev.prim (ix_str 2 rfl (by omega)) ?_
    generalize w.getD 2 0 = y2 at *
    repeat (first | refine Ev.s ?_ | refine Ev.newC fun _ _ _ => ?_ | refine Ev.boxC fun _ _ _ => ?_ | refine Ev.stC fun _ _ => ?_ | refine Ev.sc (by omega) ?_ | refine Ev.scg (by omega) ?_)
    rw [Nat.mod_eq_of_lt (show y2.toNat < 4294967296 by omega)]
    refine Ev.prim (shlWL (n := 16) ⟨by decide, by omega⟩) ?_
    have o1 : (y0.toNat ||| y1.toNat * 2 ^ 8) < 2 ^ 16 := Nat.or_lt_two_pow (by omega) (by omega)
    have o2 : ((y0.toNat ||| y1.toNat * 2 ^ 8) ||| y2.toNat * 2 ^ 16) < 2 ^ 24 := Nat.or_lt_two_pow (by omega) (by omega)
    refine Ev.prim (orW ⟨by omega, by omega⟩) ?_
    refine Ev.prim (ix_str 3 rfl (by omega)) ?_
    generalize w.getD 3 0 = y3 at *
    repeat (first | refine Ev.s ?_ | refine Ev.newC fun _ _ _ => ?_ | refine Ev.boxC fun _ _ _ => ?_ | refine Ev.stC fun _ _ => ?_ | refine Ev.sc (by omega) ?_ | refine Ev.scg (by omega) ?_)
    rw [Nat.mod_eq_of_lt (show y3.toNat < 4294967296 by omega)]
    refine Ev.prim (shlWL (n := 24) ⟨by decide, by omega⟩) ?_
    refine Ev.prim (orW ⟨by omega, by omega⟩) ?_
    rw [word_or]
    refine hA.push (by rw [hlen]; omega) fun v' B' H' hm hA' => ?_
    rw [← hw] at hA'
    have hcell' := hA'.cell
    refine Ev.s ?_
    refine Acc.stC (P := Try.prog) (t := 22) (b := b1) (off := 1) (w := v') hA' fun H2 hA2 => ?_
    clear hA' hSt hA
    repeat (first | refine Ev.s ?_ | refine Ev.newC fun _ _ _ => ?_ | refine Ev.boxC fun _ _ _ => ?_ | refine Ev.stC fun _ _ => ?_ | refine Ev.sc (by omega) ?_ | refine Ev.scg (by omega) ?_)
    refine (ih (i + 1) v' B' H2 (by omega) hA2).mono ?_
    rintro o ⟨v2, B2, H3, q1, q2, q3⟩
    exact ⟨v2, B2, H3, q1, hm.mo.trans q2, q3⟩
end Go.AM.Y
set_option linter.unusedVariables false
set_option linter.unusedSimpArgs false
set_option maxRecDepth 100000
namespace Go.AM.Y
open Go Go.AM Go.Proofs
attribute [local irreducible] run bin un ld st box newV mkS fldA fld ixA ix slc slc3 build buildS cv cvS ap cpy lenV gOp pickV b2 aIf aChk evalK resume iterD Option.bind

theorem zTake_spec {B H : AH} {l : List UInt8} (hl : l.length < 4611686018427387904) (hL : Le B H) :
    Ev (fun k _ => rn k 84 [str l] H) (An B H fun B' v => TakeV B' v (dec l)) := by
  refine Ev.fn (fun k => f84_eq k _ H) ?_
  have hS := St.start hL
  unfold dec
  repeat (first | refine Ev.s ?_ | refine Ev.newC fun _ _ _ => ?_ | refine Ev.boxC fun _ _ _ => ?_ | refine Ev.stC fun _ _ => ?_ | refine Ev.sc (by omega) ?_ | refine Ev.scg (by omega) ?_)
  by_cases h1 : l.length < 2
  · rw [decide_eq_true h1, if_pos h1]
    repeat (first | refine Ev.s ?_ | refine Ev.newC fun _ _ _ => ?_ | refine Ev.boxC fun _ _ _ => ?_ | refine Ev.stC fun _ _ => ?_ | refine Ev.sc (by omega) ?_ | refine Ev.scg (by omega) ?_)
    exact Ev.doneC rfl
  rw [decide_eq_false h1, if_neg h1]
  have b0 := UInt8.toNat_lt (l.getD 0 0)
  have b1 := UInt8.toNat_lt (l.getD 1 0)
  have hh : (l.getD 0 0).toNat * 256 ||| (l.getD 1 0).toNat = hdOf l := by
    rw [Nat.or_comm, show (l.getD 0 0).toNat * 256 = (l.getD 0 0).toNat * 2 ^ 8 from rfl, or_add (by omega)]
    unfold hdOf
    omega
  have hn : hdOf l < 65536 := by unfold hdOf; omega
  repeat (first | refine Ev.s ?_ | refine Ev.newC fun _ _ _ => ?_ | refine Ev.boxC fun _ _ _ => ?_ | refine Ev.stC fun _ _ => ?_ | refine Ev.sc (by omega) ?_ | refine Ev.scg (by omega) ?_)
  refine Ev.prim (ix_str 0 rfl (by omega)) ?_
  refine Ev.prim (toI64 (by omega) (Und.eq (P := Try.prog) (t := 5)) (Und.eq (P := Try.prog) (t := 3))) ?_
  refine Ev.prim (shl8I (by omega)) ?_
  refine Ev.prim (ix_str 1 rfl (by omega)) ?_
  refine Ev.prim (toI64 (by omega) (Und.eq (P := Try.prog) (t := 5)) (Und.eq (P := Try.prog) (t := 3))) ?_
  refine Ev.prim (orI ⟨by omega, by omega⟩) ?_
  rw [hh]
  generalize hdOf l = n at *
  refine Ev.prim (and1 (by omega)) ?_
  rw [show ((n : Int) % 2) = ((n % 2 : Nat) : Int) by omega]
  repeat (first | refine Ev.s ?_ | refine Ev.newC fun _ _ _ => ?_ | refine Ev.boxC fun _ _ _ => ?_ | refine Ev.stC fun _ _ => ?_ | refine Ev.sc (by omega) ?_ | refine Ev.scg (by omega) ?_)
  generalize decide (n % 2 ≠ 0) = neg at *
  by_cases h2 : 400 < n / 2
  · rw [decide_eq_true h2, if_pos (.inl h2)]
    repeat (first | refine Ev.s ?_ | refine Ev.newC fun _ _ _ => ?_ | refine Ev.boxC fun _ _ _ => ?_ | refine Ev.stC fun _ _ => ?_ | refine Ev.sc (by omega) ?_ | refine Ev.scg (by omega) ?_)
    exact Ev.doneC rfl
  rw [decide_eq_false h2]
  repeat (first | refine Ev.s ?_ | refine Ev.newC fun _ _ _ => ?_ | refine Ev.boxC fun _ _ _ => ?_ | refine Ev.stC fun _ _ => ?_ | refine Ev.sc (by omega) ?_ | refine Ev.scg (by omega) ?_)
  by_cases h3 : l.length - 2 < 4 * (n / 2)
  · rw [decide_eq_true h3, if_pos (.inr h3)]
    repeat (first | refine Ev.s ?_ | refine Ev.newC fun _ _ _ => ?_ | refine Ev.boxC fun _ _ _ => ?_ | refine Ev.stC fun _ _ => ?_ | refine Ev.sc (by omega) ?_ | refine Ev.scg (by omega) ?_)
    exact Ev.doneC rfl
  rw [decide_eq_false h3, if_neg (by omega)]
  repeat (first | refine Ev.s ?_ | refine Ev.newC fun _ _ _ => ?_ | refine Ev.boxC fun _ _ _ => ?_ | refine Ev.stC fun _ _ => ?_ | refine Ev.sc (by omega) ?_ | refine Ev.scg (by omega) ?_)
  obtain ⟨w1, w2, w3⟩ := of_words (n / 2) (l.drop 2) (by rw [List.length_drop]; omega)
  refine Ev.bind (Ev.loop (ztake_loop (l := l) (c := n / 2) (neg := neg) (by omega) (by omega) (n / 2) 0 _ B _ (by omega) (Acc.nil (by assumption)))) ?_
  rintro _ ⟨v, B2, H2, rfl, hm2, hA2⟩
  obtain ⟨B3, hm3, hr3, hS3⟩ := hA2.freeze w3
  refine Ev.eq (fun k _ => f84_A0_x0 k _ _ _ _) ?_
  repeat (first | refine Ev.s ?_ | refine Ev.newC fun _ _ _ => ?_ | refine Ev.boxC fun _ _ _ => ?_ | refine Ev.stC fun _ _ => ?_ | refine Ev.sc (by omega) ?_ | refine Ev.scg (by omega) ?_)
  refine Ev.callD (Right_spec (xs := words (n / 2) (l.drop 2)) (by omega) hr3) fun v4 B4 H4 hm4 hS4 e4 => ?_
  subst e4
  have hr4 := hr3.mono hm4.mo
  cases hR : rightI neg (words (n / 2) (l.drop 2)) with
  | false =>
    rw [if_neg (by decide)]
    repeat (first | refine Ev.s ?_ | refine Ev.newC fun _ _ _ => ?_ | refine Ev.boxC fun _ _ _ => ?_ | refine Ev.stC fun _ _ => ?_ | refine Ev.sc (by omega) ?_ | refine Ev.scg (by omega) ?_)
    exact Ev.doneC rfl
  | true =>
    rw [if_pos rfl]
    repeat (first | refine Ev.s ?_ | refine Ev.newC fun _ _ _ => ?_ | refine Ev.boxC fun _ _ _ => ?_ | refine Ev.stC fun _ _ => ?_ | refine Ev.sc (by omega) ?_ | refine Ev.scg (by omega) ?_)
    refine Ev.prim (slc_str (2 + 4 * (n / 2)) (by omega) (by omega)) ?_
    repeat (first | refine Ev.s ?_ | refine Ev.newC fun _ _ _ => ?_ | refine Ev.boxC fun _ _ _ => ?_ | refine Ev.stC fun _ _ => ?_ | refine Ev.sc (by omega) ?_ | refine Ev.scg (by omega) ?_)
    exact Ev.doneC ⟨v, rfl, hr4⟩
end Go.AM.Y
set_option linter.unusedVariables false
set_option linter.unusedSimpArgs false
set_option maxRecDepth 100000
namespace Go.AM.Y
open Go Go.AM Go.Proofs
attribute [local irreducible] run bin un ld st box newV mkS fldA fld ixA ix slc slc3 build buildS cv cvS ap cpy lenV gOp pickV b2 aIf aChk evalK resume iterD Option.bind

theorem rightI_canon {neg : Bool} {xs : List Nat} (h : rightI neg xs = true) (hs : small xs) : xs = limbs (val xs) ∧ decide (sg neg (val xs) < 0) = neg := by
  unfold rightI at h
  by_cases h0 : xs.length = 0
  · have : xs = [] := List.length_eq_zero_iff.mp h0
    subst this
    have h : (!neg) = true := h
    cases neg with
    | true => cases h
    | false => exact ⟨limbs_zero.symm, rfl⟩
  · rw [if_neg h0] at h
    have h := of_decide_eq_true h
    have e : xs = limbs (val xs) := by
      refine (limbs_val hs fun y hy => ?_).symm
      rw [List.getLast?_eq_getElem?] at hy
      rw [List.getD_eq_getElem?_getD, hy] at h
      exact h
    have hne := val_ne e h0
    exact ⟨e, by rw [← sg_neg, decide_eq_true hne, Bool.and_true]⟩
theorem rightI_limbs (z : Int) : rightI (decide (z < 0)) (limbs z.natAbs) = true := by
  unfold rightI
  by_cases h : (limbs z.natAbs).length = 0
  · rw [if_pos h]
    have : z.natAbs = 0 := limbs_eq_nil.mp (List.length_eq_zero_iff.mp h)
    rw [decide_eq_false (by omega)]; rfl
  · rw [if_neg h]
    refine decide_eq_true ?_
    refine limbs_getLast (n := z.natAbs) _ ?_
    rw [List.getLast?_eq_getElem?, List.getD_eq_getElem?_getD, List.getElem?_eq_getElem (by omega)]; rfl
def encI (z : Int) : List UInt8 := enc (decide (z < 0)) (limbs z.natAbs)
def encD (x : Dy) : List UInt8 := enc x.neg x.mag ++ encI x.e
structure GoodD (x : Dy) : Prop where
  right : rightD x = true
  range : inRangeD x = true
  len : x.mag.length ≤ 400
  sm : small x.mag
def okD (d : Dy) : Bool := decide (-9223372036854775808 ≤ d.e ∧ d.e < 9223372036854775808) && rightD d && inRangeD d
def decD (l : List UInt8) : Option (Dy × List UInt8) :=
  match dec l with
  | none => none
  | some (neg, xs, r) =>
    match dec r with
    | none => none
    | some (neg2, ys, r2) => if okD ⟨neg, xs, sg neg2 (val ys)⟩ = true then some (⟨neg, xs, sg neg2 (val ys)⟩, r2) else none
theorem rightD_I {x : Dy} (h : rightD x = true) : rightI x.neg x.mag = true := by
  unfold rightD at h; rw [Bool.and_eq_true] at h; exact h.1
theorem decD_of {x : Dy} {r : List UInt8} (g : GoodD x) : decD (encD x ++ r) = some (x, r) := by
  have hb := right_bounds g.right
  have hl : (limbs x.e.natAbs).length ≤ 400 := Nat.le_trans (limbs_length_le (k := 1) (by omega)) (by decide)
  have e1 : dec (encD x ++ r) = some (x.neg, x.mag, encI x.e ++ r) := by
    unfold encD; rw [List.append_assoc]
    exact dec_of (rightD_I g.right) g.len g.sm
  have e2 : dec (encI x.e ++ r) = some (decide (x.e < 0), limbs x.e.natAbs, r) := dec_of (rightI_limbs _) hl (small_limbs _)
  have e3 : (⟨x.neg, x.mag, sg (decide (x.e < 0)) (val (limbs x.e.natAbs))⟩ : Dy) = x := by rw [val_limbs, sg_int]
  have e4 : okD x = true := by
    unfold okD
    rw [g.right, g.range, decide_eq_true (by omega)]; rfl
  unfold decD
  rw [e1]
  simp only [e2, e3, e4, if_true]
theorem of_decD {l : List UInt8} {x : Dy} {r : List UInt8} (h : decD l = some (x, r)) : l = encD x ++ r ∧ GoodD x := by
  unfold decD at h
  cases h1 : dec l with
  | none => rw [h1] at h; cases h
  | some t =>
    obtain ⟨neg, xs, r1⟩ := t
    rw [h1] at h
    simp only at h
    cases h2 : dec r1 with
    | none => rw [h2] at h; cases h
    | some t2 =>
      obtain ⟨neg2, ys, r2⟩ := t2
      rw [h2] at h
      simp only at h
      obtain ⟨a1, a2, a3, a4⟩ := of_dec h1
      obtain ⟨b1, b2, b3, b4⟩ := of_dec h2
      split at h
      · rename_i h3
        injection h with h
        injection h with hx hr
        subst hr
        subst hx
        unfold okD at h3
        rw [Bool.and_eq_true, Bool.and_eq_true] at h3
        obtain ⟨c1, c2⟩ := rightI_canon b2 b4
        refine ⟨?_, ⟨h3.1.2, h3.2, a3, a4⟩⟩
        unfold encD encI
        have e : (sg neg2 (val ys)).natAbs = val ys := sg_abs
        simp only [c2, e, ← c1]
        rw [a1, b1, List.append_assoc]
      · cases h
theorem encI_len {z : Int} (h : -9223372036854775808 ≤ z ∧ z < 9223372036854775808) : (encI z).length ≤ 10 := by
  unfold encI
  rw [enc_length]
  have : (limbs z.natAbs).length ≤ 2 := limbs_length_le (by omega)
  omega
theorem encD_len {x : Dy} (g : GoodD x) : (encD x).length ≤ 1700 := by
  have hb := right_bounds g.right
  have := encI_len (z := x.e) (by omega)
  have := g.len
  unfold encD
  rw [List.length_append, enc_length]
  omega
theorem dBytes_spec {B H : AH} {x : Dy} {m : Value} (g : GoodD x) [hx : RdT B m x.mag] (hL : Le B H) :
    Ev (fun k _ => rn k 35 [.agg #[.bool x.neg, m, .int .i64 x.e]] H) (An B H fun _ v => v = .tuple #[str (encD x), .int .i64 0]) := by
  refine Ev.fn (fun k => f35_eq k _ H) ?_
  have hS := St.start hL
  have hrx := hx.rd
  have hb := right_bounds g.right
  have hlen := g.len
  repeat (first | refine Ev.s ?_ | refine Ev.newC fun _ _ _ => ?_ | refine Ev.boxC fun _ _ _ => ?_ | refine Ev.stC fun _ _ => ?_ | refine Ev.sc (by omega) ?_ | refine Ev.scg (by omega) ?_)
  refine Ev.bsE (by decide) fun bs H2 hS2 => ?_
  refine Ev.callS (right1_true (xs := x.mag) (by omega) g.right) fun v3 B3 H3 hm3 hS3 e3 => ?_
  subst e3
  have hrx := hrx.mono hm3
  repeat (first | refine Ev.s ?_ | refine Ev.newC fun _ _ _ => ?_ | refine Ev.boxC fun _ _ _ => ?_ | refine Ev.stC fun _ _ => ?_ | refine Ev.sc (by omega) ?_ | refine Ev.scg (by omega) ?_)
  refine Ev.callD (inRange_spec (d := x) (right_fit g.right (by omega)) ⟨m, rfl, hrx⟩) fun v4 B4 H4 hm4 hS4 e4 => ?_
  rw [g.range] at e4
  subst e4
  repeat (first | refine Ev.s ?_ | refine Ev.newC fun _ _ _ => ?_ | refine Ev.boxC fun _ _ _ => ?_ | refine Ev.stC fun _ _ => ?_ | refine Ev.sc (by omega) ?_ | refine Ev.scg (by omega) ?_)
  refine Ev.callP must_true ?_
  rw [decide_eq_true rfl]
  repeat (first | refine Ev.s ?_ | refine Ev.newC fun _ _ _ => ?_ | refine Ev.boxC fun _ _ _ => ?_ | refine Ev.stC fun _ _ => ?_ | refine Ev.sc (by omega) ?_ | refine Ev.scg (by omega) ?_)
  refine Ev.callD (zBytes_spec (xs := x.mag) (rightD_I g.right) g.len) fun v5 B5 H5 hm5 hS5 e5 => ?_
  subst e5
  repeat (first | refine Ev.s ?_ | refine Ev.newC fun _ _ _ => ?_ | refine Ev.boxC fun _ _ _ => ?_ | refine Ev.stC fun _ _ => ?_ | refine Ev.sc (by omega) ?_ | refine Ev.scg (by omega) ?_)
  refine Ev.callD (zFrom_spec (n := x.e) (by omega)) fun v6 B6 H6 hm6 hS6 h6 => ?_
  obtain ⟨w, rfl, hw⟩ := h6
  have hl2 : (limbs x.e.natAbs).length ≤ 400 := Nat.le_trans (limbs_length_le (k := 1) (by omega)) (by decide)
  refine Ev.callD (zBytes_spec (xs := limbs x.e.natAbs) (rightI_limbs _) hl2) fun v7 B7 H7 hm7 hS7 e7 => ?_
  subst e7
  repeat (first | refine Ev.s ?_ | refine Ev.newC fun _ _ _ => ?_ | refine Ev.boxC fun _ _ _ => ?_ | refine Ev.stC fun _ _ => ?_ | refine Ev.sc (by omega) ?_ | refine Ev.scg (by omega) ?_)
  refine Ev.prim (add_str (by rw [enc_length, enc_length]; omega)) ?_
  exact Ev.doneC rfl
def DTakeV (B : AH) (v : Value) (o : Option (Dy × List UInt8)) : Prop :=
  match o with
  | none => v = .tuple #[.agg #[.bool false, .slice none 0 0, .int .i64 0], str [], .int .i64 2]
  | some (d, r) => ∃ m, v = .tuple #[.agg #[.bool d.neg, m, .int .i64 d.e], str r, .int .i64 0] ∧ RdN B m d.mag
theorem dTake_spec {B H : AH} {l : List UInt8} (hl : l.length < 4611686018427387904) (hL : Le B H) :
    Ev (fun k _ => rn k 36 [str l] H) (An B H fun B' v => DTakeV B' v (decD l)) := by
  refine Ev.fn (fun k => f36_eq k _ H) ?_
  have hS := St.start hL
  repeat (first | refine Ev.s ?_ | refine Ev.newC fun _ _ _ => ?_ | refine Ev.boxC fun _ _ _ => ?_ | refine Ev.stC fun _ _ => ?_ | refine Ev.sc (by omega) ?_ | refine Ev.scg (by omega) ?_)
  refine Ev.callD (zTake_spec hl) fun v1 B1 H1 hm1 hS1 h1 => ?_
  cases hd : dec l with
  | none =>
    rw [hd] at h1
    have h1 : v1 = _ := h1
    subst h1
    have e : decD l = none := by unfold decD; rw [hd]
    rw [e]
    repeat (first | refine Ev.s ?_ | refine Ev.newC fun _ _ _ => ?_ | refine Ev.boxC fun _ _ _ => ?_ | refine Ev.stC fun _ _ => ?_ | refine Ev.sc (by omega) ?_ | refine Ev.scg (by omega) ?_)
    rw [show decide ((2 : Int) ≠ 0) = true from rfl]
    repeat (first | refine Ev.s ?_ | refine Ev.newC fun _ _ _ => ?_ | refine Ev.boxC fun _ _ _ => ?_ | refine Ev.stC fun _ _ => ?_ | refine Ev.sc (by omega) ?_ | refine Ev.scg (by omega) ?_)
    exact Ev.doneC (Post := fun B' v => DTakeV B' v none) rfl
  | some t =>
    obtain ⟨neg, xs, r⟩ := t
    rw [hd] at h1
    obtain ⟨m, rfl, hm⟩ := h1
    obtain ⟨a1, a2, a3, a4⟩ := of_dec hd
    have hr : r.length < 4611686018427387904 := by rw [a1, List.length_append] at hl; omega
    repeat (first | refine Ev.s ?_ | refine Ev.newC fun _ _ _ => ?_ | refine Ev.boxC fun _ _ _ => ?_ | refine Ev.stC fun _ _ => ?_ | refine Ev.sc (by omega) ?_ | refine Ev.scg (by omega) ?_)
    refine Ev.callD (zTake_spec hr) fun v2 B2 H2 hm2 hS2 h2 => ?_
    have hm' := hm.mono hm2.mo
    cases hd2 : dec r with
    | none =>
      rw [hd2] at h2
      have h2 : v2 = _ := h2
      subst h2
      have e : decD l = none := by unfold decD; simp only [hd, hd2]
      rw [e]
      repeat (first | refine Ev.s ?_ | refine Ev.newC fun _ _ _ => ?_ | refine Ev.boxC fun _ _ _ => ?_ | refine Ev.stC fun _ _ => ?_ | refine Ev.sc (by omega) ?_ | refine Ev.scg (by omega) ?_)
      refine Ev.callD (zSmall_spec (xs := []) (by simp) RdN.nil) fun v3 B3 H3 hm3 hS3 h3 => ?_
      rw [show smallI (sg false (val [])) = .tuple #[.int .i64 0, .bool true] from rfl] at h3
      subst h3
      repeat (first | refine Ev.s ?_ | refine Ev.newC fun _ _ _ => ?_ | refine Ev.boxC fun _ _ _ => ?_ | refine Ev.stC fun _ _ => ?_ | refine Ev.sc (by omega) ?_ | refine Ev.scg (by omega) ?_)
      rw [show decide ((2 : Int) ≠ 0) = true from rfl]
      repeat (first | refine Ev.s ?_ | refine Ev.newC fun _ _ _ => ?_ | refine Ev.boxC fun _ _ _ => ?_ | refine Ev.stC fun _ _ => ?_ | refine Ev.sc (by omega) ?_ | refine Ev.scg (by omega) ?_)
      exact Ev.doneC (Post := fun B' v => DTakeV B' v none) rfl
    | some t2 =>
      obtain ⟨neg2, ys, r2⟩ := t2
      rw [hd2] at h2
      obtain ⟨m2, rfl, hm2'⟩ := h2
      obtain ⟨b1, b2, b3, b4⟩ := of_dec hd2
      have e : decD l = if okD ⟨neg, xs, sg neg2 (val ys)⟩ = true then some (⟨neg, xs, sg neg2 (val ys)⟩, r2) else none := by unfold decD; simp only [hd, hd2]
      rw [e]
      clear e
      repeat (first | refine Ev.s ?_ | refine Ev.newC fun _ _ _ => ?_ | refine Ev.boxC fun _ _ _ => ?_ | refine Ev.stC fun _ _ => ?_ | refine Ev.sc (by omega) ?_ | refine Ev.scg (by omega) ?_)
      refine Ev.callD (zSmall_spec (xs := ys) (by omega) hm2') fun v3 B3 H3 hm3 hS3 h3 => ?_
      have hm3' := hm'.mono hm3.mo
      generalize sg neg2 (val ys) = z at *
      unfold smallI at h3
      unfold okD
      by_cases hz : -9223372036854775808 ≤ z ∧ z < 9223372036854775808
      · rw [if_pos hz] at h3
        subst h3
        rw [decide_eq_true hz, Bool.true_and]
        repeat (first | refine Ev.s ?_ | refine Ev.newC fun _ _ _ => ?_ | refine Ev.boxC fun _ _ _ => ?_ | refine Ev.stC fun _ _ => ?_ | refine Ev.sc (by omega) ?_ | refine Ev.scg (by omega) ?_)
        refine Ev.callD (dRight_spec (d := ⟨neg, xs, z⟩) (by simp only; omega) ⟨m, rfl, hm3'⟩) fun v4 B4 H4 hm4 hS4 h4 => ?_
        subst h4
        have hm4' := hm3'.mono hm4.mo
        cases hR : rightD ⟨neg, xs, z⟩ with
        | false =>
          rw [Bool.false_and, if_neg (by decide)]
          repeat (first | refine Ev.s ?_ | refine Ev.newC fun _ _ _ => ?_ | refine Ev.boxC fun _ _ _ => ?_ | refine Ev.stC fun _ _ => ?_ | refine Ev.sc (by omega) ?_ | refine Ev.scg (by omega) ?_)
          exact Ev.doneC (Post := fun B' v => DTakeV B' v none) rfl
        | true =>
          rw [Bool.true_and]
          repeat (first | refine Ev.s ?_ | refine Ev.newC fun _ _ _ => ?_ | refine Ev.boxC fun _ _ _ => ?_ | refine Ev.stC fun _ _ => ?_ | refine Ev.sc (by omega) ?_ | refine Ev.scg (by omega) ?_)
          refine Ev.callD (inRange_spec (d := ⟨neg, xs, z⟩) (right_fit hR (by simp only; omega)) ⟨m, rfl, hm4'⟩) fun v5 B5 H5 hm5 hS5 h5 => ?_
          subst h5
          have hm5' := hm4'.mono hm5.mo
          cases hI : inRangeD ⟨neg, xs, z⟩ with
          | false =>
            rw [if_neg (by decide)]
            repeat (first | refine Ev.s ?_ | refine Ev.newC fun _ _ _ => ?_ | refine Ev.boxC fun _ _ _ => ?_ | refine Ev.stC fun _ _ => ?_ | refine Ev.sc (by omega) ?_ | refine Ev.scg (by omega) ?_)
            exact Ev.doneC (Post := fun B' v => DTakeV B' v none) rfl
          | true =>
            rw [if_pos rfl]
            repeat (first | refine Ev.s ?_ | refine Ev.newC fun _ _ _ => ?_ | refine Ev.boxC fun _ _ _ => ?_ | refine Ev.stC fun _ _ => ?_ | refine Ev.sc (by omega) ?_ | refine Ev.scg (by omega) ?_)
            exact Ev.doneC ⟨m, rfl, hm5'⟩
      · rw [if_neg hz] at h3
        subst h3
        rw [decide_eq_false hz, Bool.false_and, Bool.false_and, if_neg (by decide)]
        repeat (first | refine Ev.s ?_ | refine Ev.newC fun _ _ _ => ?_ | refine Ev.boxC fun _ _ _ => ?_ | refine Ev.stC fun _ _ => ?_ | refine Ev.sc (by omega) ?_ | refine Ev.scg (by omega) ?_)
        exact Ev.doneC (Post := fun B' v => DTakeV B' v none) rfl
end Go.AM.Y
set_option linter.unusedVariables false
set_option linter.unusedSimpArgs false
set_option maxRecDepth 100000
namespace Go.AM.Y
open Go Go.AM Go.Proofs
attribute [local irreducible] run bin un ld st box newV mkS fldA fld ixA ix slc slc3 build buildS cv cvS ap cpy lenV gOp pickV b2 aIf aChk evalK resume iterD Option.bind

theorem good_zero : GoodD zeroDy := ⟨rfl, rfl, by decide, fun a ha => absurd ha List.not_mem_nil⟩
theorem good_C {X E : Int} (ox : Ok X E) (hn : nbits X.natAbs ≤ 792) : GoodD (canon X E) := by
  have hs : small (canon X E).mag := by
    unfold canon
    split
    · exact fun a ha => absurd ha List.not_mem_nil
    · exact small_limbs _
  refine ⟨ox.right, ox.inRange, ?_, hs⟩
  have h : (canon X E).mag.length ≤ 25 := by
    unfold canon
    split
    · exact Nat.zero_le _
    · refine limbs_length_le ?_
      obtain ⟨K, hK⟩ : ∃ K, K = 25 := ⟨_, rfl⟩
      rw [← hK]
      have h1 : X.natAbs < 2 ^ (32 * K) := Nat.lt_of_lt_of_le (lt_nbits_self _) (Nat.pow_le_pow_right (by decide) (by omega))
      rw [show (4294967296 : Nat) = 2 ^ 32 by decide, ← Nat.pow_mul]
      exact Nat.lt_of_le_of_lt (Nat.div_le_self _ _) h1
  omega
theorem right_E {B H : AH} {x : Dy} {m : Value} [hx : RdT B m x.mag] (hl : x.mag.length < 9223372036854775808) (hL : Le B H) : Ev (fun k _ => rn k 37 [.agg #[.bool x.neg, m, .int .i64 x.e]] H) (An B H fun _ v => v = .bool (rightD x)) :=
  dRight_spec hl ⟨m, rfl, hx.rd⟩ hL
theorem back_spec {B H : AH} {d : Dy} {v : Value} {rest b : List UInt8} (hl : d.mag.length < 9223372036854775808) (he : -9223372036854775808 ≤ d.e ∧ d.e < 9223372036854775808) (hlr : rest.length ≤ 140737488351232) (hlb : b.length ≤ 140737488351232)
    (hx : DyV B v d) (hL : Le B H) : Ev (fun k _ => rn k 7 [v, str rest, str b] H) (An B H fun _ v => v = .bool true) := by
  refine Ev.fn (fun k => f7_eq k _ _ _ H) ?_
  obtain ⟨m1, rfl, hr1⟩ := hx
  have hS := St.start hL
  repeat (first | refine Ev.s ?_ | refine Ev.newC fun _ _ _ => ?_ | refine Ev.boxC fun _ _ _ => ?_ | refine Ev.stC fun _ _ => ?_ | refine Ev.sc (by omega) ?_ | refine Ev.scg (by omega) ?_)
  refine Ev.callD examples_spec fun v1 B1 H1 _ hS1 h1 => ?_
  subst h1
  repeat (first | refine Ev.s ?_ | refine Ev.newC fun _ _ _ => ?_ | refine Ev.boxC fun _ _ _ => ?_ | refine Ev.stC fun _ _ => ?_ | refine Ev.sc (by omega) ?_ | refine Ev.scg (by omega) ?_)
  refine Ev.callD (tame_C (d := d) hl he) fun v2 B2 H2 _ hS2 h2 => ?_
  obtain ⟨X, nX, a, rfl, ha⟩ := h2
  have oX : Ok X (-300) := ⟨by decide, by decide, by omega⟩
  have gX := good_C oX nX
  have lX := encD_len gX
  repeat (first | refine Ev.s ?_ | refine Ev.newC fun _ _ _ => ?_ | refine Ev.boxC fun _ _ _ => ?_ | refine Ev.stC fun _ _ => ?_ | refine Ev.sc (by omega) ?_ | refine Ev.scg (by omega) ?_)
  refine Ev.callD (dBytes_spec (x := canon X (-300)) gX) fun v3 B3 H3 _ hS3 h3 => ?_
  subst h3
  repeat (first | refine Ev.s ?_ | refine Ev.newC fun _ _ _ => ?_ | refine Ev.boxC fun _ _ _ => ?_ | refine Ev.stC fun _ _ => ?_ | refine Ev.sc (by omega) ?_ | refine Ev.scg (by omega) ?_)
  refine Ev.callD (dTake_spec (l := encD (canon X (-300)) ++ rest) (by rw [List.length_append]; omega)) fun v4 B4 H4 _ hS4 h4 => ?_
  rw [decD_of gX] at h4
  obtain ⟨m4, rfl, hm4⟩ := h4
  repeat (first | refine Ev.s ?_ | refine Ev.newC fun _ _ _ => ?_ | refine Ev.boxC fun _ _ _ => ?_ | refine Ev.stC fun _ _ => ?_ | refine Ev.sc (by omega) ?_ | refine Ev.scg (by omega) ?_)
  refine Ev.callD (same_C (X := X) (Y := X) oX) fun v5 B5 H5 _ hS5 h5 => ?_
  rw [decide_eq_true rfl] at h5
  subst h5
  repeat (first | refine Ev.s ?_ | refine Ev.newC fun _ _ _ => ?_ | refine Ev.boxC fun _ _ _ => ?_ | refine Ev.stC fun _ _ => ?_ | refine Ev.sc (by omega) ?_ | refine Ev.scg (by omega) ?_)
  refine Ev.callD (dTake_spec (l := b) (by omega)) fun v6 B6 H6 _ hS6 h6 => ?_
  cases hd : decD b with
  | none =>
    rw [hd] at h6
    have h6 : v6 = _ := h6
    subst h6
    repeat (first | refine Ev.s ?_ | refine Ev.newC fun _ _ _ => ?_ | refine Ev.boxC fun _ _ _ => ?_ | refine Ev.stC fun _ _ => ?_ | refine Ev.sc (by omega) ?_ | refine Ev.scg (by omega) ?_)
    refine Ev.callD (dBytes_spec (x := zeroDy) good_zero) fun v7 B7 H7 _ hS7 h7 => ?_
    subst h7
    repeat (first | refine Ev.s ?_ | refine Ev.newC fun _ _ _ => ?_ | refine Ev.boxC fun _ _ _ => ?_ | refine Ev.stC fun _ _ => ?_ | refine Ev.sc (by omega) ?_ | refine Ev.scg (by omega) ?_)
    rw [show decide ((2 : Int) ≠ 0) = true from rfl]
    repeat (first | refine Ev.s ?_ | refine Ev.newC fun _ _ _ => ?_ | refine Ev.boxC fun _ _ _ => ?_ | refine Ev.stC fun _ _ => ?_ | refine Ev.sc (by omega) ?_ | refine Ev.scg (by omega) ?_)
    exact Ev.doneC rfl
  | some t =>
    obtain ⟨z, r⟩ := t
    rw [hd] at h6
    obtain ⟨m6, rfl, hm6⟩ := h6
    obtain ⟨eb, gz⟩ := of_decD hd
    have lz := encD_len gz
    have lr : (encD z).length + r.length ≤ 140737488351232 := by rw [eb, List.length_append] at hlb; exact hlb
    repeat (first | refine Ev.s ?_ | refine Ev.newC fun _ _ _ => ?_ | refine Ev.boxC fun _ _ _ => ?_ | refine Ev.stC fun _ _ => ?_ | refine Ev.sc (by omega) ?_ | refine Ev.scg (by omega) ?_)
    refine Ev.callD (dBytes_spec (x := z) gz) fun v7 B7 H7 _ hS7 h7 => ?_
    subst h7
    repeat (first | refine Ev.s ?_ | refine Ev.newC fun _ _ _ => ?_ | refine Ev.boxC fun _ _ _ => ?_ | refine Ev.stC fun _ _ => ?_ | refine Ev.sc (by omega) ?_ | refine Ev.scg (by omega) ?_)
    rw [decide_eq_true eb.symm]
    repeat (first | refine Ev.s ?_ | refine Ev.newC fun _ _ _ => ?_ | refine Ev.boxC fun _ _ _ => ?_ | refine Ev.stC fun _ _ => ?_ | refine Ev.sc (by omega) ?_ | refine Ev.scg (by omega) ?_)
    refine Ev.callD (right_E (x := z) (by have := gz.len; omega)) fun v8 B8 H8 _ hS8 h8 => ?_
    rw [gz.right] at h8
    subst h8
    repeat (first | refine Ev.s ?_ | refine Ev.newC fun _ _ _ => ?_ | refine Ev.boxC fun _ _ _ => ?_ | refine Ev.stC fun _ _ => ?_ | refine Ev.sc (by omega) ?_ | refine Ev.scg (by omega) ?_)
    exact Ev.doneC rfl
theorem coreDyadBack (H : AH) (vs : List Value) (x : ((Bool × List Int × Unit) × Int × Unit) × ByteArray × ByteArray × Unit) (hK : ∃ v vs', vs = v :: vs' ∧ KvS KDy H x.1 v ∧ ∃ v2 vs2, vs' = v2 :: vs2 ∧ KvC Kn.string H x.2.1 v2 ∧ ∃ v3 vs3, vs2 = v3 :: vs3 ∧ KvC Kn.string H x.2.2.1 v3 ∧ vs3 = [])
    (hG : GDy x.1 ∧ x.2.1.size ≤ maxLen ∧ x.2.2.1.size ≤ maxLen ∧ True) (hw1 : ∀ s, vs[1]? = some (.string s) → s.size ≤ 140737488351232) (hw2 : ∀ s, vs[2]? = some (.string s) → s.size ≤ 140737488351232) : Ev (fun k _ => rn k 7 vs H) (fun r => r.1 = .bool true) := by
  obtain ⟨v, _, rfl, h1, v2, _, rfl, h2, v3, _, rfl, h3, rfl⟩ := hK
  obtain ⟨g1, g2, g3, _⟩ := hG
  obtain ⟨a1, a2, a3⟩ := dy_open h1 g1
  have h2 : [v2] = [.string x.2.1] := h2
  cases h2
  have h3 : [v3] = [.string x.2.2.1] := h3
  cases h3
  have l1 := hw1 _ rfl
  have l2 := hw2 _ rfl
  rw [str_of x.2.1, str_of x.2.2.1]
  exact An.tt (back_spec a2 a3 (by rw [Array.length_toList]; exact l1) (by rw [Array.length_toList]; exact l2) a1 ⟨Mo.refl H⟩)
end Go.AM.Y
