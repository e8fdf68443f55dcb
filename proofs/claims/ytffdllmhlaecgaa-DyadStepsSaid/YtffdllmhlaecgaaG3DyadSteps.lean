/-
  Facts of the abstract evaluator and of the functions that the law reaches, part 3. Conditions: none.
-/
import Derived.ProofKit
import Derived.Deep.Slices
import Derived.DataElems
import Derived.DataReads
import Derived.ChangeArms
import Derived.ChangeSame
import Derived.Test.YtffdllmhlaecgaaG2DyadSteps
set_option linter.unusedVariables false
set_option linter.unusedSimpArgs false
set_option linter.unnecessarySimpa false
set_option exponentiation.threshold 200000
set_option maxRecDepth 100000
set_option linter.unusedVariables false
set_option linter.unusedSimpArgs false
namespace Go.AM
open Go.RowKit

section
variable {P : Program} {call : CallF} {ops : Array Oper} {tT : Nat → List Value} {tH : Nat → AH} {sk : Nat → Bool} {vl : Nat → Value} {B0 : Nat} {w0 : World} {m0 : Mp} {wI : World} {listed : Array Bool} {q : Nat} {m : Mp} {a : Act} {w : World}

theorem Tr.sv (X : Tr P call ops (befL [] ops.toList) 0 tT tH sk vl) {j : Nat} (hj : j ≤ ops.size) : (tT j).length = (tT 0).length ∧ ∀ s, s < (tT 0).length → (tT j).getD s undef = AM.sv ops vl (tT 0) (fun _ => true) j s :=
  tT_sv rfl (fun j o ho => X.step j o (Nat.zero_le _) ho) j hj
/-- What the operation looks at holds what it held in the text's own order. -/
theorem Inv.looks (hreg : regOK ops = true) (X : Tr P call ops (befL [] ops.toList) 0 tT tH sk vl) (I : Inv P ops tT tH sk vl B0 w0 m0 wI listed q m a w) {j : Nat} {o : Oper} (hr : Ready ops (fun i => listed.getD i false) j o) :
    ∀ s ∈ o.looksAt ops, s < (svL ops vl (tT 0) (fun i => listed.getD i false)).length → (svL ops vl (tT 0) (fun i => listed.getD i false)).getD s undef = (tT j).getD s undef := by
  intro s hs hlt
  rw [svL_length] at hlt
  rw [svL_getD _ hlt, hr.slots hreg hs, ((X.sv (Nat.le_of_lt (Array.getElem?_eq_some_iff.1 hr.op).1)).2 s hlt)]
theorem Inv.opv (hreg : regOK ops = true) (X : Tr P call ops (befL [] ops.toList) 0 tT tH sk vl) (I : Inv P ops tT tH sk vl B0 w0 m0 wI listed q m a w) {j : Nat} {o : Oper} (hr : Ready ops (fun i => listed.getD i false) j o) :
    (∀ x ∈ o.op.operands, AM.opv (svL ops vl (tT 0) (fun i => listed.getD i false)) x = AM.opv (tT j) x) ∧ ∀ g want, o.guard = some (g, want) → yieldV ops (svL ops vl (tT 0) (fun i => listed.getD i false)) g = yieldV ops (tT j) g := by
  have hj := Nat.le_of_lt (Array.getElem?_eq_some_iff.1 hr.op).1
  exact opv_slots (by rw [svL_length, (X.sv hj).1]) (I.looks hreg X hr)
theorem Inv.wanted (hreg : regOK ops = true) (X : Tr P call ops (befL [] ops.toList) 0 tT tH sk vl) (I : Inv P ops tT tH sk vl B0 w0 m0 wI listed q m a w) {j : Nat} {o : Oper} (hr : Ready ops (fun i => listed.getD i false) j o) :
    Region.wanted o (yielded ops a.tmps) = !sk j := by
  obtain ⟨_, hy⟩ := I.opv hreg X hr
  cases hs : sk j with
  | true =>
    obtain ⟨⟨g, want, hg, hu⟩, _⟩ := X.skip j o (Nat.zero_le _) hr.op hs
    rcases hu with ⟨b, hu, hb⟩ | ⟨vs, hu, _⟩
    · rw [wanted_of hg ((yield_rel I.slots g).1 b (by rw [hy g want hg]; exact hu))]
      simp [hb]
    · rw [wanted_of hg ((yield_rel I.slots g).2 vs (by rw [hy g want hg]; exact hu))]
      rfl
  | false =>
    rcases X.go j o (Nat.zero_le _) hr.op hs with hg | ⟨g, want, hg, hu⟩
    · unfold Region.wanted; rw [hg]; rfl
    · rw [wanted_of hg ((yield_rel I.slots g).1 want (by rw [hy g want hg]; exact hu))]
      simp
/-- What acts next is the one. -/
theorem Inv.isq (hreg : regOK ops = true) (I : Inv P ops tT tH sk vl B0 w0 m0 wI listed q m a w) {j : Nat} {o : Oper} (hr : Ready ops (fun i => listed.getD i false) j o) (hE : eE ops sk j = true) : j = q := by
  have hj : j < ops.size := (Array.getElem?_eq_some_iff.1 hr.op).1
  rcases Nat.lt_trichotomy j q with h | h | h
  · have := I.hq2 j h hE
    have h2 := hr.not
    rw [this] at h2
    cases h2
  · exact h
  · obtain ⟨h1, h2⟩ := I.hq1 (by omega)
    obtain ⟨oq, hq1, hq2, _⟩ := eE_inv h1
    obtain ⟨oj, hj1, hj2, _⟩ := eE_inv hE
    rcases regOK_pair hreg h hq1 hj1 with h3 | ⟨h3, _⟩
    · have := hr.before h3; rw [h2] at this; cases this
    · exact (h3 hq2 hj2).elim
/-- The slots that an operation looks at, under the lesser map. -/
theorem Inv.masked (hreg : regOK ops = true) (X : Tr P call ops (befL [] ops.toList) 0 tT tH sk vl) (A : Along ops tT tH m0) (I : Inv P ops tT tH sk vl B0 w0 m0 wI listed q m a w) {j : Nat} {o : Oper} (hr : Ready ops (fun i => listed.getD i false) j o) :
    ∃ T, LRel (cutM m (tH j).length) T a.tmps.toList ∧ ∀ x ∈ o.op.operands, AM.opv T x = AM.opv (tT j) x := by
  have hj : j ≤ ops.size := Nat.le_of_lt (Array.getElem?_eq_some_iff.1 hr.op).1
  refine ⟨(List.range (tT 0).length).map fun s => if s ∈ o.looksAt ops then (tT j).getD s undef else unk, ⟨?_, ?_⟩, ?_⟩
  · rw [List.length_map, List.length_range, ← I.slots.1, svL_length]
  · intro s x y hx hy
    rw [List.getElem?_map] at hx
    have hlt : s < (tT 0).length := by
      rcases Nat.lt_or_ge s (tT 0).length with h1 | h1
      · exact h1
      · rw [List.getElem?_eq_none (by simpa using h1)] at hx; cases hx
    rw [List.getElem?_range hlt, Option.map_some] at hx
    cases hx
    split
    · rename_i hs
      have h1 := I.looks hreg X hr s hs (by rw [svL_length]; exact hlt)
      have h2 : (svL ops vl (tT 0) (fun i => listed.getD i false))[s]? = some ((tT j).getD s undef) := by
        rw [← h1, List.getD_eq_getElem?_getD, List.getElem?_eq_getElem (by rw [svL_length]; exact hlt)]
        rfl
      have h3 := I.slots.2 s _ y h2 hy
      have h4 : (tT j)[s]? = some ((tT j).getD s undef) := by
        rw [List.getD_eq_getElem?_getD, List.getElem?_eq_getElem (by rw [(X.sv hj).1]; exact hlt)]
        rfl
      exact h3.cutB (A.bel j s _ hj h4)
    · exact .unk _
  · refine (opv_slots (ops := ops) (by rw [List.length_map, List.length_range, (X.sv hj).1]) fun s hs hlt => ?_).1
    rw [List.length_map, List.length_range] at hlt
    rw [List.getD_eq_getElem?_getD, List.getElem?_map, List.getElem?_range hlt, Option.map_some, Option.getD_some, if_pos hs]
theorem Inv.act (hreg : regOK ops = true) (X : Tr P call ops (befL [] ops.toList) 0 tT tH sk vl) (A : Along ops tT tH m0) (I : Inv P ops tT tH sk vl B0 w0 m0 wI listed q m a w) {o : Oper} (hr : Ready ops (fun i => listed.getD i false) q o) (hE : eE ops sk q = true)
    {m1 : Mp} {w1 : World} {v' : Value} (E : Ext (cutM m (tH q).length) (tH q) w m1 (tH (q + 1)) w1) (R1 : Rel P B0 w0 m1 (tH (q + 1)) w1) (hv : VRel m1 (vl q) v') :
    ∃ q' m2, Inv P ops tT tH sk vl B0 w0 m0 wI (listed.setIfInBounds q true) q' m2 (a.put o.dst v') w1 := by
  have hq : q < ops.size := (Array.getElem?_eq_some_iff.1 hr.op).1
  have hlt : q < listed.size := by rw [I.lsize]; exact hq
  obtain ⟨q', hq1, hq2, hq3, hq4⟩ := nextE (ops := ops) (sk := sk) (q + 1) (ops.size - (q + 1)) (by omega)
  have hlen := A.le (i := q) (j := q + 1) (by omega) (by omega)
  have hsame := X.same (q + 1) (q' - (q + 1)) (by omega) (fun e h1 h2 => hq3 e h1 (by omega))
  rw [show q + 1 + (q' - (q + 1)) = q' by omega] at hsame
  have hini : ∀ b, (tH (q + 1)).length ≤ b → b < (tH q').length → blk (tH q') b = ini tH ops.size b := by
    intro b h1 h2
    obtain ⟨j, h3, h4, h5, h6⟩ := crossing (fun i => (tH i).length) (q + 1) b h1 (q' - (q + 1)) (by rw [show q + 1 + (q' - (q + 1)) = q' by omega]; exact h2)
    rw [ini_eq A.lens (show j < ops.size by omega) h5 h6]
    have h7 := X.same (j + 1) (q' - (j + 1)) (by omega) (fun e h7 h8 => hq3 e (by omega) (by omega))
    rw [show j + 1 + (q' - (j + 1)) = q' by omega] at h7
    exact h7.2 b h6
  have hnew : ∀ b, (tH q).length ≤ b → b < (tH (q + 1)).length → m b = none := by
    intro b h1 h2
    cases hb : m b with
    | none => rfl
    | some L =>
      exfalso
      rcases I.dm b L hb with h3 | ⟨i, h3, h4, h5, h6⟩
      · have := A.le (i := 0) (j := q) (by omega) (by omega); omega
      · rcases Nat.lt_trichotomy i q with h7 | h7 | h7
        · have := A.le (i := i + 1) (j := q) (by omega) (by omega); omega
        · subst h7
          have := hr.not
          rw [h4] at this
          cases this
        · have := A.le (i := q + 1) (j := i) (by omega) (by omega); omega
  obtain ⟨V, hmono⟩ := I.vr.eff (by omega) hq2 hlen hsame hini (A.le hq2 (Nat.le_refl _)) R1 E hnew
  have hmono1 : ∀ b L, m1 b = some L → mrg m1 m (tH (q + 1)).length b = some L := by
    intro b L hb
    unfold mrg
    rw [if_pos (R1.dom b L hb).1]
    exact hb
  have split_ : ∀ b L, mrg m1 m (tH (q + 1)).length b = some L → m b = some L ∨ ((tH q).length ≤ b ∧ b < (tH (q + 1)).length ∧ (w.heap.size ≤ L.blk ∨ ∃ b0 L0 k0, m b0 = some L0 ∧ blk (tH q) b0 = some k0 ∧ b0 < (tH q).length ∧ k0.kind ≠ .ro ∧ L0.blk = L.blk)) := by
    intro b L hb
    unfold mrg at hb
    split at hb
    · rename_i h1
      rcases E.new b L hb with h2 | ⟨h2, h3 | ⟨b0, L0, k0, h3, h4, h5, h6⟩⟩
      · exact .inl (cutM_some h2).2
      · exact .inr ⟨h2, h1, .inl h3⟩
      · obtain ⟨h7, h8⟩ := cutM_some h3
        exact .inr ⟨h2, h1, .inr ⟨b0, L0, k0, h8, h4, h7, h5, h6⟩⟩
    · exact .inl hb
  -- an own block that there was
  have own0 : ∀ b L k, m b = some L → blk (tH q) b = some k → k.kind ≠ .ro → (wI.heap.size ≤ L.blk ∨ ∃ b0 L0 k0, m0 b0 = some L0 ∧ blk (tH 0) b0 = some k0 ∧ k0.kind ≠ .ro ∧ L0.blk = L.blk) := by
    intro b L k h1 h2 h3
    rcases I.new b L h1 with h4 | ⟨_, h4⟩
    · obtain ⟨k0, h5, h6⟩ := A.alive q (by omega) b k (A.dom0 b L h4) h2
      exact .inr ⟨b, L, k0, h4, h5, by rw [h6]; exact h3, rfl⟩
    · exact h4
  refine ⟨q', mrg m1 m (tH (q + 1)).length, ⟨by simp [I.lsize], I.down' hr, hq2, fun h => ⟨hq4 h, ?_⟩, fun e he hEe => ?_, ?_, by rw [AM.put_defers]; exact I.defers, V, fun b L hb => ?_, fun b L hb => hmono b L (I.mono0 b L hb), Nat.le_trans I.size E.size, fun b L hb => ?_, fun B hB hr' => ?_⟩⟩
  · rw [getD_set hlt, if_neg (by omega)]
    cases hc : listed.getD q' false with
    | false => rfl
    | true =>
      exfalso
      obtain ⟨oq', h1, h2, _⟩ := eE_inv (hq4 h)
      obtain ⟨oq, h3, h4, _⟩ := eE_inv hE
      rcases regOK_pair hreg (show q < q' by omega) h3 h1 with h5 | ⟨h5, _⟩
      · have := hr.behind h1 h5
        rw [hc] at this
        cases this
      · exact h5 h4 h2
  · rw [getD_set hlt]
    split
    · rfl
    · rename_i hne
      rcases Nat.lt_or_ge e q with h1 | h1
      · exact I.hq2 e h1 hEe
      · have := hq3 e (by omega) he
        rw [hEe] at this
        cases this
  · have e1 : (fun i => (listed.setIfInBounds q true).getD i false) = fun i => if i = q then true else listed.getD i false := by funext i; exact getD_set hlt i
    rw [e1, hr.put hreg]
    exact put_rel (I.slots.mono hmono) _ (hv.mono hmono1)
  · rcases split_ b L hb with h1 | ⟨h1, h2, _⟩
    · rcases I.dm b L h1 with h4 | ⟨i, h4, h5, h6⟩
      · exact .inl h4
      · refine .inr ⟨i, h4, ?_, h6⟩
        rw [getD_set hlt]
        split
        · rfl
        · exact h5
    · exact .inr ⟨q, hq, by rw [getD_set hlt, if_pos rfl], h1, h2⟩
  · rcases split_ b L hb with h1 | ⟨h1, h2, h3⟩
    · exact I.new b L h1
    · have := A.le (i := 0) (j := q) (by omega) (by omega)
      refine .inr ⟨by omega, ?_⟩
      rcases h3 with h3 | ⟨b0, L0, k0, h3, h4, _, h5, h6⟩
      · exact .inl (Nat.le_trans I.size h3)
      · have := own0 b0 L0 k0 h3 h4 h5
        rw [h6] at this
        exact this
  · rw [E.frame B (Nat.lt_of_lt_of_le hB I.size), I.frame B hB hr']
    intro b L k hb hk hne
    obtain ⟨h1, h2⟩ := cutM_some hb
    rcases own0 b L k h2 hk hne with h3 | ⟨b0, L0, k0, h3, h4, h5, h6⟩
    · omega
    · rw [← h6]; exact hr' b0 L0 k0 h3 h4 h5
def left (ops : Array Oper) (listed : Array Bool) : List Nat := (List.range ops.size).filter fun i => !listed.getD i false
theorem filter_less {f g : Nat → Bool} : ∀ (l : List Nat) (j : Nat), j ∈ l → f j = true → g j = false → (∀ i, g i = true → f i = true) → (l.filter g).length < (l.filter f).length
  | [], j, hj, _, _, _ => by cases hj
  | i :: l, j, hj, hf, hg, hgf => by
    have hle : (l.filter g).length ≤ (l.filter f).length := by
      clear hj
      induction l with
      | nil => simp
      | cons i l ih =>
        simp only [List.filter_cons]
        cases hgi : g i with
        | true => rw [hgf i hgi]; simp; exact ih
        | false => cases f i <;> simp <;> omega
    by_cases hij : i = j
    · subst hij
      simp only [List.filter_cons, hf, hg, if_true]
      simp
      omega
    · have hjl : j ∈ l := by cases hj with | head => exact (hij rfl).elim | tail _ h => exact h
      have := filter_less l j hjl hf hg hgf
      simp only [List.filter_cons]
      cases hgi : g i with
      | true => rw [hgf i hgi]; simp; exact this
      | false => cases f i <;> simp <;> omega
theorem Inv.any (hcall : CallOK P call) (hreg : regOK ops = true) (X : Tr P call ops (befL [] ops.toList) 0 tT tH sk vl) (A : Along ops tT tH m0) {Q : Exit → Act → World → Prop}
    (hq : ∀ (m' : Mp) (a' : Act) (w' : World), After P B0 w0 m0 (tH 0) wI (tT ops.size) (tH ops.size) m' a' w' → Q .normal a' w') :
    ∀ (fuel : Nat) (listed : Array Bool) (q : Nat) (m : Mp) (a : Act) (w : World), Inv P ops tT tH sk vl B0 w0 m0 wI listed q m a w → (left ops listed).length ≤ fuel → wpAny P .any ops Q fuel listed a w := by
  -- when nothing is ready, all is done
  have fin : ∀ (listed : Array Bool) (q : Nat) (m : Mp) (a : Act) (w : World), Inv P ops tT tH sk vl B0 w0 m0 wI listed q m a w → (∀ j, j < ops.size → listed.getD j false = true) → Q .normal a w := by
    intro listed q m a w I hall
    have hqn : q = ops.size := by
      rcases Nat.lt_or_ge q ops.size with h | h
      · have := (I.hq1 h).2
        rw [hall q h] at this
        cases this
      · have := I.hq; omega
    subst hqn
    have hN : ∀ b L, m b = some L → cutM m (tH ops.size).length b = some L := fun b L hb => cutM_of (I.vr.dom b L hb).1 hb
    have hT : svL ops vl (tT 0) (fun i => listed.getD i false) = tT ops.size := by
      obtain ⟨h1, h2⟩ := X.sv (Nat.le_refl ops.size)
      apply List.ext_getElem?
      intro s
      rcases Nat.lt_or_ge s (tT 0).length with hs | hs
      · have e1 : (svL ops vl (tT 0) (fun i => listed.getD i false))[s]? = some (AM.sv ops vl (tT 0) (fun i => listed.getD i false) ops.size s) := by
          unfold svL; rw [List.getElem?_map, List.getElem?_range hs]; rfl
        rw [e1, AM.sv_congr (D' := fun _ => true) _ (fun j hj _ => hall j hj), ← h2 s hs, List.getD_eq_getElem?_getD, List.getElem?_eq_getElem (by omega)]
        rfl
      · rw [List.getElem?_eq_none (by rw [svL_length]; exact hs), List.getElem?_eq_none (by omega)]
    refine hq (cutM m (tH ops.size).length) a w ⟨⟨fun b L hb => hN b L (I.mono0 b L hb), A.le (Nat.zero_le _) (Nat.le_refl _), I.size, fun b k' hb hk => A.alive ops.size (Nat.le_refl _) b k' hb hk, fun b L hb => I.new b L (cutM_some hb).2, I.frame⟩, I.vr.rel, ?_, I.defers⟩
    rw [← hT]
    exact I.slots.mono hN
  have ready_nil : ∀ (listed : Array Bool), Region.ready .any ops listed = [] → listed.size = ops.size → ∀ j, j < ops.size → listed.getD j false = true := by
    intro listed hnil hsz j
    induction j using Nat.strongRecOn with
    | _ j ih =>
      intro hj
      cases hl : listed.getD j false with
      | true => rfl
      | false =>
        exfalso
        have ho : ops[j]? = some ops[j] := Array.getElem?_eq_getElem hj
        have hmem : j ∈ Region.ready .any ops listed := by
          unfold Region.ready
          rw [List.mem_filter]
          refine ⟨List.mem_range.2 hj, ?_⟩
          rw [Bool.and_eq_true, ho]
          have hlt : j < listed.size := by omega
          refine ⟨by simp [Array.getD, hlt] at hl ⊢; exact hl, ?_⟩
          simp only [Option.map_some, Option.getD_some]
          refine Array.all_eq_true'.2 fun e he => ?_
          cases hb : Region.binds .any e with
          | false => rfl
          | true =>
            have hlte := regOK_edge hreg ho he hb
            simp [ih e.on hlte (by omega)]
        rw [hnil] at hmem
        cases hmem
  intro fuel
  induction fuel with
  | zero =>
    intro listed q m a w I hf
    have hall : ∀ j, j < ops.size → listed.getD j false = true := by
      intro j hj
      cases hl : listed.getD j false with
      | true => rfl
      | false =>
        exfalso
        have : j ∈ left ops listed := List.mem_filter.2 ⟨List.mem_range.2 hj, by simp [hl]⟩
        have hnil : left ops listed = [] := List.eq_nil_of_length_eq_zero (by omega)
        rw [hnil] at this
        cases this
    refine ⟨?_, fin listed q m a w I hall⟩
    cases hr : Region.ready .any ops listed with
    | nil => rfl
    | cons j rest =>
      exfalso
      obtain ⟨o, hrd⟩ := I.rdy (j := j) (by rw [hr]; simp)
      have := hrd.not
      rw [hall j (Array.getElem?_eq_some_iff.1 hrd.op).1] at this
      cases this
  | succ fuel ih =>
    intro listed q m a w I hf
    refine ⟨fun hnil => fin listed q m a w I (ready_nil listed hnil I.lsize), fun j hjr => ?_⟩
    obtain ⟨o, hr⟩ := I.rdy hjr
    have hj : j < ops.size := (Array.getElem?_eq_some_iff.1 hr.op).1
    have hlt : j < listed.size := by rw [I.lsize]; exact hj
    have hfuel : (left ops (listed.setIfInBounds j true)).length ≤ fuel := by
      have : (left ops (listed.setIfInBounds j true)).length < (left ops listed).length := by
        refine filter_less _ j (List.mem_range.2 hj) (by have := hr.not; simpa using this) (by rw [getD_set hlt]; simp) fun i hi => ?_
        rw [getD_set hlt] at hi
        split at hi
        · cases hi
        · exact hi
      omega
    have h0 : (tH 0).length ≤ (tH j).length := A.le (Nat.zero_le _) (by omega)
    unfold wpOp
    rw [hr.op]
    simp only
    rw [I.wanted hreg X hr]
    cases hs : sk j with
    | true =>
      simp only [Bool.not_true, Bool.false_eq_true, if_false]
      obtain ⟨_, h2, _⟩ := X.skip j o (Nat.zero_le _) hr.op hs
      refine ih _ q m _ w (I.mark hreg hr (by simp [eE, hs]) (fun _ _ h => h) (by rw [h2]; exact VRel.undef _) I.vr (fun b L h => .inl h) h0 (Nat.le_refl _) fun _ _ => rfl) hfuel
    | false =>
      simp only [Bool.not_false, if_true]
      refine .inl ?_
      obtain ⟨hop, _⟩ := I.opv hreg X hr
      cases hE : eE ops sk j with
      | true =>
        have hjq := I.isq hreg hr hE
        subst hjq
        obtain ⟨T, hT, hTo⟩ := I.masked hreg X A hr
        have hres := X.res hr.op hs
        rw [← aRes_congr o.op hTo] at hres
        refine res_sound hcall hres I.vr.rel hT _ _ fun m1 v' w1 E R1 hv => ?_
        obtain ⟨q', m2, I2⟩ := I.act hreg X A hr hE E R1 hv
        exact ih _ q' m2 _ w1 I2 hfuel
      | false =>
        have heff : isEff o.op = false := by simpa [eE, hr.op, hs] using hE
        cases hf' : opRead P (AM.opv (tT j)) o.op with
        | some f =>
          have hnow := I.readNow X A hr hs hf'
          have hpad : f (padH tH ops.size q) = some (vl j) := opRead_keep hf' (fun b k hk => by
            unfold padH blk
            rw [List.getElem?_append_left (blk_lt' hk)]
            exact hk) hnow
          rw [← opRead_congr o.op hop] at hf'
          obtain ⟨v', q1, q2⟩ := read_sound (I.vr.pad (A.le I.hq (Nat.le_refl _))) I.slots hf' hpad
          unfold Oper.wp
          rw [q1]
          exact ih _ q m _ w (I.mark hreg hr hE (fun _ _ h => h) q2 I.vr (fun b L h => .inl h) h0 (Nat.le_refl _) fun _ _ => rfl) hfuel
        | none =>
          have hres := X.other j o (Nat.zero_le _) hr.op hs hf'
          cases ha : isAlloc o.op with
          | false =>
            obtain ⟨_, hpure⟩ := pure_res heff hf' ha hres
            have hp2 := hpure (List.replicate (tH ops.size).length none)
            rw [← aRes_congr o.op hop] at hp2
            have hN : ∀ b L, m b = some L → cutM m (tH ops.size).length b = some L := fun b L hb => cutM_of (I.vr.dom b L hb).1 hb
            refine res_sound hcall hp2 (I.vr.dead _) (I.slots.mono hN) _ _ fun m1 v' w1 E R1 hv => ?_
            have hback : ∀ b L, m1 b = some L → m b = some L := by
              intro b L hb
              rcases E.new b L hb with h1 | ⟨h1, _⟩
              · exact (cutM_some h1).2
              · have := (R1.dom b L hb).1; omega
            have hw : ∀ B, B < w.heap.size → w1.heap[B]? = w.heap[B]? := fun B hB => E.frame B hB fun b L k _ hk => by rw [blk_dead] at hk; cases hk
            exact ih _ q m _ w1 (I.mark hreg hr hE (fun _ _ h => h) (hv.mono hback) (I.vr.still R1.below E.size hw) (fun b L h => .inl h) h0 E.size hw) hfuel
          | true =>
            obtain ⟨k, hk1, hk2, hall⟩ := alloc_res ha hres
            have hp2 := hall (List.replicate (tH j).length none) (by simp)
            have hkb := I.makeNow X A hr hs hf' ha hk2
            have hlen : (tH (j + 1)).length = (tH j).length + 1 := by rw [hk2]; simp
            have hnone : m (tH j).length = none := by
              cases hb : m (tH j).length with
              | none => rfl
              | some L =>
                exfalso
                rcases I.dm _ L hb with h3 | ⟨i, h3, h4, h5, h6⟩
                · omega
                · rcases Nat.lt_trichotomy i j with h7 | h7 | h7
                  · have := A.le (i := i + 1) (j := j) (by omega) (by omega); omega
                  · subst h7
                    have := hr.not
                    rw [h4] at this
                    cases this
                  · have := A.le (i := j + 1) (j := i) (by omega) (by omega); omega
            obtain ⟨T, hT, hTo⟩ := I.masked hreg X A hr
            rw [← aRes_congr o.op hTo] at hp2
            refine res_sound hcall hp2 (I.vr.dead _) hT _ _ fun m1 v' w1 E R1 hv => ?_
            have hmap : ∃ L, m1 (tH j).length = some L := by
              rcases hk1.2 with h1 | ⟨n, c, h1⟩
              · rw [h1] at hv; obtain ⟨L, h2, _⟩ := VRel.ptr_inv hv; exact ⟨L, h2⟩
              · rw [h1] at hv; obtain ⟨L, _, _, h2, _⟩ := VRel.slice_inv hv; exact ⟨L, h2⟩
            obtain ⟨L, hL⟩ := hmap
            have hup : ∀ b L', m1 b = some L' → upd m (tH j).length L b = some L' ∧ b < (tH j).length + 1 := by
              intro b L' hb
              have h2 := (R1.dom b L' hb).1
              rw [List.length_append, List.length_replicate, List.length_singleton] at h2
              refine ⟨?_, h2⟩
              unfold upd
              by_cases hbl : b = (tH j).length
              · subst hbl; rw [if_pos rfl, ← hL]; exact hb
              · rw [if_neg hbl]
                rcases E.new b L' hb with h1 | ⟨h1, _⟩
                · exact (cutM_some h1).2
                · rw [List.length_replicate] at h1; omega
            have hblk : blk (List.replicate (tH j).length none ++ [some k]) (tH j).length = some k := by
              unfold blk
              rw [List.getElem?_append_right (by simp)]
              simp
            have hfresh : w.heap.size ≤ L.blk := by
              rcases E.new _ L hL with h1 | ⟨_, h1 | ⟨b0, L0, k0, _, h1, _⟩⟩
              · have := (cutM_some h1).1; omega
              · exact h1
              · rw [blk_dead] at h1; cases h1
            have hw : ∀ B, B < w.heap.size → w1.heap[B]? = w.heap[B]? := fun B hB => E.frame B hB fun b L k _ hk => by rw [blk_dead] at hk; cases hk
            have hmono : ∀ b L', m b = some L' → upd m (tH j).length L b = some L' := by
              intro b L' hb
              unfold upd
              rw [if_neg]
              · exact hb
              · intro he; rw [he, hnone] at hb; cases hb
            have hV := I.vr.alloc R1.below E.size hw (l := (tH j).length) (L := L) (k := k) (by have := A.le (i := j + 1) (j := ops.size) (by omega) (Nat.le_refl _); omega) hnone hkb hfresh (R1.dom _ L hL).2
              ((R1.blks _ L k hL hblk).mono fun b L' hb => cutM_of (hup b L' hb).2 (hup b L' hb).1)
            refine ih _ q _ _ w1 (I.mark hreg hr hE hmono (hv.mono fun b L' hb => (hup b L' hb).1) hV (fun b L' hb => ?_) h0 E.size hw) hfuel
            unfold upd at hb
            split at hb
            · rename_i he
              cases hb
              exact .inr ⟨by omega, by omega, hfresh⟩
            · exact .inl hb
theorem getD_replicate (n i : Nat) : (Array.replicate n false).getD i false = false := by
  unfold Array.getD
  split
  · simp
  · rfl
theorem draw_ok {P : Program} {call : CallF} (hcall : CallOK P call) : DrawOK P call := by
  intro ops hreg R T H K r h
  obtain ⟨tT, tH, sk, vl, h0, h1, X, _, hK⟩ := evD_inv ops (befL [] ops.toList) ops.toList 0 T H [] [] (fun j => by simp) h
  simp only [Array.length_toList, Nat.zero_add] at hK
  subst h0 h1
  refine ⟨_, _, hK, fun B0 w0 m a w Q R0 hT hd hq => ?_⟩
  have A : Along ops tT tH m := ⟨fun i d hd => (X.lens hcall R0 hT i d hd).1, fun d hd b k' hb hk => by
      have := (X.lens hcall R0 hT 0 d (by omega)).2 b k' hb (by rw [Nat.zero_add]; exact hk)
      exact this, fun j s x hj hx => X.bel hcall R0 hT hj s x hx, fun b L hb => (R0.dom b L hb).1⟩
  obtain ⟨q, _, hq1, hq2, hq3⟩ := nextE (ops := ops) (sk := sk) 0 ops.size (by omega)
  have hsame := X.same 0 q (by omega) (fun e h1 h2 => hq2 e h1 (by omega))
  rw [Nat.zero_add] at hsame
  have hle := A.le hq1 (Nat.le_refl _)
  refine Inv.any hcall hreg X A hq ops.size _ q m a w ⟨by simp, fun j o ho hD => (by have hD' : (Array.replicate ops.size false).getD j false = true := hD; rw [getD_replicate] at hD'; cases hD'), hq1, fun hlt => ⟨hq3 hlt, getD_replicate _ _⟩, fun e he hE => ?_, ?_, hd, ?_, fun b L hb => .inl (R0.dom b L hb).1, fun _ _ h => h, Nat.le_refl _, fun b L hb => .inl hb, fun _ _ _ => rfl⟩ ?_
  · have := hq2 e (Nat.zero_le _) he
    rw [hE] at this
    cases this
  · have e1 : svL ops vl (tT 0) (fun i => (Array.replicate ops.size false).getD i false) = tT 0 := by
      apply List.ext_getElem?
      intro s
      rcases Nat.lt_or_ge s (tT 0).length with hs | hs
      · have e2 : (svL ops vl (tT 0) (fun i => (Array.replicate ops.size false).getD i false))[s]? = some (AM.sv ops vl (tT 0) (fun i => (Array.replicate ops.size false).getD i false) ops.size s) := by
          unfold svL; rw [List.getElem?_map, List.getElem?_range hs]; rfl
        have e3 := sv_cut (ops := ops) (vl := vl) (T0 := tT 0) (D := fun i => (Array.replicate ops.size false).getD i false) (s := s) (i := 0) ops.size fun j _ _ _ => getD_replicate _ _
        rw [Nat.zero_add] at e3
        rw [e2, e3]
        unfold AM.sv
        rw [List.getD_eq_getElem?_getD, List.getElem?_eq_getElem hs]
        rfl
      · rw [List.getElem?_eq_none (by rw [svL_length]; exact hs), List.getElem?_eq_none hs]
    rw [e1]
    exact hT
  · have kb0 : ∀ b, b < (tH 0).length → kb tH ops.size q b = blk (tH 0) b := fun b hb => by rw [kb_lt (by omega)]; exact hsame.2 b hb
    have hcut : ∀ l, (tH 0).length ≤ l → ∀ b L, m b = some L → cutM m l b = some L := fun l hl b L hb => cutM_of (by have := (R0.dom b L hb).1; omega) hb
    refine ⟨R0.below, R0.hB, fun b L hb => ⟨by have := (R0.dom b L hb).1; omega, (R0.dom b L hb).2⟩, fun b L k hb hk => ?_, fun b1 b2 L1 L2 k1 k2 hm1 hm2 hk1 hk2 hne hbb => ?_⟩
    · rw [kb0 b (R0.dom b L hb).1] at hk
      exact (R0.blks b L k hb hk).mono (hcut _ (by omega))
    · rw [kb0 b1 (R0.dom b1 L1 hm1).1] at hk1
      rw [kb0 b2 (R0.dom b2 L2 hm2).1] at hk2
      exact R0.inj b1 b2 L1 L2 k1 k2 hm1 hm2 hk1 hk2 hne hbb
  · unfold left
    exact Nat.le_trans (List.length_filter_le _ _) (by simp)
end
/-- What the evaluator tells of a call, the machine comes to. -/
theorem run_ok {P : Program} (hmix : P.follows .mixedOrders = true) {tbs : FuncId → Tbl} {gv : Given} (hgv : GivenOK P gv) (k : Nat) : CallOK P (run P tbs gv k) := run_sound (fun _ h => draw_ok h) hmix hgv k
end Go.AM
set_option linter.unusedVariables false
set_option linter.unusedSimpArgs false
namespace Go.AM
open Go.ChangeShapes Go.WideShapes Go.Deep Go.RowKit
variable {P : Program}

structure Ro (P : Program) (W : World) (m : Mp) (H : AH) : Prop where
  rel : Rel P W.heap.size W m H W
  ro : ∀ b k, blk H b = some k → k.kind = .ro
def Sub (m m' : Mp) : Prop := ∀ b L, m b = some L → m' b = some L
theorem Sub.refl (m : Mp) : Sub m m := fun _ _ h => h
theorem Sub.trans {a b c : Mp} (h : Sub a b) (k : Sub b c) : Sub a c := fun x L hx => k x L (h x L hx)
theorem Ro.empty (W : World) : Ro P W (fun _ => none) [] :=
  ⟨⟨Below.refl _ _, Nat.le_refl _, fun _ _ h => (by cases h), fun _ _ _ h => (by cases h), fun _ _ _ _ _ _ h => (by cases h)⟩, fun b k h => (by simp [blk] at h)⟩
def SlOK (W : World) (cs : List Value) : Prop := ∀ a len cap, Value.slice (some a) len cap ∈ cs → a.spot = none ∧ ∃ c e fr, W.heap[a.block]? = some (.cells c e fr)

/-- One more that came in. -/
theorem Ro.add {W : World} {m : Mp} {H : AH} {ks : List Value} {e : TypeId} {bl base : Nat} {c : Array Value} {te : TypeId} {fr : Nat × Nat} (R : Ro P W m H) (hb : W.heap[bl]? = some (.cells c te fr))
    (hl : LRel m ks ((c.toList.drop base).take ks.length)) :
    ∃ m' : Mp, Sub m m' ∧ m' H.length = some ⟨bl, base, .ro, 0, 0⟩ ∧ Ro P W m' (mkB H ks e .ro) := by
  refine ⟨fun b => if b = H.length then some ⟨bl, base, .ro, 0, 0⟩ else m b, ?_, if_pos rfl, ?_⟩
  · intro b L h
    have := (R.rel.dom b L h).1
    show (if b = H.length then _ else m b) = _
    rw [if_neg (by omega)]; exact h
  have hsub : Sub m (fun b => if b = H.length then some ⟨bl, base, .ro, 0, 0⟩ else m b) := by
    intro b L h
    have := (R.rel.dom b L h).1
    show (if b = H.length then _ else m b) = _
    rw [if_neg (by omega)]; exact h
  have hro : ∀ b k, blk (mkB H ks e .ro) b = some k → k.kind = .ro := by
    intro b k h
    by_cases hbn : b < H.length
    · rw [blk_mkB_old hbn] at h; exact R.ro b k h
    · have := blk_lt h
      rw [length_mkB] at this
      have : b = H.length := by omega
      subst this
      rw [blk_mkB_new] at h; cases h; rfl
  refine ⟨⟨R.rel.below, R.rel.hB, ?_, ?_, ?_⟩, hro⟩
  · intro b L h
    replace h : (if b = H.length then some _ else m b) = some L := h
    rw [length_mkB]
    by_cases hb2 : b = H.length
    · rw [if_pos hb2] at h; cases h
      exact ⟨by omega, (Array.getElem?_eq_some_iff.1 hb).1⟩
    · rw [if_neg hb2] at h
      have := R.rel.dom b L h
      exact ⟨by omega, this.2⟩
  · intro b L k h hk
    replace h : (if b = H.length then some _ else m b) = some L := h
    by_cases hb2 : b = H.length
    · rw [if_pos hb2] at h; cases h
      subst hb2
      rw [blk_mkB_new] at hk; cases hk
      exact ⟨rfl, ⟨c, te, fr, hb, hl.mono hsub, fun hh => absurd rfl hh, fun hh => (by cases hh), fun hh => (by cases hh)⟩, fun hh => absurd rfl hh, fun hh => (by cases hh)⟩
    · rw [if_neg hb2] at h
      have hlt := (R.rel.dom b L h).1
      rw [blk_mkB_old hlt] at hk
      have h1 := R.rel.blks b L k h hk
      obtain ⟨c', e', fr', q1, q2, q3, q4, q5⟩ := h1.there
      exact ⟨h1.kind, ⟨c', e', fr', q1, q2.mono hsub, q3, q4, q5⟩, h1.own, h1.esz⟩
  · intro b1 b2 L1 L2 k1 k2 _ _ h1 _ hne _
    exact absurd (hro b1 k1 h1) hne

/-- A kind of datum over the abstract heap. -/
structure Kn (α : Type) where
  K : AH → α → List Value → Prop
  mono : ∀ {H H' : AH} {a : α} {cs : List Value}, Mo H H' → K H a cs → K H' a cs
def Kn.int (k : IntKind) : Kn Int := ⟨fun _ n cs => cs = [.int k n], fun _ h => h⟩
def Kn.bool : Kn Bool := ⟨fun _ n cs => cs = [.bool n], fun _ h => h⟩
def Kn.string : Kn ByteArray := ⟨fun _ n cs => cs = [.string n], fun _ h => h⟩
def Kn.pair {α β : Type} (a : Kn α) (b : Kn β) : Kn (α × β) :=
  ⟨fun H x cs => ∃ c d, cs = c ++ d ∧ a.K H x.1 c ∧ b.K H x.2 d, fun hm ⟨c, d, h, h1, h2⟩ => ⟨c, d, h, a.mono hm h1, b.mono hm h2⟩⟩
def Kn.unit : Kn Unit := ⟨fun _ _ cs => cs = [], fun _ h => h⟩
/-- A slice that came in. -/
def Kn.slice {α : Type} (e : TypeId) (sz : Nat) (d : Kn α) : Kn (List α) :=
  ⟨fun H l cs => (cs = [.slice none 0 0] ∧ l = []) ∨ ∃ (b : Nat) (css : List (List Value)), cs = [sl b 0 l.length (l.length + 1)] ∧ blk H b = some ⟨css.flatten, e, .ro⟩ ∧ css.length = l.length ∧ ∀ (i : Nat) (a : α) (c : List Value), l[i]? = some a → css[i]? = some c → c.length = sz ∧ d.K H a c,
   by
    intro H H' l cs hm h
    rcases h with h | ⟨b, css, h1, h2, h3, h4⟩
    · exact .inl h
    · exact .inr ⟨b, css, h1, hm _ _ h2, h3, fun i a c h5 h6 => ⟨(h4 i a c h5 h6).1, d.mono hm (h4 i a c h5 h6).2⟩⟩⟩
/-- What follows from a cells' list: each is one. -/
def OpA (P : Program) (t : TypeId) {α : Type} (d : Kn α) (G : α → Prop) : Prop :=
  ∀ (Hh : Type) (enc : TypeId × Value → Hh) (W : World) (spare : Nat → Bool) (held : Bool) (fuel : Nat) (cs : List Value) (x : DataW Hh × List MemPlace),
    DataW.trod enc P W 0 spare held fuel t cs = some x → SlOK W cs → ∀ (m : Mp) (H : AH), Ro P W m H →
    ∃ m' H' cs' a, Ro P W m' H' ∧ Sub m m' ∧ Fr H H' ∧ LRel m' cs' cs ∧ d.K H' a cs' ∧ G a
theorem LRel.one {m : Mp} {x y : Value} (h : VRel m x y) : LRel m [x] [y] := LRel.cons h (LRel.nil m)
theorem opA_int {t : TypeId} {k : IntKind} (ht : P.underlying t = some (.int k)) : OpA P t (Kn.int k) (fun n => (Lit.int k n).wf = true) := by
  intro Hh enc W spare held fuel cs x h _ m H R
  obtain ⟨n, rfl, _, hw⟩ := DataW.trod_int ht h
  exact ⟨m, H, _, n, R, Sub.refl m, Fr.refl H, LRel.one (.flat _ rfl), rfl, hw⟩
theorem opA_bool {t : TypeId} (ht : P.underlying t = some .bool) : OpA P t Kn.bool (fun _ => True) := by
  intro Hh enc W spare held fuel cs x h _ m H R
  obtain ⟨n, rfl, _⟩ := DataW.trod_bool ht h
  exact ⟨m, H, _, n, R, Sub.refl m, Fr.refl H, LRel.one (.flat _ rfl), rfl, trivial⟩
/-- No slice among a type's cells. -/
def NoSl (P : Program) (t : TypeId) : Prop :=
  ∀ (Hh : Type) (enc : TypeId × Value → Hh) (W : World) (spare : Nat → Bool) (held : Bool) (fuel : Nat) (cs : List Value) (x : DataW Hh × List MemPlace), DataW.trod enc P W 0 spare held fuel t cs = some x → SlOK W cs
theorem noSl_int {t : TypeId} {k : IntKind} (ht : P.underlying t = some (.int k)) : NoSl P t := by
  intro Hh enc W spare held fuel cs x h
  obtain ⟨n, rfl, _, hw⟩ := DataW.trod_int ht h
  intro a l c hm; simp at hm
theorem flatten_snoc {α : Type} (l : List (List α)) (x : List α) : (l ++ [x]).flatten = l.flatten ++ x := by simp
theorem opA_slice {t e : TypeId} {α : Type} {d : Kn α} {G : α → Prop} {sz : Nat} (ht : P.underlying t = some (.slice e)) (hsz : P.cellsOf e = sz) (he : OpA P e d G) (hn : NoSl P e) :
    OpA P t (Kn.slice e sz d) (fun l => l.length ≤ maxLen ∧ ∀ x ∈ l, G x) := by
  intro Hh enc W spare held fuel cs x h hs m H R
  rcases open_slice ht h with ⟨rfl, _⟩ | ⟨a, len, cap, mm, n, D, Pl, rfl, _, hlc, hcm, hm, _, hel⟩
  · exact ⟨m, H, [.slice none 0 0], [], R, Sub.refl m, Fr.refl H, LRel.one (.flat _ rfl), Or.inl ⟨rfl, rfl⟩, by simp, fun x hx => by simp at hx⟩
  · have hlm : len ≤ mm := by rw [hm]; split <;> omega
    obtain ⟨hsp, c, te, fr, hb⟩ := hs a len cap (by simp)
    have hcell : ∀ i, i < mm → ∃ cs', cs' = (c.toList.drop (a.off + i * sz)).take sz ∧ cs'.length = sz ∧ DataW.trod enc P W 0 spare held n e cs' = some (D i, Pl i) := by
      intro i hi
      obtain ⟨cs', h1, h2⟩ := hel i hi
      obtain ⟨_, h3, h4⟩ := World.cells?_some h1
      rw [hsz] at h3 h4
      refine ⟨cs', ?_, h3, h2⟩
      apply List.ext_getElem?
      intro j
      by_cases hj : j < sz
      · rw [List.getElem?_take_of_lt hj, List.getElem?_drop, ← h4 j hj]
        have e1 : (a.add (i * sz)).add j = a.add (i * sz + j) := add_add _ _ _
        have e2 : (a.add (i * sz + j)).block = a.block ∧ (a.add (i * sz + j)).spot = none ∧ (a.add (i * sz + j)).off = a.off + (i * sz + j) := by
          unfold Addr.add
          by_cases h0 : i * sz + j = 0
          · rw [if_pos h0, h0]; exact ⟨rfl, hsp, rfl⟩
          · rw [if_neg h0]; exact ⟨rfl, rfl, rfl⟩
        rw [e1]
        unfold World.cell?
        rw [e2.1, hb]
        simp only [e2.2.1, e2.2.2]
        simp [Nat.add_assoc]
      · rw [List.getElem?_eq_none (by omega), List.getElem?_eq_none (by rw [List.length_take]; omega)]
    have key : ∀ q, q ≤ len → ∃ (m' : Mp) (H' : AH) (l : List α) (css : List (List Value)), Ro P W m' H' ∧ Sub m m' ∧ Fr H H' ∧ l.length = q ∧ css.length = q ∧ (∀ x ∈ l, G x) ∧ css.flatten.length = q * sz ∧ LRel m' css.flatten ((c.toList.drop a.off).take (q * sz)) ∧
        ∀ (i : Nat) (y : α) (c : List Value), l[i]? = some y → css[i]? = some c → c.length = sz ∧ d.K H' y c := by
      intro q
      induction q with
      | zero => exact fun _ => ⟨m, H, [], [], R, Sub.refl m, Fr.refl H, rfl, rfl, fun x hx => by simp at hx, by simp, by simpa using LRel.nil m, fun i y c h => by simp at h⟩
      | succ q ih =>
        intro hq
        obtain ⟨m1, H1, l, css, R1, s1, f1, hl, hcs, hG, hfl, hLR, hK⟩ := ih (by omega)
        obtain ⟨cs', e1, e2, e3⟩ := hcell q (by omega)
        obtain ⟨m2, H2, ds, y, R2, s2, f2, hLR2, hK2, hG2⟩ := he Hh enc W spare held n cs' _ e3 (hn Hh enc W spare held n cs' _ e3) m1 H1 R1
        refine ⟨m2, H2, l ++ [y], css ++ [ds], R2, s1.trans s2, f1.trans f2, by simp [hl], by simp [hcs], ?_, ?_, ?_, ?_⟩
        · intro x hx
          rcases List.mem_append.1 hx with hx | hx
          · exact hG x hx
          · simp at hx; subst hx; exact hG2
        · rw [flatten_snoc, List.length_append, hfl, hLR2.1, e2, Nat.succ_mul]
        · rw [flatten_snoc, Nat.succ_mul, List.take_add, List.drop_drop, ← e1]
          exact (hLR.mono s2).append hLR2
        · intro i y' c' h1 h2
          by_cases hi : i < q
          · rw [List.getElem?_append_left (by omega)] at h1 h2
            exact ⟨(hK i y' c' h1 h2).1, d.mono f2.mo (hK i y' c' h1 h2).2⟩
          · have hi2 := (List.getElem?_eq_some_iff.1 h1).1
            have : i = q := by simp [hl] at hi2; omega
            subst this
            rw [List.getElem?_append_right (by omega), hl, Nat.sub_self] at h1
            rw [List.getElem?_append_right (by omega), hcs, Nat.sub_self] at h2
            simp at h1 h2
            subst h1 h2
            exact ⟨by rw [hLR2.1, e2], hK2⟩
    obtain ⟨m1, H1, l, css, R1, s1, f1, hl, hcs, hG, hfl, hLR, hK⟩ := key len (Nat.le_refl _)
    obtain ⟨m2, s2, hm2, R2⟩ := R1.add (ks := css.flatten) (e := e) (base := a.off) hb (by rw [hfl]; exact hLR)
    have fnew : Fr H1 (mkB H1 css.flatten e .ro) := ⟨by rw [length_mkB]; omega, fun b hb => blk_mkB_old hb⟩
    refine ⟨m2, mkB H1 css.flatten e .ro, [sl H1.length 0 l.length (l.length + 1)], l, R2, s1.trans s2, f1.trans fnew, ?_, Or.inr ⟨H1.length, css, rfl, blk_mkB_new, by omega, fun i y c h1 h2 => ⟨(hK i y c h1 h2).1, d.mono fnew.mo (hK i y c h1 h2).2⟩⟩, by omega, hG⟩
    refine LRel.one ?_
    rw [hl]
    have ea : a = ⟨a.block, a.off, none⟩ := by rw [← hsp]
    rw [ea]
    exact .slice H1.length 0 a.off len (len + 1) cap ⟨a.block, a.off, .ro, 0, 0⟩ hm2 (by omega) hlc (.inl (by simp)) (fun h => (by cases h)) (fun h => (by cases h)) (fun _ => .inl (by omega))

/-- The fields of a struct from one on. -/
def OpFs (P : Program) (fs : List Field) (off tot : Nat) {α : Type} (d : Kn α) (G : α → Prop) : Prop :=
  ∀ (Hh : Type) (enc : TypeId × Value → Hh) (W : World) (spare : Nat → Bool) (held : Bool) (fuel : Nat) (cs : List Value),
    (∀ f ∈ fs, ∃ x, DataW.trod enc P W 0 spare held fuel f.type ((cs.drop f.offset).take (P.cellsOf f.type)) = some x) → cs.length = tot → SlOK W cs → ∀ (m : Mp) (H : AH), Ro P W m H →
    ∃ m' H' cs' a, Ro P W m' H' ∧ Sub m m' ∧ Fr H H' ∧ LRel m' cs' (cs.drop off) ∧ d.K H' a cs' ∧ G a
theorem opFs_nil {off : Nat} : OpFs P [] off off Kn.unit (fun _ => True) := by
  intro Hh enc W spare held fuel cs _ hl hs m H R
  refine ⟨m, H, [], (), R, Sub.refl m, Fr.refl H, ?_, rfl, trivial⟩
  rw [List.drop_eq_nil_of_le (by omega)]; exact LRel.nil m
theorem opFs_cons {f : Field} {fs : List Field} {off tot sz : Nat} {α β : Type} {a : Kn α} {b : Kn β} {G0 : α → Prop} {G1 : β → Prop} (ho : f.offset = off) (hc : P.cellsOf f.type = sz) (A : OpA P f.type a G0)
    (B : OpFs P fs (off + sz) tot b G1) : OpFs P (f :: fs) off tot (Kn.pair a b) (fun x => G0 x.1 ∧ G1 x.2) := by
  intro Hh enc W spare held fuel cs hf hl hs m H R
  obtain ⟨x, hx⟩ := hf f (by simp)
  rw [ho, hc] at hx
  obtain ⟨m1, H1, c1, y1, R1, s1, f1, l1, k1, g1⟩ := A Hh enc W spare held fuel _ x hx (fun a l c h => hs a l c (List.mem_of_mem_drop (List.mem_of_mem_take h))) m H R
  obtain ⟨m2, H2, c2, y2, R2, s2, f2, l2, k2, g2⟩ := B Hh enc W spare held fuel cs (fun g hg => hf g (by simp [hg])) hl hs m1 H1 R1
  refine ⟨m2, H2, c1 ++ c2, (y1, y2), R2, s1.trans s2, f1.trans f2, ?_, ⟨c1, c2, rfl, a.mono f2.mo k1, k2⟩, g1, g2⟩
  have := (l1.mono s2).append l2
  rw [← List.drop_drop, List.take_append_drop] at this
  exact this
theorem opA_struct {t : TypeId} {fs : List Field} {tot : Nat} {α : Type} {d : Kn α} {G : α → Prop} (ht : P.underlying t = some (.struct ⟨fs⟩)) (hc : P.cellsOf t = tot) (A : OpFs P fs 0 tot d G) : OpA P t d G := by
  intro Hh enc W spare held fuel cs x h hs m H R
  obtain ⟨xs, n, _, rfl, hl, hlen, hf⟩ := DataW.trod_struct ht h
  refine A Hh enc W spare held n cs (fun f hfm => ?_) (by rw [hl, hc]) hs m H R
  obtain ⟨i, hi, he⟩ := List.mem_iff_getElem.1 hfm
  have h1 := hf i f (by simp [← he, hi])
  rw [h1]
  have : i < xs.length := by rw [hlen]; simpa using hi
  exact ⟨_, List.getElem?_eq_getElem this⟩
theorem slOK_cell {W : World} {base : Nat} {u : TypeId} {a : Addr} {len cap : Nat} (h : Cell.okWide P W .any base u (.slice (some a) len cap)) : a.spot = none ∧ ∃ c e fr, W.heap[a.block]? = some (.cells c e fr) := by
  have hc : ∃ e n, W.has P .any base a e n := by
    unfold Cell.okWide at h
    cases hu : P.underlying u with
    | none => rw [hu] at h; simp [Cell.ok, hu] at h
    | some D =>
      rw [hu] at h
      cases D <;> simp [Cell.ok, hu] at h
      exact ⟨_, _, h.2.2⟩
  obtain ⟨e, n, hh⟩ := hc
  obtain ⟨_, h1, row, cells, h2, _⟩ := hh
  refine ⟨h1, ?_⟩
  unfold World.shape? at h2
  split at h2
  · rename_i c' e' fr' hb; exact ⟨c', e', fr', hb⟩
  · cases h2
theorem slOK_of {W : World} {base : Nat} {t : TypeId} {v : Value} (h : Value.okWide P W .any base t v) : SlOK W v.cells.toList := by
  intro a len cap hm
  have key : (∃ u, Cell.okWide P W .any base u (.slice (some a) len cap)) := by
    unfold Value.okWide at h
    split at h
    · obtain ⟨cs, rfl, _, ts, _, _, hr⟩ := h
      obtain ⟨i, hi⟩ := List.getElem?_of_mem hm
      obtain ⟨u, _, hu⟩ := hr i _ (by simpa [Value.cells] using hi)
      exact ⟨u, hu⟩
    · obtain ⟨cs, rfl, _, ts, _, _, hr⟩ := h
      obtain ⟨i, hi⟩ := List.getElem?_of_mem hm
      obtain ⟨u, _, hu⟩ := hr i _ (by simpa [Value.cells] using hi)
      exact ⟨u, hu⟩
    · cases v with
      | agg cs =>
        exfalso
        unfold Cell.okWide at h
        cases hu : P.underlying t with
        | none => rw [hu] at h; simp [Cell.ok, hu] at h
        | some D => rw [hu] at h; cases D <;> simp [Cell.ok, hu] at h
      | slice p l c =>
        simp [Value.cells] at hm
        obtain ⟨rfl, rfl, rfl⟩ := hm
        exact ⟨t, h⟩
      | _ => simp [Value.cells] at hm
  obtain ⟨u, hu⟩ := key
  exact slOK_cell hu
/-- An argument. -/
structure OpV (P : Program) (t : TypeId) {α : Type} (d : Kn α) (G : α → Prop) (KV : AH → α → Value → Prop) : Prop where
  op : OpA P t d G
  val : ∀ (W : World) (base : Nat) (v : Value), Value.okWide P W .any base t v → (∃ cs, v = .agg cs) ∧ (∀ H a cs, d.K H a cs → KV H a (.agg cs.toArray)) ∨ v.cells = #[v] ∧ (∀ H a v, d.K H a [v] → KV H a v)
  mono : ∀ {H H' : AH} {a : α} {v : Value}, Mo H H' → KV H a v → KV H' a v
def KvS {α : Type} (d : Kn α) (H : AH) (a : α) (v : Value) : Prop := ∃ cs, v = .agg cs.toArray ∧ d.K H a cs
def KvC {α : Type} (d : Kn α) (H : AH) (a : α) (v : Value) : Prop := d.K H a [v]
theorem opV_struct {t : TypeId} {fs : Array Field} {α : Type} {d : Kn α} {G : α → Prop} (ht : P.underlying t = some (.struct fs)) (A : OpA P t d G) : OpV P t d G (KvS d) := by
  refine ⟨A, fun W base v h => .inl ⟨?_, fun H a cs h => ⟨cs, rfl, h⟩⟩, fun hm ⟨cs, h1, h2⟩ => ⟨cs, h1, d.mono hm h2⟩⟩
  unfold Value.okWide at h
  rw [ht] at h
  obtain ⟨cs, rfl, _⟩ := h
  exact ⟨cs, rfl⟩
theorem opV_cell {t : TypeId} {D : TypeDesc} {α : Type} {d : Kn α} {G : α → Prop} (ht : P.underlying t = some D) (hD : (∀ fs, D ≠ .struct fs) ∧ ∀ n e, D ≠ .array n e) (A : OpA P t d G) : OpV P t d G (KvC d) := by
  refine ⟨A, fun W base v h => .inr ⟨?_, fun H a v h => h⟩, fun hm h => d.mono hm h⟩
  unfold Value.okWide at h
  rw [ht] at h
  have h' : Cell.okWide P W .any base t v := by
    cases D with
    | struct fs => exact absurd rfl (hD.1 fs)
    | array n e => exact absurd rfl (hD.2 n e)
    | _ => exact h
  cases v with
  | agg cs =>
    exfalso
    unfold Cell.okWide at h'
    rw [ht] at h'
    cases D <;> simp [Cell.ok, ht] at h'
  | _ => rfl
/-- All arguments. -/
structure OpAs (P : Program) (ts : List TypeId) {α : Type} (G : α → Prop) (KV : AH → α → List Value → Prop) : Prop where
  op : ∀ (Hh : Type) (enc : TypeId × Value → Hh) (W : World) (base : Nat) (spare : Nat → Bool) (held : Bool) (vs : List Value) (ds : List (DataW Hh)) (ps : List MemPlace),
    DataW.TrodAll enc P W 0 spare held ts vs ds ps → (∀ (j : Nat) t v, ts[j]? = some t → vs[j]? = some v → Value.okWide P W .any base t v) → ∀ (m : Mp) (H : AH), Ro P W m H →
    ∃ m' H' vs' a, Ro P W m' H' ∧ Sub m m' ∧ Fr H H' ∧ LRel m' vs' vs ∧ KV H' a vs' ∧ G a
  mono : ∀ {H H' : AH} {a : α} {vs : List Value}, Mo H H' → KV H a vs → KV H' a vs
theorem opAs_nil : OpAs P [] (fun _ : Unit => True) (fun _ _ vs => vs = []) := by
  refine ⟨?_, fun _ h => h⟩
  intro Hh enc W base spare held vs ds ps h _ m H R
  obtain ⟨rfl, rfl, rfl⟩ := trodAll_nil h
  exact ⟨m, H, [], (), R, Sub.refl m, Fr.refl H, LRel.nil m, rfl, trivial⟩
theorem opAs_cons {t : TypeId} {ts : List TypeId} {α β : Type} {d : Kn α} {G : α → Prop} {KV : AH → α → Value → Prop} {G' : β → Prop} {KV' : AH → β → List Value → Prop} (A : OpV P t d G KV) (B : OpAs P ts G' KV') :
    OpAs P (t :: ts) (fun x : α × β => G x.1 ∧ G' x.2) (fun H x vs => ∃ v vs', vs = v :: vs' ∧ KV H x.1 v ∧ KV' H x.2 vs') := by
  refine ⟨?_, fun hm ⟨v, vs', h1, h2, h3⟩ => ⟨v, vs', h1, A.mono hm h2, B.mono hm h3⟩⟩
  intro Hh enc W base spare held vs ds ps h hv m H R
  obtain ⟨v, vs', d0, ds', p, q, rfl, rfl, rfl, ⟨fuel, h0⟩, hr⟩ := trodAll_cons h
  have hok := hv 0 t v rfl rfl
  obtain ⟨m2, H2, us, y2, R2, s2, f2, l2, k2, g2⟩ := B.op Hh enc W base spare held vs' ds' q hr (fun j t' v' h1 h2 => hv (j + 1) t' v' h1 h2) m H R
  obtain ⟨m1, H1, cs', y1, R1, s1, f1, l1, k1, g1⟩ := A.op Hh enc W spare held fuel _ _ h0 (slOK_of hok) m2 H2 R2
  rcases A.val W base v hok with ⟨⟨cs, rfl⟩, hk⟩ | ⟨hc, hk⟩
  · exact ⟨m1, H1, .agg cs'.toArray :: us, (y1, y2), R1, s2.trans s1, f2.trans f1, LRel.cons (VRel.aggL (by simpa [Value.cells] using l1)) (l2.mono s1), ⟨_, _, rfl, hk _ _ _ k1, B.mono f1.mo k2⟩, g1, g2⟩
  · rw [hc] at l1
    obtain ⟨x, rfl⟩ : ∃ x, cs' = [x] := List.length_eq_one_iff.1 l1.1
    exact ⟨m1, H1, x :: us, (y1, y2), R1, s2.trans s1, f2.trans f1, LRel.cons (l1.2 0 x v rfl rfl) (l2.mono s1), ⟨_, _, rfl, hk _ _ _ k1, B.mono f1.mo k2⟩, g1, g2⟩
/-- Behind a call: nothing that was there is another. -/
theorem walk_of {W : World} {f : FuncId} {args vs : List Value} {m : Mp} {H H' : AH} {v : Value} {call : CallF} (hc : CallOK P call) (R : Ro P W m H) (hl : LRel m args vs) (h : call f args H = some (v, H')) (hf : flat1 v = true) :
    Calls P f vs.toArray W fun e W' => e = .returned v ∧ Below W.heap.size W W' := by
  refine ((hc f args H v H' h).2 W.heap.size W m W vs R.rel hl).mono fun e w' ⟨m', v', he, hv, hr, _⟩ => ?_
  rw [VRel.flat_inv hf hv] at he
  exact ⟨he, hr.below⟩
end Go.AM
set_option linter.unusedVariables false
set_option linter.unusedSimpArgs false
set_option maxRecDepth 100000
namespace Go.AM.Y
open Go Go.AM Go.Proofs
attribute [local irreducible] run bin un ld st box newV mkS fldA fld ixA ix slc slc3 build buildS cv cvS ap cpy lenV gOp pickV b2 aIf aChk evalK resume iterD Option.bind

theorem gv_ok : GivenOK Try.prog gv := fun f g h => by cases h
abbrev KDy := Kn.pair (Kn.pair Kn.bool (Kn.pair (Kn.slice 67 1 (Kn.int .u32)) Kn.unit)) (Kn.pair (Kn.int .i64) Kn.unit)
abbrev GDy (x : (Bool × List Int × Unit) × Int × Unit) : Prop := (True ∧ (x.1.2.1.length ≤ maxLen ∧ ∀ n ∈ x.1.2.1, (Lit.int .u32 n).wf = true) ∧ True) ∧ (Lit.int .i64 x.2.1).wf = true ∧ True
def dyOf (x : (Bool × List Int × Unit) × Int × Unit) : Dy := ⟨x.1.1, x.1.2.1.map Int.toNat, x.2.1⟩
theorem wf_i64 {n : Int} (h : (Lit.int .i64 n).wf = true) : -9223372036854775808 ≤ n ∧ n < 9223372036854775808 := by
  simp [Lit.wf, IntKind.min, IntKind.max, IntKind.bits, IntKind.signed] at h; omega
theorem wf_u32 {n : Int} (h : (Lit.int .u32 n).wf = true) : 0 ≤ n ∧ n < 4294967296 := by
  simp [Lit.wf, IntKind.min, IntKind.max, IntKind.bits, IntKind.signed] at h; omega
theorem rd_slice {H : AH} {l : List Int} {m : Value} (h : (Kn.slice 67 1 (Kn.int .u32)).K H l [m]) (hw : ∀ n ∈ l, (Lit.int .u32 n).wf = true) : RdN H m (l.map Int.toNat) := by
  have hsm : small (l.map Int.toNat) := by
    intro x hx
    obtain ⟨n, hn, rfl⟩ := List.mem_map.mp hx
    have := wf_u32 (hw n hn); omega
  rcases h with ⟨h1, rfl⟩ | ⟨b, css, h1, h2, h3, h4⟩
  · cases h1; exact RdN.nil
  · cases h1
    refine ⟨.inr ⟨b, 0, l.length + 1, by simp, by simp, ?_⟩, hsm⟩
    by_cases hn : l = []
    · left; rw [hn]; rfl
    · right
      refine ⟨_, h2, ?_⟩
      have e : css.flatten = (l.map Int.toNat).map u32 := by
        have : css = l.map fun n => [Value.int .u32 n] := by
          apply List.ext_getElem?
          intro i
          by_cases hi : i < l.length
          · rw [List.getElem?_map, List.getElem?_eq_getElem hi, List.getElem?_eq_getElem (by omega)]
            have := (h4 i _ _ (List.getElem?_eq_getElem hi) (List.getElem?_eq_getElem (by omega))).2
            exact congrArg some this
          · rw [List.getElem?_eq_none (by omega), List.getElem?_eq_none (by simp; omega)]
        rw [this, List.map_map]
        clear this h2 h3 h4 hn hsm
        induction l with
        | nil => rfl
        | cons a l ih =>
          have := wf_u32 (hw a (by simp))
          simp only [List.map_cons, List.flatten_cons, List.cons_append, List.nil_append, Function.comp]
          rw [ih (fun n hn => hw n (by simp [hn]))]
          congr 2
          show a = ((a.toNat : Nat) : Int)
          omega
      rw [e]
      simp [rdN, List.take_of_length_le]
theorem dy_open {H : AH} {v : Value} {x : (Bool × List Int × Unit) × Int × Unit} (h : KvS KDy H x v) (hG : GDy x) : DyV H v (dyOf x) ∧ (dyOf x).mag.length < 9223372036854775808 ∧ (-9223372036854775808 ≤ (dyOf x).e ∧ (dyOf x).e < 9223372036854775808) := by
  obtain ⟨cs, rfl, c1, c2, rfl, ⟨c3, c4, rfl, h1, c5, c6, rfl, h2, h3⟩, c7, c8, rfl, h4, h5⟩ := h
  obtain ⟨⟨_, ⟨g1, g2⟩, _⟩, g3, _⟩ := hG
  have h1 : c3 = [.bool x.1.1] := h1
  have h3 : c6 = [] := h3
  have h4 : c7 = [.int .i64 x.2.1] := h4
  have h5 : c8 = [] := h5
  subst h1 h3 h4 h5
  have hl : c5.length = 1 := by
    rcases h2 with ⟨e, _⟩ | ⟨b, css, e, _⟩ <;> rw [e] <;> rfl
  obtain ⟨m, rfl⟩ := List.length_eq_one_iff.mp hl
  refine ⟨⟨m, rfl, rd_slice h2 g2⟩, ?_, wf_i64 g3⟩
  have : maxLen = 9223372036854775807 := by decide
  simp [dyOf]; omega
theorem tame_canon (d : Dy) (hs : small d.mag) : ∃ z e : Int, tameD d = canon z e ∧ nbits z.natAbs ≤ 192 ∧ -300 ≤ e ∧ e ≤ 300 := by
  refine ⟨sg d.neg (val (d.mag.take 6)), ((abs1 d.e % 601 : Nat) : Int) - 300, ?_, ?_, by omega, by omega⟩
  · unfold tameD makeR
    have h1 := nbits_val (hs.take 6)
    have h2 : (d.mag.take 6).length ≤ 6 := by rw [List.length_take]; omega
    rw [if_pos (by omega), if_pos (inRange_canon (by omega) (.inr (by omega)) (by rw [sg_abs]; omega) (by rw [sg_abs]; omega))]
  · rw [sg_abs]
    have h1 := nbits_val (hs.take 6)
    have h2 : (d.mag.take 6).length ≤ 6 := by rw [List.length_take]; omega
    omega
theorem prec_bounds (p : Int) : 2 ≤ precN p ∧ precN p ≤ 200 := by unfold precN; omega
theorem canon_len {z e : Int} {l : Nat} (h : nbits z.natAbs ≤ 32 * l) : (canon z e).mag.length ≤ l := by
  by_cases hz : z = 0
  · subst hz; rw [canon_zero]; simp
  · obtain ⟨q, t, h1, h2, h3, h4⟩ := canon_val (e := e) hz
    rw [h4]
    refine limbs_length_le ?_
    rw [show (4294967296 : Nat) = 2 ^ 32 by decide, ← Nat.pow_mul]
    have := nbits_le.mp h
    have h5 : q ≤ z.natAbs := by rw [h2]; exact Nat.le_mul_of_pos_left _ (Nat.pow_pos (by decide))
    omega
end Go.AM.Y
set_option linter.unusedVariables false
set_option linter.unusedSimpArgs false
set_option maxRecDepth 100000
namespace Go.AM.Y
open Go Go.AM Go.Proofs
attribute [local irreducible] run bin un ld st box newV mkS fldA fld ixA ix slc slc3 build buildS cv cvS ap cpy lenV gOp pickV b2 aIf aChk evalK resume iterD Option.bind

theorem steps_pure {z e : Int} {up : Bool} {P Q : Nat} (hz : nbits z.natAbs ≤ 192) (he : -300 ≤ e ∧ e ≤ 300) (hP : 2 ≤ P ∧ P ≤ 400) (hQ : 2 ≤ Q ∧ Q ≤ P) :
    roundR (canon z e) P up = (canon (rz z P up) e, 0) ∧ roundR (canon (rz z P up) e) Q up = (canon (rz z Q up) e, 0) := by
  have fits : ∀ p : Nat, 1 ≤ p → (rz z p up = 0 ∨ -65536 ≤ e + (nbits (rz z p up).natAbs : Int)) ∧ nbits (rz z p up).natAbs ≤ 193 := by
    intro p hp
    by_cases h : z = 0
    · subst h; rw [rz_zero]; exact ⟨.inl rfl, by decide⟩
    · have := rz_nbits (up := up) hp h
      exact ⟨.inr (by omega), by omega⟩
  have f1 := fits P (by omega)
  have f2 := fits Q (by omega)
  constructor
  · rw [round_canon (canon_right' (by omega) (by omega)) (by omega), Int.toNat_natCast]
    exact told_canon (by omega) f1.1 (by omega) (by omega)
  · rw [round_canon (canon_right' (by omega) (by omega)) (by omega), Int.toNat_natCast, rz_rz (by omega) hQ.2]
    exact told_canon (by omega) f2.1 (by omega) (by omega)
theorem steps_spec {B H : AH} {d : Dy} {v : Value} {p q : Int} {up : Bool} (hl : d.mag.length < 9223372036854775808) (he : -9223372036854775808 ≤ d.e ∧ d.e < 9223372036854775808) (hp : -9223372036854775808 ≤ p ∧ p < 9223372036854775808) (hq : -9223372036854775808 ≤ q ∧ q < 9223372036854775808)
    (hx : DyV B v d) (hL : Le B H) : Ev (fun k _ => rn k 3 [v, .int .i64 p, .int .i64 q, .bool up] H) (An B H fun _ v => v = .bool true) := by
  refine Ev.fn (fun k => f3_eq k _ _ _ _ H) ?_
  have hx' := hx
  obtain ⟨m, rfl, hr⟩ := hx
  have hS := St.start hL
  repeat (first | refine Ev.s ?_ | refine Ev.newC fun _ _ _ => ?_ | refine Ev.boxC fun _ _ _ => ?_ | refine Ev.stC fun _ _ => ?_ | refine Ev.sc (by omega) ?_ | refine Ev.scg (by omega) ?_)
  refine Ev.callC examples_spec fun v1 B1 H1 hm1 hS1 h1 => ?_
  subst h1
  repeat (first | refine Ev.s ?_ | refine Ev.newC fun _ _ _ => ?_ | refine Ev.boxC fun _ _ _ => ?_ | refine Ev.stC fun _ _ => ?_ | refine Ev.sc (by omega) ?_ | refine Ev.scg (by omega) ?_)
  refine Ev.callC (tame_spec hl he (hx'.mono hm1)) fun v2 B2 H2 hm2 hS2 h2 => ?_
  obtain ⟨z, e, ht, hz, he2⟩ := tame_canon d hr.sm
  rw [ht] at h2
  have hlen : (canon z e).mag.length ≤ 6 := canon_len (by omega)
  have h2' := h2
  obtain ⟨m2, rfl, hr2⟩ := h2
  repeat (first | refine Ev.s ?_ | refine Ev.newC fun _ _ _ => ?_ | refine Ev.boxC fun _ _ _ => ?_ | refine Ev.stC fun _ _ => ?_ | refine Ev.sc (by omega) ?_ | refine Ev.scg (by omega) ?_)
  refine Ev.callP (prec_spec hp) ?_
  refine Ev.callP (prec_spec hq) ?_
  have bp := prec_bounds p
  have bq := prec_bounds q
  generalize precN p = P at *
  generalize precN q = Q at *
  obtain ⟨s1, s2⟩ := steps_pure (up := up) hz he2 (P := max P Q) (Q := min P Q) (by omega) (by omega)
  obtain ⟨s3, _⟩ := steps_pure (up := up) hz he2 (P := min P Q) (Q := min P Q) (by omega) (by omega)
  have lens : ∀ p : Nat, 1 ≤ p → (canon (rz z p up) e).mag.length ≤ 7 := by
    intro p hp
    refine canon_len ?_
    by_cases h : z = 0
    · subst h; rw [rz_zero]; decide
    · have := rz_nbits (up := up) hp h
      omega
  have emax : (if (Q : Int) > (P : Int) then (Q : Int) else (P : Int)) = ((max P Q : Nat) : Int) := by split <;> omega
  have emin : (if (Q : Int) < (P : Int) then (Q : Int) else (P : Int)) = ((min P Q : Nat) : Int) := by split <;> omega
  repeat (first | refine Ev.s ?_ | refine Ev.newC fun _ _ _ => ?_ | refine Ev.boxC fun _ _ _ => ?_ | refine Ev.stC fun _ _ => ?_ | refine Ev.sc (by omega) ?_ | refine Ev.scg (by omega) ?_)
  rw [emax]
  refine Ev.callC (Round_dspec (by omega) h2') fun v3 B3 H3 hm3 hS3 h3 => ?_
  rw [s1] at h3
  obtain ⟨o3, rfl, h3⟩ : ResV B3 v3 (canon (rz z ((max P Q : Nat)) up) e) 0 := h3
  have h3' := h3
  obtain ⟨m3, rfl, hr3⟩ := h3
  repeat (first | refine Ev.s ?_ | refine Ev.newC fun _ _ _ => ?_ | refine Ev.boxC fun _ _ _ => ?_ | refine Ev.stC fun _ _ => ?_ | refine Ev.sc (by omega) ?_ | refine Ev.scg (by omega) ?_)
  rw [emin]
  refine Ev.callC (Round_dspec (by have := lens (max P Q) (by omega); omega) h3') fun v4 B4 H4 hm4 hS4 h4 => ?_
  rw [s2] at h4
  obtain ⟨o4, rfl, h4⟩ : ResV B4 v4 (canon (rz z ((min P Q : Nat)) up) e) 0 := h4
  have h4' := h4
  obtain ⟨m4, rfl, hr4⟩ := h4
  repeat (first | refine Ev.s ?_ | refine Ev.newC fun _ _ _ => ?_ | refine Ev.boxC fun _ _ _ => ?_ | refine Ev.stC fun _ _ => ?_ | refine Ev.sc (by omega) ?_ | refine Ev.scg (by omega) ?_)
  rw [emin]
  refine Ev.callC (Round_dspec (by omega) ((h2'.mono hm3).mono hm4)) fun v5 B5 H5 hm5 hS5 h5 => ?_
  rw [s3] at h5
  obtain ⟨o5, rfl, h5⟩ : ResV B5 v5 (canon (rz z ((min P Q : Nat)) up) e) 0 := h5
  have h5' := h5
  obtain ⟨m5, rfl, hr5⟩ := h5
  repeat (first | refine Ev.s ?_ | refine Ev.newC fun _ _ _ => ?_ | refine Ev.boxC fun _ _ _ => ?_ | refine Ev.stC fun _ _ => ?_ | refine Ev.sc (by omega) ?_ | refine Ev.scg (by omega) ?_)
  refine Ev.callC (same_spec (by have := lens (min P Q) (by omega); omega) (h4'.mono hm5) h5') fun v6 B6 H6 hm6 hS6 h6 => ?_
  rw [decide_eq_true ⟨rfl, rfl, rfl⟩] at h6
  subst h6
  repeat (first | refine Ev.s ?_ | refine Ev.newC fun _ _ _ => ?_ | refine Ev.boxC fun _ _ _ => ?_ | refine Ev.stC fun _ _ => ?_ | refine Ev.sc (by omega) ?_ | refine Ev.scg (by omega) ?_)
  exact Ev.doneC rfl
theorem An.tt {B H : AH} {g : Nat → Nat → Option (Value × AH)} (h : Ev g (An B H fun _ v => v = .bool true)) : Ev g (fun r => r.1 = .bool true) := h.mono fun r ⟨_, _, _, _, e⟩ => e
theorem coreDyadSteps (H : AH) (vs : List Value) (x : ((Bool × List Int × Unit) × Int × Unit) × Int × Int × Bool × Unit) (hK : ∃ v vs', vs = v :: vs' ∧ KvS KDy H x.1 v ∧ ∃ v2 vs2, vs' = v2 :: vs2 ∧ KvC (Kn.int .i64) H x.2.1 v2 ∧ ∃ v3 vs3, vs2 = v3 :: vs3 ∧ KvC (Kn.int .i64) H x.2.2.1 v3 ∧ ∃ v4 vs4, vs3 = v4 :: vs4 ∧ KvC Kn.bool H x.2.2.2.1 v4 ∧ vs4 = [])
    (hG : GDy x.1 ∧ (Lit.int .i64 x.2.1).wf = true ∧ (Lit.int .i64 x.2.2.1).wf = true ∧ True ∧ True) : Ev (fun k _ => rn k 3 vs H) (fun r => r.1 = .bool true) := by
  obtain ⟨v, _, rfl, h1, v2, _, rfl, h2, v3, _, rfl, h3, v4, _, rfl, h4, rfl⟩ := hK
  obtain ⟨g1, g2, g3, _, _⟩ := hG
  obtain ⟨a1, a2, a3⟩ := dy_open h1 g1
  have h2 : [v2] = [.int .i64 x.2.1] := h2
  have h3 : [v3] = [.int .i64 x.2.2.1] := h3
  have h4 : [v4] = [.bool x.2.2.2.1] := h4
  cases h2; cases h3; cases h4
  exact An.tt (steps_spec a2 a3 (wf_i64 g2) (wf_i64 g3) a1 ⟨Mo.refl H⟩)
end Go.AM.Y
