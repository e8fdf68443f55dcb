/-
  Facts of the abstract evaluator and of the functions that the law reaches, part 2. Conditions: none.
-/
import Derived.Laws.IdiomRangeMap
import Derived.Test.YtmoonbjbllkdoaaDoorG1CatBack
set_option linter.unusedVariables false
set_option linter.unusedSimpArgs false
set_option linter.unnecessarySimpa false
set_option exponentiation.threshold 200000
set_option maxRecDepth 100000
set_option linter.unusedVariables false
set_option linter.unusedSimpArgs false
namespace Go.AM
open Go.RowKit

section
variable {P : Program} {call : CallF} {ops : Array Oper} {tT : Nat → List Value} {tH : Nat → AH} {sk : Nat → Bool} {vl : Nat → Value} {B0 : Nat} {w0 : World} {m0 : Mp} {wI : World} {ds : List Deferred} {listed : Array Bool} {q : Nat} {m : Mp} {a : Act} {w : World}

theorem Tr.sv (X : Tr P call ops (befL [] ops.toList) 0 tT tH sk vl) {j : Nat} (hj : j ≤ ops.size) : (tT j).length = (tT 0).length ∧ ∀ s, s < (tT 0).length → (tT j).getD s undef = AM.sv ops vl (tT 0) (fun _ => true) j s :=
  tT_sv rfl (fun j o ho => X.step j o (Nat.zero_le _) ho) j hj
/-- What the operation looks at holds what it held in the text's own order. -/
theorem Inv.looks (hreg : regOK ops = true) (X : Tr P call ops (befL [] ops.toList) 0 tT tH sk vl) (I : Inv P ops tT tH sk vl B0 w0 m0 wI ds listed q m a w) {j : Nat} {o : Oper} (hr : Ready ops (fun i => listed.getD i false) j o) :
    ∀ s ∈ o.looksAt ops, s < (svL ops vl (tT 0) (fun i => listed.getD i false)).length → (svL ops vl (tT 0) (fun i => listed.getD i false)).getD s undef = (tT j).getD s undef := by
  intro s hs hlt
  rw [svL_length] at hlt
  rw [svL_getD _ hlt, hr.slots hreg hs, ((X.sv (Nat.le_of_lt (Array.getElem?_eq_some_iff.1 hr.op).1)).2 s hlt)]
theorem Inv.opv (hreg : regOK ops = true) (X : Tr P call ops (befL [] ops.toList) 0 tT tH sk vl) (I : Inv P ops tT tH sk vl B0 w0 m0 wI ds listed q m a w) {j : Nat} {o : Oper} (hr : Ready ops (fun i => listed.getD i false) j o) :
    (∀ x ∈ o.op.operands, AM.opv (svL ops vl (tT 0) (fun i => listed.getD i false)) x = AM.opv (tT j) x) ∧ ∀ g want, o.guard = some (g, want) → yieldV ops (svL ops vl (tT 0) (fun i => listed.getD i false)) g = yieldV ops (tT j) g := by
  have hj := Nat.le_of_lt (Array.getElem?_eq_some_iff.1 hr.op).1
  exact opv_slots (by rw [svL_length, (X.sv hj).1]) (I.looks hreg X hr)
theorem Inv.wanted (hreg : regOK ops = true) (X : Tr P call ops (befL [] ops.toList) 0 tT tH sk vl) (I : Inv P ops tT tH sk vl B0 w0 m0 wI ds listed q m a w) {j : Nat} {o : Oper} (hr : Ready ops (fun i => listed.getD i false) j o) :
    Region.wanted o (yielded ops a.tmps) = !sk j := by
  obtain ⟨_, hy⟩ := I.opv hreg X hr
  cases hs : sk j with
  | true =>
    obtain ⟨⟨g, want, hg, hu⟩, _⟩ := X.skip j o (Nat.zero_le _) hr.op hs
    rcases hu with ⟨b, hu, hb⟩ | ⟨vs, hu, _⟩
    · rw [wanted_of hg ((yield_rel I.slots g).1 b (by rw [hy g want hg]; exact hu))]
      simp [hb]
    · rw [wanted_of hg ((yield_rel I.slots g).2 vs (by rw [hy g want hg]; exact hu))]
      rfl
  | false =>
    rcases X.go j o (Nat.zero_le _) hr.op hs with hg | ⟨g, want, hg, hu⟩
    · unfold Region.wanted; rw [hg]; rfl
    · rw [wanted_of hg ((yield_rel I.slots g).1 want (by rw [hy g want hg]; exact hu))]
      simp
/-- What acts next is the one. -/
theorem Inv.isq (hreg : regOK ops = true) (I : Inv P ops tT tH sk vl B0 w0 m0 wI ds listed q m a w) {j : Nat} {o : Oper} (hr : Ready ops (fun i => listed.getD i false) j o) (hE : eE ops sk j = true) : j = q := by
  have hj : j < ops.size := (Array.getElem?_eq_some_iff.1 hr.op).1
  rcases Nat.lt_trichotomy j q with h | h | h
  · have := I.hq2 j h hE
    have h2 := hr.not
    rw [this] at h2
    cases h2
  · exact h
  · obtain ⟨h1, h2⟩ := I.hq1 (by omega)
    obtain ⟨oq, hq1, hq2, _⟩ := eE_inv h1
    obtain ⟨oj, hj1, hj2, _⟩ := eE_inv hE
    rcases regOK_pair hreg h hq1 hj1 with h3 | ⟨h3, _⟩
    · have := hr.before h3; rw [h2] at this; cases this
    · exact (h3 hq2 hj2).elim
/-- The slots that an operation looks at, under the lesser map. -/
theorem Inv.masked (hreg : regOK ops = true) (X : Tr P call ops (befL [] ops.toList) 0 tT tH sk vl) (A : Along ops tT tH m0) (I : Inv P ops tT tH sk vl B0 w0 m0 wI ds listed q m a w) {j : Nat} {o : Oper} (hr : Ready ops (fun i => listed.getD i false) j o) :
    ∃ T, LRel (cutM m (tH j).length) T a.tmps.toList ∧ ∀ x ∈ o.op.operands, AM.opv T x = AM.opv (tT j) x := by
  have hj : j ≤ ops.size := Nat.le_of_lt (Array.getElem?_eq_some_iff.1 hr.op).1
  refine ⟨(List.range (tT 0).length).map fun s => if s ∈ o.looksAt ops then (tT j).getD s undef else unk, ⟨?_, ?_⟩, ?_⟩
  · rw [List.length_map, List.length_range, ← I.slots.1, svL_length]
  · intro s x y hx hy
    rw [List.getElem?_map] at hx
    have hlt : s < (tT 0).length := by
      rcases Nat.lt_or_ge s (tT 0).length with h1 | h1
      · exact h1
      · rw [List.getElem?_eq_none (by simpa using h1)] at hx; cases hx
    rw [List.getElem?_range hlt, Option.map_some] at hx
    cases hx
    split
    · rename_i hs
      have h1 := I.looks hreg X hr s hs (by rw [svL_length]; exact hlt)
      have h2 : (svL ops vl (tT 0) (fun i => listed.getD i false))[s]? = some ((tT j).getD s undef) := by
        rw [← h1, List.getD_eq_getElem?_getD, List.getElem?_eq_getElem (by rw [svL_length]; exact hlt)]
        rfl
      have h3 := I.slots.2 s _ y h2 hy
      have h4 : (tT j)[s]? = some ((tT j).getD s undef) := by
        rw [List.getD_eq_getElem?_getD, List.getElem?_eq_getElem (by rw [(X.sv hj).1]; exact hlt)]
        rfl
      exact h3.cutB (A.bel j s _ hj h4)
    · exact .unk _
  · refine (opv_slots (ops := ops) (by rw [List.length_map, List.length_range, (X.sv hj).1]) fun s hs hlt => ?_).1
    rw [List.length_map, List.length_range] at hlt
    rw [List.getD_eq_getElem?_getD, List.getElem?_map, List.getElem?_range hlt, Option.map_some, Option.getD_some, if_pos hs]
theorem Inv.act (hreg : regOK ops = true) (X : Tr P call ops (befL [] ops.toList) 0 tT tH sk vl) (A : Along ops tT tH m0) (I : Inv P ops tT tH sk vl B0 w0 m0 wI ds listed q m a w) {o : Oper} (hr : Ready ops (fun i => listed.getD i false) q o) (hE : eE ops sk q = true)
    {m1 : Mp} {w1 : World} {v' : Value} (E : Ext (cutM m (tH q).length) (tH q) w m1 (tH (q + 1)) w1) (R1 : Rel P B0 w0 m1 (tH (q + 1)) w1) (hv : VRel m1 (vl q) v') :
    ∃ q' m2, Inv P ops tT tH sk vl B0 w0 m0 wI ds (listed.setIfInBounds q true) q' m2 (a.put o.dst v') w1 := by
  have hq : q < ops.size := (Array.getElem?_eq_some_iff.1 hr.op).1
  have hlt : q < listed.size := by rw [I.lsize]; exact hq
  obtain ⟨q', hq1, hq2, hq3, hq4⟩ := nextE (ops := ops) (sk := sk) (q + 1) (ops.size - (q + 1)) (by omega)
  have hlen := A.le (i := q) (j := q + 1) (by omega) (by omega)
  have hsame := X.same (q + 1) (q' - (q + 1)) (by omega) (fun e h1 h2 => hq3 e h1 (by omega))
  rw [show q + 1 + (q' - (q + 1)) = q' by omega] at hsame
  have hini : ∀ b, (tH (q + 1)).length ≤ b → b < (tH q').length → blk (tH q') b = ini tH ops.size b := by
    intro b h1 h2
    obtain ⟨j, h3, h4, h5, h6⟩ := crossing (fun i => (tH i).length) (q + 1) b h1 (q' - (q + 1)) (by rw [show q + 1 + (q' - (q + 1)) = q' by omega]; exact h2)
    rw [ini_eq A.lens (show j < ops.size by omega) h5 h6]
    have h7 := X.same (j + 1) (q' - (j + 1)) (by omega) (fun e h7 h8 => hq3 e (by omega) (by omega))
    rw [show j + 1 + (q' - (j + 1)) = q' by omega] at h7
    exact h7.2 b h6
  have hnew : ∀ b, (tH q).length ≤ b → b < (tH (q + 1)).length → m b = none := by
    intro b h1 h2
    cases hb : m b with
    | none => rfl
    | some L =>
      exfalso
      rcases I.dm b L hb with h3 | ⟨i, h3, h4, h5, h6⟩
      · have := A.le (i := 0) (j := q) (by omega) (by omega); omega
      · rcases Nat.lt_trichotomy i q with h7 | h7 | h7
        · have := A.le (i := i + 1) (j := q) (by omega) (by omega); omega
        · subst h7
          have := hr.not
          rw [h4] at this
          cases this
        · have := A.le (i := q + 1) (j := i) (by omega) (by omega); omega
  obtain ⟨V, hmono⟩ := I.vr.eff (by omega) hq2 hlen hsame hini (A.le hq2 (Nat.le_refl _)) R1 E hnew
  have hmono1 : ∀ b L, m1 b = some L → mrg m1 m (tH (q + 1)).length b = some L := by
    intro b L hb
    unfold mrg
    rw [if_pos (R1.dom b L hb).1]
    exact hb
  have split_ : ∀ b L, mrg m1 m (tH (q + 1)).length b = some L → m b = some L ∨ ((tH q).length ≤ b ∧ b < (tH (q + 1)).length ∧ (w.heap.size ≤ L.blk ∨ ∃ b0 L0 k0, m b0 = some L0 ∧ blk (tH q) b0 = some k0 ∧ b0 < (tH q).length ∧ k0.kind ≠ .ro ∧ L0.blk = L.blk)) := by
    intro b L hb
    unfold mrg at hb
    split at hb
    · rename_i h1
      rcases E.new b L hb with h2 | ⟨h2, h3 | ⟨b0, L0, k0, h3, h4, h5, h6⟩⟩
      · exact .inl (cutM_some h2).2
      · exact .inr ⟨h2, h1, .inl h3⟩
      · obtain ⟨h7, h8⟩ := cutM_some h3
        exact .inr ⟨h2, h1, .inr ⟨b0, L0, k0, h8, h4, h7, h5, h6⟩⟩
    · exact .inl hb
  -- an own block that there was
  have own0 : ∀ b L k, m b = some L → blk (tH q) b = some k → k.kind ≠ .ro → (wI.heap.size ≤ L.blk ∨ ∃ b0 L0 k0, m0 b0 = some L0 ∧ blk (tH 0) b0 = some k0 ∧ k0.kind ≠ .ro ∧ L0.blk = L.blk) := by
    intro b L k h1 h2 h3
    rcases I.new b L h1 with h4 | ⟨_, h4⟩
    · obtain ⟨k0, h5, h6⟩ := A.alive q (by omega) b k (A.dom0 b L h4) h2
      exact .inr ⟨b, L, k0, h4, h5, by rw [h6]; exact h3, rfl⟩
    · exact h4
  refine ⟨q', mrg m1 m (tH (q + 1)).length, ⟨by simp [I.lsize], I.down' hr, hq2, fun h => ⟨hq4 h, ?_⟩, fun e he hEe => ?_, ?_, by rw [AM.put_defers]; exact I.defers, V, fun b L hb => ?_, fun b L hb => hmono b L (I.mono0 b L hb), Nat.le_trans I.size E.size, fun b L hb => ?_, fun B hB hr' => ?_⟩⟩
  · rw [getD_set hlt, if_neg (by omega)]
    cases hc : listed.getD q' false with
    | false => rfl
    | true =>
      exfalso
      obtain ⟨oq', h1, h2, _⟩ := eE_inv (hq4 h)
      obtain ⟨oq, h3, h4, _⟩ := eE_inv hE
      rcases regOK_pair hreg (show q < q' by omega) h3 h1 with h5 | ⟨h5, _⟩
      · have := hr.behind h1 h5
        rw [hc] at this
        cases this
      · exact h5 h4 h2
  · rw [getD_set hlt]
    split
    · rfl
    · rename_i hne
      rcases Nat.lt_or_ge e q with h1 | h1
      · exact I.hq2 e h1 hEe
      · have := hq3 e (by omega) he
        rw [hEe] at this
        cases this
  · have e1 : (fun i => (listed.setIfInBounds q true).getD i false) = fun i => if i = q then true else listed.getD i false := by funext i; exact getD_set hlt i
    rw [e1, hr.put hreg]
    exact put_rel (I.slots.mono hmono) _ (hv.mono hmono1)
  · rcases split_ b L hb with h1 | ⟨h1, h2, _⟩
    · rcases I.dm b L h1 with h4 | ⟨i, h4, h5, h6⟩
      · exact .inl h4
      · refine .inr ⟨i, h4, ?_, h6⟩
        rw [getD_set hlt]
        split
        · rfl
        · exact h5
    · exact .inr ⟨q, hq, by rw [getD_set hlt, if_pos rfl], h1, h2⟩
  · rcases split_ b L hb with h1 | ⟨h1, h2, h3⟩
    · exact I.new b L h1
    · have := A.le (i := 0) (j := q) (by omega) (by omega)
      refine .inr ⟨by omega, ?_⟩
      rcases h3 with h3 | ⟨b0, L0, k0, h3, h4, _, h5, h6⟩
      · exact .inl (Nat.le_trans I.size h3)
      · have := own0 b0 L0 k0 h3 h4 h5
        rw [h6] at this
        exact this
  · rw [E.frame B (Nat.lt_of_lt_of_le hB I.size), I.frame B hB hr']
    intro b L k hb hk hne
    obtain ⟨h1, h2⟩ := cutM_some hb
    rcases own0 b L k h2 hk hne with h3 | ⟨b0, L0, k0, h3, h4, h5, h6⟩
    · omega
    · rw [← h6]; exact hr' b0 L0 k0 h3 h4 h5
def left (ops : Array Oper) (listed : Array Bool) : List Nat := (List.range ops.size).filter fun i => !listed.getD i false
theorem filter_less {f g : Nat → Bool} : ∀ (l : List Nat) (j : Nat), j ∈ l → f j = true → g j = false → (∀ i, g i = true → f i = true) → (l.filter g).length < (l.filter f).length
  | [], j, hj, _, _, _ => by cases hj
  | i :: l, j, hj, hf, hg, hgf => by
    have hle : (l.filter g).length ≤ (l.filter f).length := by
      clear hj
      induction l with
      | nil => simp
      | cons i l ih =>
        simp only [List.filter_cons]
        cases hgi : g i with
        | true => rw [hgf i hgi]; simp; exact ih
        | false => cases f i <;> simp <;> omega
    by_cases hij : i = j
    · subst hij
      simp only [List.filter_cons, hf, hg, if_true]
      simp
      omega
    · have hjl : j ∈ l := by cases hj with | head => exact (hij rfl).elim | tail _ h => exact h
      have := filter_less l j hjl hf hg hgf
      simp only [List.filter_cons]
      cases hgi : g i with
      | true => rw [hgf i hgi]; simp; exact this
      | false => cases f i <;> simp <;> omega
theorem Inv.any (hcall : CallOK P call) (hreg : regOK ops = true) (X : Tr P call ops (befL [] ops.toList) 0 tT tH sk vl) (A : Along ops tT tH m0) {Q : Exit → Act → World → Prop}
    (hq : ∀ (m' : Mp) (a' : Act) (w' : World), After P B0 w0 m0 (tH 0) wI ds (tT ops.size) (tH ops.size) m' a' w' → Q .normal a' w') :
    ∀ (fuel : Nat) (listed : Array Bool) (q : Nat) (m : Mp) (a : Act) (w : World), Inv P ops tT tH sk vl B0 w0 m0 wI ds listed q m a w → (left ops listed).length ≤ fuel → wpAny P .any ops Q fuel listed a w := by
  -- when nothing is ready, all is done
  have fin : ∀ (listed : Array Bool) (q : Nat) (m : Mp) (a : Act) (w : World), Inv P ops tT tH sk vl B0 w0 m0 wI ds listed q m a w → (∀ j, j < ops.size → listed.getD j false = true) → Q .normal a w := by
    intro listed q m a w I hall
    have hqn : q = ops.size := by
      rcases Nat.lt_or_ge q ops.size with h | h
      · have := (I.hq1 h).2
        rw [hall q h] at this
        cases this
      · have := I.hq; omega
    subst hqn
    have hN : ∀ b L, m b = some L → cutM m (tH ops.size).length b = some L := fun b L hb => cutM_of (I.vr.dom b L hb).1 hb
    have hT : svL ops vl (tT 0) (fun i => listed.getD i false) = tT ops.size := by
      obtain ⟨h1, h2⟩ := X.sv (Nat.le_refl ops.size)
      apply List.ext_getElem?
      intro s
      rcases Nat.lt_or_ge s (tT 0).length with hs | hs
      · have e1 : (svL ops vl (tT 0) (fun i => listed.getD i false))[s]? = some (AM.sv ops vl (tT 0) (fun i => listed.getD i false) ops.size s) := by
          unfold svL; rw [List.getElem?_map, List.getElem?_range hs]; rfl
        rw [e1, AM.sv_congr (D' := fun _ => true) _ (fun j hj _ => hall j hj), ← h2 s hs, List.getD_eq_getElem?_getD, List.getElem?_eq_getElem (by omega)]
        rfl
      · rw [List.getElem?_eq_none (by rw [svL_length]; exact hs), List.getElem?_eq_none (by omega)]
    refine hq (cutM m (tH ops.size).length) a w ⟨⟨fun b L hb => hN b L (I.mono0 b L hb), A.le (Nat.zero_le _) (Nat.le_refl _), I.size, fun b k' hb hk => A.alive ops.size (Nat.le_refl _) b k' hb hk, fun b L hb => I.new b L (cutM_some hb).2, I.frame⟩, I.vr.rel, ?_, I.defers⟩
    rw [← hT]
    exact I.slots.mono hN
  have ready_nil : ∀ (listed : Array Bool), Region.ready .any ops listed = [] → listed.size = ops.size → ∀ j, j < ops.size → listed.getD j false = true := by
    intro listed hnil hsz j
    induction j using Nat.strongRecOn with
    | _ j ih =>
      intro hj
      cases hl : listed.getD j false with
      | true => rfl
      | false =>
        exfalso
        have ho : ops[j]? = some ops[j] := Array.getElem?_eq_getElem hj
        have hmem : j ∈ Region.ready .any ops listed := by
          unfold Region.ready
          rw [List.mem_filter]
          refine ⟨List.mem_range.2 hj, ?_⟩
          rw [Bool.and_eq_true, ho]
          have hlt : j < listed.size := by omega
          refine ⟨by simp [Array.getD, hlt] at hl ⊢; exact hl, ?_⟩
          simp only [Option.map_some, Option.getD_some]
          refine Array.all_eq_true'.2 fun e he => ?_
          cases hb : Region.binds .any e with
          | false => rfl
          | true =>
            have hlte := regOK_edge hreg ho he hb
            simp [ih e.on hlte (by omega)]
        rw [hnil] at hmem
        cases hmem
  intro fuel
  induction fuel with
  | zero =>
    intro listed q m a w I hf
    have hall : ∀ j, j < ops.size → listed.getD j false = true := by
      intro j hj
      cases hl : listed.getD j false with
      | true => rfl
      | false =>
        exfalso
        have : j ∈ left ops listed := List.mem_filter.2 ⟨List.mem_range.2 hj, by simp [hl]⟩
        have hnil : left ops listed = [] := List.eq_nil_of_length_eq_zero (by omega)
        rw [hnil] at this
        cases this
    refine ⟨?_, fin listed q m a w I hall⟩
    cases hr : Region.ready .any ops listed with
    | nil => rfl
    | cons j rest =>
      exfalso
      obtain ⟨o, hrd⟩ := I.rdy (j := j) (by rw [hr]; simp)
      have := hrd.not
      rw [hall j (Array.getElem?_eq_some_iff.1 hrd.op).1] at this
      cases this
  | succ fuel ih =>
    intro listed q m a w I hf
    refine ⟨fun hnil => fin listed q m a w I (ready_nil listed hnil I.lsize), fun j hjr => ?_⟩
    obtain ⟨o, hr⟩ := I.rdy hjr
    have hj : j < ops.size := (Array.getElem?_eq_some_iff.1 hr.op).1
    have hlt : j < listed.size := by rw [I.lsize]; exact hj
    have hfuel : (left ops (listed.setIfInBounds j true)).length ≤ fuel := by
      have : (left ops (listed.setIfInBounds j true)).length < (left ops listed).length := by
        refine filter_less _ j (List.mem_range.2 hj) (by have := hr.not; simpa using this) (by rw [getD_set hlt]; simp) fun i hi => ?_
        rw [getD_set hlt] at hi
        split at hi
        · cases hi
        · exact hi
      omega
    have h0 : (tH 0).length ≤ (tH j).length := A.le (Nat.zero_le _) (by omega)
    unfold wpOp
    rw [hr.op]
    simp only
    rw [I.wanted hreg X hr]
    cases hs : sk j with
    | true =>
      simp only [Bool.not_true, Bool.false_eq_true, if_false]
      obtain ⟨_, h2, _⟩ := X.skip j o (Nat.zero_le _) hr.op hs
      refine ih _ q m _ w (I.mark hreg hr (by simp [eE, hs]) (fun _ _ h => h) (by rw [h2]; exact VRel.undef _) I.vr (fun b L h => .inl h) h0 (Nat.le_refl _) fun _ _ => rfl) hfuel
    | false =>
      simp only [Bool.not_false, if_true]
      refine .inl ?_
      obtain ⟨hop, _⟩ := I.opv hreg X hr
      cases hE : eE ops sk j with
      | true =>
        have hjq := I.isq hreg hr hE
        subst hjq
        obtain ⟨T, hT, hTo⟩ := I.masked hreg X A hr
        have hres := X.res hr.op hs
        rw [← aRes_congr o.op hTo] at hres
        refine res_sound hcall hres I.vr.rel hT _ _ fun m1 v' w1 E R1 hv => ?_
        obtain ⟨q', m2, I2⟩ := I.act hreg X A hr hE E R1 hv
        exact ih _ q' m2 _ w1 I2 hfuel
      | false =>
        have heff : isEff o.op = false := by simpa [eE, hr.op, hs] using hE
        cases hf' : opRead P (AM.opv (tT j)) o.op with
        | some f =>
          have hnow := I.readNow X A hr hs hf'
          have hpad : f (padH tH ops.size q) = some (vl j) := opRead_keep hf' (fun b k hk => by
            unfold padH blk
            rw [List.getElem?_append_left (blk_lt' hk)]
            exact hk) hnow
          rw [← opRead_congr o.op hop] at hf'
          obtain ⟨v', q1, q2⟩ := read_sound (I.vr.pad (A.le I.hq (Nat.le_refl _))) I.slots hf' hpad
          unfold Oper.wp
          rw [q1]
          exact ih _ q m _ w (I.mark hreg hr hE (fun _ _ h => h) q2 I.vr (fun b L h => .inl h) h0 (Nat.le_refl _) fun _ _ => rfl) hfuel
        | none =>
          have hres := X.other j o (Nat.zero_le _) hr.op hs hf'
          cases ha : isAlloc o.op with
          | false =>
            obtain ⟨_, hpure⟩ := pure_res heff hf' ha hres
            have hp2 := hpure (List.replicate (tH ops.size).length none)
            rw [← aRes_congr o.op hop] at hp2
            have hN : ∀ b L, m b = some L → cutM m (tH ops.size).length b = some L := fun b L hb => cutM_of (I.vr.dom b L hb).1 hb
            refine res_sound hcall hp2 (I.vr.dead _) (I.slots.mono hN) _ _ fun m1 v' w1 E R1 hv => ?_
            have hback : ∀ b L, m1 b = some L → m b = some L := by
              intro b L hb
              rcases E.new b L hb with h1 | ⟨h1, _⟩
              · exact (cutM_some h1).2
              · have := (R1.dom b L hb).1; omega
            have hw : ∀ B, B < w.heap.size → w1.heap[B]? = w.heap[B]? := fun B hB => E.frame B hB fun b L k _ hk => by rw [blk_dead] at hk; cases hk
            exact ih _ q m _ w1 (I.mark hreg hr hE (fun _ _ h => h) (hv.mono hback) (I.vr.still R1.below E.size hw) (fun b L h => .inl h) h0 E.size hw) hfuel
          | true =>
            obtain ⟨k, hk1, hk2, hall⟩ := alloc_res ha hres
            have hp2 := hall (List.replicate (tH j).length none) (by simp)
            have hkb := I.makeNow X A hr hs hf' ha hk2
            have hlen : (tH (j + 1)).length = (tH j).length + 1 := by rw [hk2]; simp
            have hnone : m (tH j).length = none := by
              cases hb : m (tH j).length with
              | none => rfl
              | some L =>
                exfalso
                rcases I.dm _ L hb with h3 | ⟨i, h3, h4, h5, h6⟩
                · omega
                · rcases Nat.lt_trichotomy i j with h7 | h7 | h7
                  · have := A.le (i := i + 1) (j := j) (by omega) (by omega); omega
                  · subst h7
                    have := hr.not
                    rw [h4] at this
                    cases this
                  · have := A.le (i := j + 1) (j := i) (by omega) (by omega); omega
            obtain ⟨T, hT, hTo⟩ := I.masked hreg X A hr
            rw [← aRes_congr o.op hTo] at hp2
            refine res_sound hcall hp2 (I.vr.dead _) hT _ _ fun m1 v' w1 E R1 hv => ?_
            have hmap : ∃ L, m1 (tH j).length = some L := by
              rcases hk1 with h1 | ⟨n, c, h1⟩ | h1
              · rw [h1] at hv; obtain ⟨L, h2, _⟩ := VRel.ptr_inv hv; exact ⟨L, h2⟩
              · rw [h1] at hv; rcases VRel.slice_inv hv with ⟨_, _, h0, _⟩ | ⟨L, _, _, h2, _⟩; (exact absurd h0 (Nat.lt_irrefl 0)); exact ⟨L, h2⟩
              · rw [h1] at hv; obtain ⟨L, h2, _⟩ := VRel.map_inv hv; exact ⟨L, h2⟩
            obtain ⟨L, hL⟩ := hmap
            have hup : ∀ b L', m1 b = some L' → upd m (tH j).length L b = some L' ∧ b < (tH j).length + 1 := by
              intro b L' hb
              have h2 := (R1.dom b L' hb).1
              rw [List.length_append, List.length_replicate, List.length_singleton] at h2
              refine ⟨?_, h2⟩
              unfold upd
              by_cases hbl : b = (tH j).length
              · subst hbl; rw [if_pos rfl, ← hL]; exact hb
              · rw [if_neg hbl]
                rcases E.new b L' hb with h1 | ⟨h1, _⟩
                · exact (cutM_some h1).2
                · rw [List.length_replicate] at h1; omega
            have hblk : blk (List.replicate (tH j).length none ++ [some k]) (tH j).length = some k := by
              unfold blk
              rw [List.getElem?_append_right (by simp)]
              simp
            have hfresh : w.heap.size ≤ L.blk := by
              rcases E.new _ L hL with h1 | ⟨_, h1 | ⟨b0, L0, k0, _, h1, _⟩⟩
              · have := (cutM_some h1).1; omega
              · exact h1
              · rw [blk_dead] at h1; cases h1
            have hw : ∀ B, B < w.heap.size → w1.heap[B]? = w.heap[B]? := fun B hB => E.frame B hB fun b L k _ hk => by rw [blk_dead] at hk; cases hk
            have hmono : ∀ b L', m b = some L' → upd m (tH j).length L b = some L' := by
              intro b L' hb
              unfold upd
              rw [if_neg]
              · exact hb
              · intro he; rw [he, hnone] at hb; cases hb
            have hV := I.vr.alloc R1.below E.size hw (l := (tH j).length) (L := L) (k := k) (by have := A.le (i := j + 1) (j := ops.size) (by omega) (Nat.le_refl _); omega) hnone hkb hfresh (R1.dom _ L hL).2
              ((R1.blks _ L k hL hblk).mono fun b L' hb => cutM_of (hup b L' hb).2 (hup b L' hb).1)
            refine ih _ q _ _ w1 (I.mark hreg hr hE hmono (hv.mono fun b L' hb => (hup b L' hb).1) hV (fun b L' hb => ?_) h0 E.size hw) hfuel
            unfold upd at hb
            split at hb
            · rename_i he
              cases hb
              exact .inr ⟨by omega, by omega, hfresh⟩
            · exact .inl hb
theorem getD_replicate (n i : Nat) : (Array.replicate n false).getD i false = false := by
  unfold Array.getD
  split
  · simp
  · rfl
theorem draw_ok {P : Program} {call : CallF} (hcall : CallOK P call) : DrawOK P call := by
  intro ops hreg R T H K r h
  obtain ⟨tT, tH, sk, vl, h0, h1, X, _, hK⟩ := evD_inv ops (befL [] ops.toList) ops.toList 0 T H [] [] (fun j => by simp) h
  simp only [Array.length_toList, Nat.zero_add] at hK
  subst h0 h1
  refine ⟨_, _, hK, fun B0 w0 m a w ds Q R0 hT hd hq => ?_⟩
  have A : Along ops tT tH m := ⟨fun i d hd => (X.lens hcall R0 hT i d hd).1, fun d hd b k' hb hk => by
      have := (X.lens hcall R0 hT 0 d (by omega)).2 b k' hb (by rw [Nat.zero_add]; exact hk)
      exact this, fun j s x hj hx => X.bel hcall R0 hT hj s x hx, fun b L hb => (R0.dom b L hb).1⟩
  obtain ⟨q, _, hq1, hq2, hq3⟩ := nextE (ops := ops) (sk := sk) 0 ops.size (by omega)
  have hsame := X.same 0 q (by omega) (fun e h1 h2 => hq2 e h1 (by omega))
  rw [Nat.zero_add] at hsame
  have hle := A.le hq1 (Nat.le_refl _)
  refine Inv.any hcall hreg X A hq ops.size _ q m a w ⟨by simp, fun j o ho hD => (by have hD' : (Array.replicate ops.size false).getD j false = true := hD; rw [getD_replicate] at hD'; cases hD'), hq1, fun hlt => ⟨hq3 hlt, getD_replicate _ _⟩, fun e he hE => ?_, ?_, hd, ?_, fun b L hb => .inl (R0.dom b L hb).1, fun _ _ h => h, Nat.le_refl _, fun b L hb => .inl hb, fun _ _ _ => rfl⟩ ?_
  · have := hq2 e (Nat.zero_le _) he
    rw [hE] at this
    cases this
  · have e1 : svL ops vl (tT 0) (fun i => (Array.replicate ops.size false).getD i false) = tT 0 := by
      apply List.ext_getElem?
      intro s
      rcases Nat.lt_or_ge s (tT 0).length with hs | hs
      · have e2 : (svL ops vl (tT 0) (fun i => (Array.replicate ops.size false).getD i false))[s]? = some (AM.sv ops vl (tT 0) (fun i => (Array.replicate ops.size false).getD i false) ops.size s) := by
          unfold svL; rw [List.getElem?_map, List.getElem?_range hs]; rfl
        have e3 := sv_cut (ops := ops) (vl := vl) (T0 := tT 0) (D := fun i => (Array.replicate ops.size false).getD i false) (s := s) (i := 0) ops.size fun j _ _ _ => getD_replicate _ _
        rw [Nat.zero_add] at e3
        rw [e2, e3]
        unfold AM.sv
        rw [List.getD_eq_getElem?_getD, List.getElem?_eq_getElem hs]
        rfl
      · rw [List.getElem?_eq_none (by rw [svL_length]; exact hs), List.getElem?_eq_none hs]
    rw [e1]
    exact hT
  · have kb0 : ∀ b, b < (tH 0).length → kb tH ops.size q b = blk (tH 0) b := fun b hb => by rw [kb_lt (by omega)]; exact hsame.2 b hb
    have hcut : ∀ l, (tH 0).length ≤ l → ∀ b L, m b = some L → cutM m l b = some L := fun l hl b L hb => cutM_of (by have := (R0.dom b L hb).1; omega) hb
    refine ⟨R0.below, R0.hB, fun b L hb => ⟨by have := (R0.dom b L hb).1; omega, (R0.dom b L hb).2⟩, fun b L k hb hk => ?_, fun b1 b2 L1 L2 k1 k2 hm1 hm2 hk1 hk2 hne hbb => ?_⟩
    · rw [kb0 b (R0.dom b L hb).1] at hk
      exact (R0.blks b L k hb hk).mono (hcut _ (by omega))
    · rw [kb0 b1 (R0.dom b1 L1 hm1).1] at hk1
      rw [kb0 b2 (R0.dom b2 L2 hm2).1] at hk2
      exact R0.inj b1 b2 L1 L2 k1 k2 hm1 hm2 hk1 hk2 hne hbb
  · unfold left
    exact Nat.le_trans (List.length_filter_le _ _) (by simp)
end
/-- What the evaluator tells of a call, the machine comes to. -/
theorem run_ok {P : Program} (hmix : P.follows .mixedOrders = true) {tbs : FuncId → Tbl} (hrg : RangesOK P tbs) {gv : Given} (hgv : GivenOK P gv) (k : Nat) : CallOK P (run P tbs gv k) := run_sound (fun _ h => draw_ok h) hmix hrg hgv k
end Go.AM
set_option linter.unusedVariables false
set_option linter.unusedSimpArgs false
namespace Go.AM
open Go.RowKit
section
variable {P : Program}
theorem run_next_at (w : World) (ty : TypeId) (r bm since c0 : Nat) (seen : Array Nat) (es : Array MapEntry) (clock : Nat) (hr : w.heap[r]? = some (.mapIter (some bm) since seen c0)) (hb : w.heap[bm]? = some (.map es clock)) (hold : ∀ x ∈ es.toList, x.born < since) (hsc : since ≤ c0) :
    ((leftOf es seen).size = 0 ∧ (Instr.next (.pointer (some ⟨r, 0, none⟩)) false ty).run P w = .ok (.tuple #[.bool false]) w) ∨
    ∃ e ∈ (leftOf es seen).toList, ∃ w1 : World, (w1 = w ∨ w1 = w.drew) ∧ (Instr.next (.pointer (some ⟨r, 0, none⟩)) false ty).run P w = .ok (.tuple #[.bool true, e.key, e.val]) (w1.putObj r (.mapIter (some bm) since (seen.push e.born) clock)) := by
  simp only [Instr.next, getObj, Sem.run_bind, Sem.run, hr, hb, Result.andThen, next_test_false seen es since c0 hold hsc, Bool.false_eq_true, if_false]
  unfold leftOf
  have hmem : ∀ x ∈ (Array.filter (fun e => !seen.contains e.born) es).toList, x.born < since := fun x hx => hold x (by simp at hx ⊢; exact hx.1)
  generalize Array.filter (fun e => !seen.contains e.born) es = L at hmem ⊢
  have e1 : L.filter (fun x => decide (x.born < since)) = L := Array.filter_eq_self.2 (fun x hx => by simpa using hmem x (by simpa using hx))
  have e2 : L.filter (fun x => decide (x.born ≥ since)) = #[] := by
    rw [Array.filter_eq_empty_iff]
    intro x hx
    have := hmem x (by simpa using hx)
    simp
    omega
  simp only [e1, e2, Array.append_empty]
  by_cases h0 : L.size = 0
  · left
    have : L = #[] := Array.eq_empty_of_size_eq_zero h0
    subst this
    refine ⟨rfl, ?_⟩
    simp [choose, Sem.run, Question.forced]
  · right
    have hne : L.isEmpty = false := by simp [Array.isEmpty, h0]
    simp only [hne, Bool.false_eq_true, if_false, Array.empty_append, Array.size_map]
    have hch : ∃ (j : Nat) (w1 : World), j < L.size ∧ (w1 = w ∨ w1 = w.drew) ∧ (choose (Question.mapNext L.size)).run P w = .ok j w1 := by
      by_cases hf : L.size ≤ 1
      · exact ⟨0, w, by omega, .inl rfl, by simp [choose, Sem.run, Question.forced, hf]⟩
      · exact ⟨_, w.drew, Nat.mod_lt _ (by omega), .inr rfl, by
          simp only [choose, Sem.run, Question.forced, decide_eq_true_eq, hf, if_false, Question.cut]
          rfl⟩
    obtain ⟨j, w1, hj, hal, hrun⟩ := hch
    refine ⟨L[j], by simp, w1, hal, ?_⟩
    have hr1 : w1.heap[r]? = some (.mapIter (some bm) since seen c0) := by rcases hal with rfl | rfl <;> exact hr
    simp only [hrun, Array.getElem?_map, Array.getElem?_eq_getElem hj, Option.map_some, Sem.run_bind, setObj, Sem.run, hr1, Result.andThen]
    rfl
theorem run_entry_at (w : World) (r bm since : Nat) (seen : Array Nat) (es : Array MapEntry) (clock : Nat) (e : MapEntry) (hr : w.heap[r]? = some (.mapIter (some bm) since (seen.push e.born) clock)) (hb : w.heap[bm]? = some (.map es clock)) (he : e ∈ es.toList) (hn : (es.toList.map (·.born)).Nodup) :
    (Instr.entry (.pointer (some ⟨r, 0, none⟩))).run P w = .ok (.tuple #[e.key, e.val]) w := by
  have hf : es.find? (·.born == e.born) = some e := by rw [← Array.find?_toList]; exact find_born e es.toList hn he
  simp only [Instr.entry, getObj, Sem.run_bind, Sem.run, hr, hb, Result.andThen, Array.back?_push, bne_self_eq_false, Bool.false_eq_true, if_false, hf]
  rfl
def Free (m : Mp) (H : AH) (B : Nat) : Prop := ∀ b L k, m b = some L → blk H b = some k → L.blk ≠ B
variable {B0 : Nat} {w0 : World} {m m' : Mp} {H H' : AH} {w w' : World}
theorem Free.ext {B : Nat} (h : Free m H B) (R : Rel P B0 w0 m H w) (E : Ext m H w m' H' w') (hB : B < w.heap.size) : Free m' H' B := by
  intro b L k hb hk
  rcases E.new b L hb with h1 | ⟨h1, h2 | ⟨b0, L0, k0, h3, h4, h5, h6⟩⟩
  · obtain ⟨k0, h3, h4⟩ := E.alive b k (R.dom b L h1).1 hk
    exact h b L k0 h1 h3
  · omega
  · rw [← h6]; exact h b0 L0 k0 h3 h4
theorem Free.frame {B : Nat} (h : Free m H B) (E : Ext m H w m' H' w') (hB : B < w.heap.size) : w'.heap[B]? = w.heap[B]? := E.frame B hB fun b L k h1 h2 _ => h b L k h1 h2
theorem Marks.putIter {B : Nat} {ds : List Deferred} {r : Nat} {o : Obj} (h : Marks B ds m H w) (hr : ∀ l, w.heap[r]? ≠ some (.deferred l)) : Marks B ds m H (w.putObj r o) := by
  obtain ⟨Ds, h1, h2, h3⟩ := h
  refine ⟨Ds, h1, h2, fun D hD => ?_⟩
  obtain ⟨h4, h5, h6⟩ := h3 D hD
  refine ⟨h4, ?_, h6⟩
  rw [World.putObj_heap_other (by rintro rfl; exact hr _ h5)]
  exact h5
theorem Marks.drew {B : Nat} {ds : List Deferred} (h : Marks B ds m H w) : Marks B ds m H w.drew := h
theorem Ext.putIter {r : Nat} {o : Obj} (E : Ext m H w m' H' w') (hr : w.heap.size ≤ r) : Ext m H w m' H' (w'.putObj r o) :=
  ⟨E.mono, E.len, by rw [World.putObj_size]; exact E.size, E.alive, E.new, fun B hB hf => (World.putObj_heap_other (by omega)).trans (E.frame B hB hf)⟩
/-- A dead block, to name a block of the machine's. -/
theorem Rel.mkDead (h : Rel P B0 w0 m H w) (o : Obj) (kd : BK) :
    Rel P B0 w0 (upd m H.length ⟨w.heap.size, 0, kd, 0, 0⟩) (H ++ [none]) (w.alloc o) ∧ Ext m H w (upd m H.length ⟨w.heap.size, 0, kd, 0, 0⟩) (H ++ [none]) (w.alloc o) := by
  have hmono := upd_mono (m := m) (H := H) (fun b L hb => (h.dom b L hb).1) ⟨w.heap.size, 0, kd, 0, 0⟩
  have old : ∀ b2 L2, upd m H.length ⟨w.heap.size, 0, kd, 0, 0⟩ b2 = some L2 → (b2 = H.length ∧ L2 = ⟨w.heap.size, 0, kd, 0, 0⟩) ∨ (b2 ≠ H.length ∧ m b2 = some L2) := by
    intro b2 L2 h2
    unfold upd at h2
    split at h2
    · rename_i hb; cases h2; exact .inl ⟨hb, rfl⟩
    · rename_i hb; exact .inr ⟨hb, h2⟩
  have dead : blk (H ++ [none]) H.length = none := by unfold blk; simp
  have keep : ∀ b, b < H.length → blk (H ++ [none]) b = blk H b := fun b hb => by unfold blk; rw [List.getElem?_append_left hb]
  refine ⟨⟨h.below.alloc h.hB _, by simp; exact Nat.le_succ_of_le h.hB, ?_, ?_, ?_⟩, ⟨hmono, by simp, by simp, ?_, ?_, fun B hB _ => Below.heap_alloc w _ _ hB⟩⟩
  · intro b2 L2 h2
    simp only [World.size_alloc, List.length_append, List.length_singleton]
    rcases old b2 L2 h2 with ⟨rfl, rfl⟩ | ⟨_, h3⟩
    · exact ⟨by omega, by simp⟩
    · have := h.dom b2 L2 h3; omega
  · intro b2 L2 k2 h2 hk2
    rcases old b2 L2 h2 with ⟨rfl, rfl⟩ | ⟨hne, h3⟩
    · rw [dead] at hk2; cases hk2
    · have hlt := (h.dom b2 L2 h3)
      rw [keep _ hlt.1] at hk2
      exact (h.blks b2 L2 k2 h3 hk2).at hmono (Below.heap_alloc w _ _ hlt.2)
  · intro b1 b2 L1 L2 k1 k2 hm1 hm2 hk1 hk2 hne hbb
    rcases old b1 L1 hm1 with ⟨rfl, rfl⟩ | ⟨hn1, h1⟩
    · rw [dead] at hk1; cases hk1
    · rcases old b2 L2 hm2 with ⟨rfl, rfl⟩ | ⟨hn2, h2⟩
      · rw [dead] at hk2; cases hk2
      · rw [keep _ (h.dom b1 L1 h1).1] at hk1
        rw [keep _ (h.dom b2 L2 h2).1] at hk2
        exact h.inj b1 b2 L1 L2 k1 k2 h1 h2 hk1 hk2 hne hbb
  · intro b2 k2 hb2 hk2
    rw [keep _ hb2] at hk2
    exact ⟨k2, hk2, rfl⟩
  · intro b2 L2 h2
    rcases old b2 L2 h2 with ⟨rfl, rfl⟩ | ⟨_, h3⟩
    · exact .inr ⟨Nat.le_refl _, .inl (Nat.le_refl _)⟩
    · exact .inl h3
theorem blk_set_same {H : AH} {b : Nat} {o : Option Blk} (h : b < H.length) : blk (H.set b o) b = o := by
  unfold blk; rw [List.getElem?_set_self h]; rfl
theorem blk_set_ne {H : AH} {b c : Nat} {o : Option Blk} (h : b ≠ c) : blk (H.set b o) c = blk H c := by
  unfold blk; rw [List.getElem?_set_ne h]
/-- A block is known again. -/
theorem Rel.unkill (h : Rel P B0 w0 m H w) {b : Nat} {L : Loc} {k : Blk} (hm : m b = some L) (hb : b < H.length) (hk : BRel P B0 m L k w) (hf : Free m H L.blk) : Rel P B0 w0 m (H.set b (some k)) w := by
  refine ⟨h.below, h.hB, fun b2 L2 h2 => by rw [List.length_set]; exact h.dom b2 L2 h2, fun b2 L2 k2 h2 hk2 => ?_, fun b1 b2 L1 L2 k1 k2 h1 h2 hk1 hk2 hne hbb => ?_⟩
  · by_cases e : b = b2
    · subst e
      rw [blk_set_same hb] at hk2
      cases hk2
      rw [hm] at h2; cases h2
      exact hk
    · rw [blk_set_ne e] at hk2
      exact h.blks b2 L2 k2 h2 hk2
  · by_cases e1 : b = b1
    · subst e1
      rw [hm] at h1; cases h1
      rw [blk_set_ne hbb] at hk2
      exact fun e => hf b2 L2 k2 h2 hk2 e.symm
    · rw [blk_set_ne e1] at hk1
      by_cases e2 : b = b2
      · subst e2
        rw [hm] at h2; cases h2
        exact hf b1 L1 k1 h1 hk1
      · rw [blk_set_ne e2] at hk2
        exact h.inj b1 b2 L1 L2 k1 k2 h1 h2 hk1 hk2 hne hbb
end
theorem evOps_pre {P : Program} {call : CallF} (hcall : CallOK P call) (r0 : Option Nat) (ops : Array Oper) : ∀ (l : List Oper) (i : Nat) (T : List Value) (H : AH) (T' : List Value) (H' : AH), (∀ j o, l[j]? = some o → ops[i + j]? = some o ∧ o.guard = none) →
    evOps P call ops l T H (fun T H => some (T, H)) = some (T', H') → ∀ (n B0 : Nat) (w0 : World) (m : Mp) (a : Act) (w : World) (ds : List Deferred) (rest : List Nat) (Q : Exit → Act → World → Prop), Rel P B0 w0 m H w → LRel m T a.tmps.toList → a.defers = ds →
      (∀ m' a' w', After P B0 w0 m H w ds T' H' m' a' w' → wpOpsIn (FW r0) n P ops Q rest a' w') → wpOpsIn (FW r0) n P ops Q (List.range' i l.length ++ rest) a w
  | [], i, T, H, T', H', _, h, n, B0, w0, m, a, w, ds, rest, Q, R0, hT, hd, hq => by
    cases h
    exact hq m a w (After.start R0 hT hd)
  | o :: l, i, T, H, T', H', hl, h, n, B0, w0, m, a, w, ds, rest, Q, R0, hT, hd, hq => by
    obtain ⟨ho, hg⟩ := hl 0 o rfl
    rw [Nat.add_zero] at ho
    unfold evOps at h
    rw [hg] at h
    simp only at h
    rw [opY_res] at h
    obtain ⟨⟨v, H1⟩, h1, h2⟩ := bind_some h
    rw [List.length_cons, List.range'_succ]
    simp only [List.cons_append, wpOpsIn, ho]
    rw [if_pos (by unfold Region.wanted; rw [hg])]
    refine opY_sound hcall h1 R0 hT _ _ fun m' v' w' E R' hv => ?_
    exact evOps_pre hcall r0 ops l (i + 1) _ _ _ _ (fun j o hj => by rw [show i + 1 + j = i + (j + 1) by omega]; exact hl (j + 1) o hj) h2 n B0 w0 m' _ w' ds rest Q R' (put_rel (hT.mono E.mono) _ hv) (by rw [put_defers]; exact hd) fun m2 a2 w2 A => hq m2 a2 w2 (After.trans R0 E A)
end Go.AM
set_option linter.unusedVariables false
set_option linter.unusedSimpArgs false
namespace Go.AM
def crcBit (v : Nat) : Nat := v / 2 ^^^ 3988292384 * (v % 2)
def crcBits : Nat → Nat → Nat
  | 0, v => v
  | n + 1, v => crcBits n (crcBit v)
def crcGo (v : Nat) (l : List UInt8) : Nat := l.foldl (fun v b => crcBits 8 (v ^^^ b.toNat)) v
def crc (l : List UInt8) : Nat := 4294967295 ^^^ crcGo 4294967295 l
theorem crcBit_lt {v : Nat} (h : v < 4294967296) : crcBit v < 4294967296 := by
  unfold crcBit
  refine Nat.xor_lt_two_pow (n := 32) (by omega) ?_
  rcases Nat.mod_two_eq_zero_or_one v with e | e <;> rw [e] <;> decide
theorem crcBits_lt : ∀ (n : Nat) {v : Nat}, v < 4294967296 → crcBits n v < 4294967296
  | 0, _, h => h
  | n + 1, _, h => crcBits_lt n (crcBit_lt h)
theorem u8_lt (b : UInt8) : b.toNat < 256 := b.toNat_lt
theorem xorb_lt {v : Nat} (h : v < 4294967296) (b : UInt8) : v ^^^ b.toNat < 4294967296 := Nat.xor_lt_two_pow (n := 32) h (Nat.lt_trans (u8_lt b) (by decide))
theorem crcGo_lt : ∀ (l : List UInt8) {v : Nat}, v < 4294967296 → crcGo v l < 4294967296
  | [], _, h => h
  | b :: l, _, h => crcGo_lt l (crcBits_lt 8 (xorb_lt h b))
theorem crc_lt (l : List UInt8) : crc l < 4294967296 := Nat.xor_lt_two_pow (n := 32) (by decide) (crcGo_lt l (by decide))
/-- Bytes as a number, the first one the least. -/
def le : List UInt8 → Nat
  | [] => 0
  | b :: l => 2 ^ 8 * le l + b.toNat
theorem drop_getD {s : List UInt8} {i : Nat} (h : i < s.length) : s.drop i = s.getD i 0 :: s.drop (i + 1) := by
  rw [List.drop_eq_getElem_cons h, List.getD_eq_getElem?_getD, List.getElem?_eq_getElem h]; rfl
theorem mod_two32 {b : UInt8} : b.toNat % 4294967296 = b.toNat := Nat.mod_eq_of_lt (Nat.lt_trans (u8_lt b) (by decide))
theorem mulW {P : Program} {t : TypeId} {a b : Nat} (h : a * b < 4294967296) : bin P .mul t (u32 a) (u32 b) = some (u32 (a * b)) := by
  rw [bin_mul, ← Int.natCast_mul, wrapu32, show ((a * b : Nat) : Int) % 4294967296 = ((a * b : Nat) : Int) by omega]
theorem slc_str2 {P : Program} {t : TypeId} {l : List UInt8} {k k' : IntKind} {m n : Int} [h : Und P t .string] (i j : Nat) (hm : m = (i : Int)) (hn : n = (j : Int)) (hi : i ≤ j) (hj : j ≤ l.length) : slc P t (str l) (some (.int k m)) (some (.int k' n)) = some (str ((l.drop i).take (j - i))) := by
  subst hm hn
  unfold slc; rw [h.eq]
  have : ByteArray.size ⟨l.toArray⟩ = l.length := rfl
  simp only [this, intOr, Option.bind_some]
  rw [if_pos ⟨by omega, by omega, by omega⟩]
  congr 2
  simp [ByteArray.extract, ByteArray.copySlice]
theorem crc_step {P : Program} {t : TypeId} {R : Type} {v : Nat} (hv : v < 4294967296) {g : Nat → Nat → Value → Option R} {Q : R → Prop} (h : Ev (fun k n => g k n (u32 (crcBit v))) Q) :
    Ev (fun k n => (bin P .shr t (u32 v) (.int .u64 1)).bind fun a => (bin P .and t (u32 v) (.int .u32 1)).bind fun b => (bin P .mul t (.int .u32 3988292384) b).bind fun c => (bin P .xor t a c).bind (g k n)) Q := by
  have ha : v &&& 1 = v % 2 := Nat.and_one_is_mod v
  have hm : 3988292384 * (v % 2) < 4294967296 := by have := Nat.mod_lt v (show 0 < 2 by decide); omega
  refine Ev.prim (shrN (a := v) (b := 1) (by decide)) ?_
  refine Ev.prim (andW (b := 1) ⟨hv, by decide⟩) ?_
  rw [ha]
  refine Ev.prim (mulW (a := 3988292384) hm) ?_
  exact Ev.prim (xorW ⟨by omega, hm⟩) h
def le4 (n : Nat) : List UInt8 := [UInt8.ofNat n, UInt8.ofNat (n / 256), UInt8.ofNat (n / 65536), UInt8.ofNat (n / 16777216)]
def bodyL (k : Nat) (t : List UInt8) : List UInt8 := [65, 83, UInt8.ofNat k, UInt8.ofNat t.length] ++ t ++ List.replicate (120 - t.length) 0
def sealL (k : Nat) (t : List UInt8) : List UInt8 := bodyL k t ++ le4 (crc (bodyL k t))
theorem body_len {k : Nat} {t : List UInt8} (h : t.length ≤ 120) : (bodyL k t).length = 124 := by
  unfold bodyL
  simp only [List.length_append, List.length_replicate, List.length_cons, List.length_nil]
  omega
theorem seal_len {k : Nat} {t : List UInt8} (h : t.length ≤ 120) : (sealL k t).length = 128 := by
  unfold sealL
  rw [List.length_append, body_len h]; rfl
theorem seal_take {k : Nat} {t : List UInt8} (h : t.length ≤ 120) : (sealL k t).take 124 = bodyL k t := by
  unfold sealL
  rw [List.take_append_of_le_length (by rw [body_len h]; exact Nat.le_refl _), List.take_of_length_le (by rw [body_len h]; exact Nat.le_refl _)]
theorem seal_drop {k : Nat} {t : List UInt8} (h : t.length ≤ 120) : (sealL k t).drop 124 = le4 (crc (bodyL k t)) := by
  unfold sealL
  rw [List.drop_append_of_le_length (by rw [body_len h]; exact Nat.le_refl _), List.drop_of_length_le (by rw [body_len h]; exact Nat.le_refl _), List.nil_append]
def sealR (kind : Int) (t : List UInt8) : List UInt8 × Int := if kind < 1 ∨ kind > 9 ∨ t.length > 120 then ([], 1) else (sealL kind.toNat t, 0)
/-- What stands in the first 124 bytes is a page's body. -/
def Body (b : List UInt8) : Prop := b.take 2 = [65, 83] ∧ 1 ≤ (b.getD 2 0).toNat ∧ (b.getD 2 0).toNat ≤ 9 ∧ (b.getD 3 0).toNat ≤ 120 ∧ ∀ c ∈ (b.take 124).drop (4 + (b.getD 3 0).toNat), c = 0
instance (b : List UInt8) : Decidable (Body b) := by unfold Body; infer_instance
def openR (b : List UInt8) : Int × List UInt8 × Int :=
  if b.length ≠ 128 then (0, [], 2) else if le4 (crc (b.take 124)) ≠ b.drop 124 then (0, [], 10)
  else if Body b then (((b.getD 2 0).toNat : Int), (b.drop 4).take (b.getD 3 0).toNat, 0) else (0, [], 2)
theorem body_Body {k : Nat} {t : List UInt8} (hk : 1 ≤ k) (hk9 : k ≤ 9) (ht : t.length ≤ 120) : Body (sealL k t) ∧ ((sealL k t).getD 2 0).toNat = k ∧ ((sealL k t).drop 4).take ((sealL k t).getD 3 0).toNat = t := by
  have e2 : (sealL k t).getD 2 0 = UInt8.ofNat k := rfl
  have e3 : (sealL k t).getD 3 0 = UInt8.ofNat t.length := rfl
  have n2 : (UInt8.ofNat k).toNat = k := by rw [UInt8.toNat_ofNat', Nat.mod_eq_of_lt (by omega)]
  have n3 : (UInt8.ofNat t.length).toNat = t.length := by rw [UInt8.toNat_ofNat', Nat.mod_eq_of_lt (by omega)]
  have e4 : (sealL k t).drop 4 = t ++ (List.replicate (120 - t.length) 0 ++ le4 (crc (bodyL k t))) := by
    show (t ++ List.replicate (120 - t.length) 0) ++ le4 (crc (bodyL k t)) = _
    rw [List.append_assoc]
  refine ⟨⟨rfl, ?_, ?_, ?_, ?_⟩, ?_, ?_⟩
  · rw [e2, n2]; exact hk
  · rw [e2, n2]; exact hk9
  · rw [e3, n3]; exact ht
  · rw [e3, n3, seal_take ht]
    intro c hc
    unfold bodyL at hc
    rw [List.drop_append_of_le_length (by simp; omega), List.drop_of_length_le (by simp; omega), List.nil_append] at hc
    exact (List.mem_replicate.1 hc).2
  · rw [e2, n2]
  · rw [e4, e3, n3, List.take_left' rfl]
theorem open_seal {k : Nat} {t : List UInt8} (hk : 1 ≤ k) (hk9 : k ≤ 9) (ht : t.length ≤ 120) : openR (sealL k t) = ((k : Int), t, 0) := by
  obtain ⟨h1, h2, h3⟩ := body_Body hk hk9 ht
  unfold openR
  rw [if_neg (by rw [seal_len ht]; decide), seal_take ht, seal_drop ht, if_neg (fun h => h rfl), if_pos h1, h2, h3]
theorem sealR_ok {kind : Int} {t : List UInt8} (h : (sealR kind t).2 = 0) : ∃ k : Nat, kind = k ∧ 1 ≤ k ∧ k ≤ 9 ∧ t.length ≤ 120 ∧ (sealR kind t).1 = sealL k t := by
  unfold sealR at h ⊢
  split at h
  · cases h
  · rename_i hn
    refine ⟨kind.toNat, by omega, by omega, by omega, by omega, ?_⟩
    rw [if_neg hn]
theorem sealR_nat {k : Nat} {t : List UInt8} (hk : 1 ≤ k) (hk9 : k ≤ 9) (ht : t.length ≤ 120) : sealR (k : Int) t = (sealL k t, 0) := by
  unfold sealR
  rw [if_neg (by omega), Int.toNat_natCast]
end Go.AM
set_option linter.unusedVariables false
namespace Go.AM
variable {P : Program} {t : TypeId} {a n : Nat} {k : IntKind}
theorem lsubL (h : a ≤ @OfNat.ofNat Nat n (instOfNatNat n) ∧ @OfNat.ofNat Nat n (instOfNatNat n) < 9223372036854775808) : bin P .sub t (.int .i64 (@OfNat.ofNat Int n instOfNat)) (i64 a) = some (i64 (@OfNat.ofNat Nat n (instOfNatNat n) - a)) := subN h
theorem laddQ (h : @OfNat.ofNat Nat n (instOfNatNat n) + a < 18446744073709551616) : bin P .add t (.int .u64 (@OfNat.ofNat Int n instOfNat)) (u64 a) = some (u64 (@OfNat.ofNat Nat n (instOfNatNat n) + a)) := addQ h
theorem laddL (h : @OfNat.ofNat Nat n (instOfNatNat n) + a < 9223372036854775808) : bin P .add t (.int .i64 (@OfNat.ofNat Int n instOfNat)) (i64 a) = some (i64 (@OfNat.ofNat Nat n (instOfNatNat n) + a)) := addN h
instance (priority := 900) : PrimC (bin P .add t (.int .i64 (no_index (@OfNat.ofNat Int n instOfNat))) (i64 a)) (@OfNat.ofNat Nat n (instOfNatNat n) + a < 9223372036854775808) (i64 (@OfNat.ofNat Nat n (instOfNatNat n) + a)) := ⟨laddL⟩
theorem quoQL (h : @OfNat.ofNat Nat n (instOfNatNat n) ≠ 0 ∧ a < 18446744073709551616) : bin P .quo t (u64 a) (.int .u64 (@OfNat.ofNat Int n instOfNat)) = some (u64 (a / @OfNat.ofNat Nat n (instOfNatNat n))) := quoQ h
instance (priority := 900) : PrimC (bin P .sub t (.int .i64 (no_index (@OfNat.ofNat Int n instOfNat))) (i64 a)) (a ≤ @OfNat.ofNat Nat n (instOfNatNat n) ∧ @OfNat.ofNat Nat n (instOfNatNat n) < 9223372036854775808) (i64 (@OfNat.ofNat Nat n (instOfNatNat n) - a)) := ⟨lsubL⟩
instance (priority := 900) : PrimC (bin P .add t (.int .u64 (no_index (@OfNat.ofNat Int n instOfNat))) (u64 a)) (@OfNat.ofNat Nat n (instOfNatNat n) + a < 18446744073709551616) (u64 (@OfNat.ofNat Nat n (instOfNatNat n) + a)) := ⟨laddQ⟩
instance (priority := 900) : PrimC (bin P .quo t (u64 a) (.int .u64 (no_index (@OfNat.ofNat Int n instOfNat)))) (@OfNat.ofNat Nat n (instOfNatNat n) ≠ 0 ∧ a < 18446744073709551616) (u64 (a / @OfNat.ofNat Nat n (instOfNatNat n))) := ⟨quoQL⟩
end Go.AM
namespace Go.AM
variable {P : Program}
/-- Bytes that stand, as a string. -/
theorem ScN.cvS {t d e : TypeId} {H : AH} {v : Value} {n : Nat} {ds : List Nat} [h1 : Und P t (.slice e)] [h2 : Und P d .string] [h3 : Und P e (.int .u8)] (h : ScN H v n 1 (ds.map u8)) : cvS P t d H v = some (str (ds.map fun n => UInt8.ofNat n)) := by
  have hl := h.length
  rw [List.length_map, Nat.mul_one] at hl
  unfold AM.cvS
  rw [h1.eq, h2.eq]
  have hc := h.cells
  rcases h with ⟨rfl, hn, hcs⟩ | ⟨b, off, cap, rfl, hc', hl', hx⟩
  · have : ds = [] := by simpa using hcs
    subst this
    simp only [h3.eq, sliceCells]
    rfl
  · simp only [h3.eq, sl]
    have hc2 : sliceCells 1 H (.slice (some ⟨b, off, none⟩) n cap) n = some (ds.map u8) := hc
    rw [hc2, Option.bind_some, bytesOf_map]; rfl
end Go.AM
namespace Go.AM
variable {P : Program}
theorem slc_strT {t : TypeId} {l : List UInt8} {k : IntKind} {i : Nat} [h : Und P t .string] (hi : i ≤ l.length) : slc P t (str l) none (some (.int k (i : Int))) = some (str (l.take i)) := by
  unfold slc; rw [h.eq]
  have : ByteArray.size ⟨l.toArray⟩ = l.length := rfl
  simp only [this, intOr, Option.bind_some]
  rw [if_pos ⟨by omega, by omega, by omega⟩]
  congr 2
  simp [ByteArray.extract, ByteArray.copySlice]
theorem neq_str {t : TypeId} {a b : List UInt8} : bin P .neq t (str a) (str b) = some (.bool (decide (a ≠ b))) := by
  have e : binOp .neq t (str a) (str b) = .pure (.bool (decide (a ≠ b))) := by
    show Op.stringOp .neq _ _ = _
    unfold Op.stringOp
    simp only [toList_str]
    show Sem.pure _ = _
    congr 2
    exact Bool.eq_iff_iff.mpr (by simp)
  unfold bin
  rw [if_pos ⟨rfl, rfl, rfl⟩, e]
  rfl
instance {t : TypeId} {a b : List UInt8} : PrimEq (bin P .neq t (str a) (str b)) (.bool (decide (a ≠ b))) := ⟨neq_str⟩
instance (priority := 2000) {t : TypeId} {a : List UInt8} : PrimEq (bin P .neq t (str a) (str a)) (.bool false) := ⟨by rw [neq_str, decide_eq_false (fun h => h rfl)]⟩
end Go.AM
set_option linter.unusedVariables false
set_option linter.unusedSimpArgs false
namespace Go.AM
variable {P : Program} {R : Type}
abbrev slt (a b : List UInt8) : Bool := Go.Op.bytesLess a b
theorem slt_irr : ∀ a : List UInt8, slt a a = false
  | [] => rfl
  | a :: l => by
    have := slt_irr l
    show (decide (a < a) || (a == a && Go.Op.bytesLess l l)) = false
    rw [show Go.Op.bytesLess l l = false from this]
    simp
theorem slt_asym : ∀ a b : List UInt8, slt a b = true → slt b a = false
  | _, [], h => by cases ‹List UInt8› <;> simp [slt, Go.Op.bytesLess] at h
  | [], b :: y, _ => rfl
  | a :: x, b :: y, h => by
    simp only [slt, Go.Op.bytesLess, Bool.or_eq_true, Bool.and_eq_true, decide_eq_true_eq, beq_iff_eq] at h
    simp only [slt, Go.Op.bytesLess, Bool.or_eq_false_iff, Bool.and_eq_false_iff, decide_eq_false_iff_not, beq_eq_false_iff_ne]
    rcases h with h | ⟨rfl, h⟩
    · exact ⟨fun h2 => by rw [UInt8.lt_iff_toNat_lt] at h h2; omega, .inl fun e => by subst e; rw [UInt8.lt_iff_toNat_lt] at h; omega⟩
    · exact ⟨fun h2 => by rw [UInt8.lt_iff_toNat_lt] at h2; omega, .inr (slt_asym x y h)⟩
theorem slt_tri : ∀ a b : List UInt8, slt a b = false → slt b a = false → a = b
  | [], [], _, _ => rfl
  | [], b :: y, h, _ => by simp [slt, Go.Op.bytesLess] at h
  | a :: x, [], _, h => by simp [slt, Go.Op.bytesLess] at h
  | a :: x, b :: y, h, h2 => by
    simp only [slt, Go.Op.bytesLess, Bool.or_eq_false_iff, Bool.and_eq_false_iff, decide_eq_false_iff_not, beq_eq_false_iff_ne] at h h2
    have e : a = b := by
      apply UInt8.toNat_inj.mp
      have h3 := h.1; have h4 := h2.1
      rw [UInt8.lt_iff_toNat_lt] at h3 h4
      omega
    subst e
    rcases h.2 with h3 | h3
    · exact absurd rfl h3
    · rcases h2.2 with h4 | h4
      · exact absurd rfl h4
      · rw [slt_tri x y h3 h4]
theorem sor_eq (a b : List UInt8) : (Go.Op.bytesLess a b || (a == b)) = !slt b a := by
  cases h : slt b a with
  | true =>
    have h1 := slt_asym _ _ h
    rw [show Go.Op.bytesLess a b = false from h1]
    have : (a == b) = false := by
      rw [beq_eq_false_iff_ne]; intro e; subst e; rw [slt_irr] at h; cases h
    rw [this]; rfl
  | false =>
    cases h2 : slt a b with
    | true => rw [show Go.Op.bytesLess a b = true from h2]; rfl
    | false => rw [slt_tri a b h2 h]; simp
section
variable {t : TypeId} {a b : List UInt8}
theorem lss_str : bin P .lss t (str a) (str b) = some (.bool (slt a b)) := by
  have e : binOp .lss t (str a) (str b) = .pure (.bool (slt a b)) := by
    show Op.stringOp .lss _ _ = _
    unfold Op.stringOp
    simp only [toList_str]
    rfl
  unfold bin
  rw [if_pos ⟨rfl, rfl, rfl⟩, e]
  rfl
theorem leq_str : bin P .leq t (str a) (str b) = some (.bool (!slt b a)) := by
  have e : binOp .leq t (str a) (str b) = .pure (.bool (!slt b a)) := by
    show Op.stringOp .leq _ _ = _
    unfold Op.stringOp
    simp only [toList_str]
    show Sem.pure _ = _
    congr 2
    exact sor_eq a b
  unfold bin
  rw [if_pos ⟨rfl, rfl, rfl⟩, e]
  rfl
theorem gtr_str : bin P .gtr t (str a) (str b) = some (.bool (slt b a)) := by
  have e : binOp .gtr t (str a) (str b) = .pure (.bool (slt b a)) := by
    show Op.stringOp .gtr _ _ = _
    unfold Op.stringOp
    simp only [toList_str]
    show Sem.pure _ = _
    congr 2
    rw [sor_eq a b, Bool.not_not]
  unfold bin
  rw [if_pos ⟨rfl, rfl, rfl⟩, e]
  rfl
theorem geq_str : bin P .geq t (str a) (str b) = some (.bool (!slt a b)) := by
  have e : binOp .geq t (str a) (str b) = .pure (.bool (!slt a b)) := by
    show Op.stringOp .geq _ _ = _
    unfold Op.stringOp
    simp only [toList_str]
    rfl
  unfold bin
  rw [if_pos ⟨rfl, rfl, rfl⟩, e]
  rfl
instance : PrimEq (bin P .lss t (str a) (str b)) (.bool (slt a b)) := ⟨lss_str⟩
instance : PrimEq (bin P .leq t (str a) (str b)) (.bool (!slt b a)) := ⟨leq_str⟩
instance : PrimEq (bin P .gtr t (str a) (str b)) (.bool (slt b a)) := ⟨gtr_str⟩
instance : PrimEq (bin P .geq t (str a) (str b)) (.bool (!slt a b)) := ⟨geq_str⟩
end
class FL (B : outParam AH) (v : Value) {α : outParam Type} (f : outParam (α → Value)) (l : outParam (List α)) : Prop where
  sc : ScN B v l.length 1 (l.map f)
class FT (B : AH) (v : Value) {α : outParam Type} (f : outParam (α → Value)) (l : outParam (List α)) : Prop where
  fl : FL B v f l
section
variable {α : Type} {f : α → Value} {l : List α} {B B0 H0 H : AH} {v w : Value} {t u e u' : TypeId} {z : Value} {sz by_ : Nat}
theorem FL.mono {B' : AH} (hm : Mo B B') (h : FL B v f l) : FL B' v f l := ⟨h.sc.mono hm⟩
instance [h : FL B0 v f l] [k : MoT B0 B] : FT B v f l := ⟨h.mono k.mo⟩
theorem FL.nil : FL B (.slice none 0 0) f [] := ⟨ScN.nil⟩
instance fl_cell [h : FL B v f l] : IsCell v := h.sc.cell
instance (priority := low) fl_len [hE : Elt P t e z sz] [h : FL B v f l] : PrimEq (lenV P t v) (i64 l.length) := ⟨h.sc.len hE.U⟩
theorem FL.one {b : Nat} {a : α} {L : List (Nat × Blk)} {kd : BK} (hS : St H0 B0 B L H) (hm : (b, ⟨[f a], e, kd⟩) ∈ L) : FL H (sl b 0 1 1) f [a] :=
  ⟨.inr ⟨b, 0, 1, rfl, Nat.le_refl _, rfl, .inr ⟨_, hS.get hm, rfl⟩⟩⟩
theorem Ev.ixF {g : Nat → Nat → Value → Option R} {Q : R → Prop} {k : IntKind} {i : Int} {a : α} [hE : Elt P t e z sz] [h : FL B v f l] (j : Nat) (hi : i = (j : Int)) (ha : l[j]? = some a)
    (hk : ∀ p, LdB P e p B (f a) → Ev (fun k n => g k n p) Q) : Ev (fun k' n => (ixA P t v (.int k i)).bind (g k' n)) Q :=
  Ev.ixN h.sc j hi (List.getElem?_eq_some_iff.mp ha).1 (by rw [List.getElem?_map, ha]; rfl) hk
theorem GAcc.fl {L : List (Nat × Blk)} {n : Nat} (h : GAcc e 1 H0 B0 B L H v n (l.map f)) : ∃ B', MoC B B' ∧ FL B' v f l ∧ St H0 B0 B' L H := by
  have hl := h.length
  rw [List.length_map, Nat.mul_one] at hl
  obtain ⟨B', h1, h2, h3⟩ := h.freeze
  exact ⟨B', h1, ⟨by rw [hl]; exact h2⟩, h3⟩
end
end Go.AM
set_option linter.unusedVariables false
set_option linter.unusedSimpArgs false
namespace Go.AM
variable {P : Program} {R : Type}
section
variable {B B0 H0 H : AH} {v : Value} {cs : List Value} {e : TypeId}
def GR (e : TypeId) (v : Value) (cs : List Value) (Lx : List (Nat × Blk)) : Prop :=
  (cs = [] ∧ (v = .slice none 0 0 ∨ ∃ b off, v = sl b off 0 0) ∧ Lx = []) ∨ (cs ≠ [] ∧ ∃ b kd cap, v = sl b 0 cs.length cap ∧ ((kd = .grow ∨ kd = .buf) ∧ cap ≠ 0 ∧ cs.length ≤ cap ∨ kd = .fix ∧ cap = cs.length) ∧ Lx = [(b, ⟨cs, e, kd⟩)])
theorem GR.nil : GR e (.slice none 0 0) [] [] := .inl ⟨rfl, .inl rfl, rfl⟩
theorem GR.cell {Lx : List (Nat × Blk)} (h : GR e v cs Lx) : IsCell v := by
  rcases h with ⟨_, rfl | ⟨b, off, rfl⟩, _⟩ | ⟨_, b, kd, cap, rfl, _, _⟩ <;> exact inferInstance
theorem GR.acc {L Lx : List (Nat × Blk)} (h : GR e v cs Lx) (hS : St H0 B0 B (Lx ++ L) H) : GAcc e 1 H0 B0 B L H v cs.length cs := by
  rcases h with ⟨rfl, hv, rfl⟩ | ⟨hne, b, kd, cap, hv, hk, rfl⟩
  · exact .inl ⟨rfl, rfl, hv, hS⟩
  · exact .inr ⟨fun h => hne (List.length_eq_zero_iff.mp h), by omega, b, kd, cap, hv, hk, hS⟩
theorem GAcc.gr {L : List (Nat × Blk)} {n : Nat} (h : GAcc e 1 H0 B0 B L H v n cs) : ∃ Lx, GR e v cs Lx ∧ St H0 B0 B (Lx ++ L) H := by
  rcases h with ⟨_, rfl, hv, hS⟩ | ⟨hn, hl, b, kd, cap, hv, hk, hS⟩
  · exact ⟨[], .inl ⟨rfl, hv, rfl⟩, hS⟩
  · rw [Nat.mul_one] at hl
    subst hl
    exact ⟨[(b, ⟨cs, e, kd⟩)], .inr ⟨fun h => hn (by rw [h]; rfl), b, kd, cap, hv, hk, rfl⟩, hS⟩
end
theorem St.flz {α : Type} {f : α → Value} {l : List α} {B B0 H0 H : AH} {L : List (Nat × Blk)} {b cap : Nat} {e : TypeId} {kd : BK} (hS : St H0 B0 B ((b, ⟨l.map f, e, kd⟩) :: L) H) (hc : l.length ≤ cap) : ∃ B', MoC B B' ∧ FL B' (sl b 0 l.length cap) f l ∧ St H0 B0 B' L H := by
  obtain ⟨B', h1, h2, h3⟩ := hS.freeze
  refine ⟨B', ⟨h1⟩, ⟨.inr ⟨b, 0, cap, rfl, hc, by simp, .inr ⟨_, h2, ?_⟩⟩⟩, h3⟩
  unfold rdN
  rw [if_pos (by simp), List.drop_zero, List.take_of_length_le (by simp)]
theorem min_i64 {a b : Nat} : fold1 minV [i64 a, i64 b] = some (i64 (min a b)) := by
  show some (Value.int .i64 (if (b : Int) < a then (b : Int) else a)) = _
  congr 2
  split <;> omega
end Go.AM
set_option linter.unusedVariables false
set_option linter.unusedSimpArgs false
namespace Go.AM
variable {P : Program} {R : Type}
theorem slc_own {t e : TypeId} {z : Value} {sz b m i : Nat} [hE : Elt P t e z sz] (h : i ≤ m) : slc P t (sl b 0 m m) (some (i64 i)) none = some (sl b (if m = i then 0 else i) (m - i) (m - i)) := by
  unfold slc sl
  rw [hE.U]; simp only [intOr, Option.bind_some]
  rw [if_pos ⟨hE.I, by omega, by omega, by omega⟩, hE.S]
  simp
end Go.AM
set_option linter.unusedVariables false
set_option linter.unusedSimpArgs false
namespace Go.AM
structure Dsk where
  n : Nat
  bytes : List UInt8
  cache : List (Nat × List UInt8)
  fuse : Int
  down : Bool
structure Dsk.OK (D : Dsk) : Prop where
  n1 : 1 ≤ D.n
  n2 : D.n ≤ 1024
  len : D.bytes.length = 64 * D.n
  ca : ∀ p ∈ D.cache, p.1 < D.n ∧ p.2.length = 64
  fu : -1 ≤ D.fuse ∧ D.fuse < 9223372036854775808
def layB (bs : List UInt8) (a : Nat) (s : List UInt8) : List UInt8 := bs.take (64 * a) ++ (s ++ bs.drop (64 * a + s.length))
def Dsk.sector (D : Dsk) (i : Nat) : List UInt8 := (D.bytes.drop (64 * i)).take 64
def Dsk.new (n : Nat) : Dsk := ⟨n, List.replicate (64 * n) 0, [], -1, false⟩
def Dsk.act (D : Dsk) (f : Dsk → Dsk) : Int × Dsk := if D.fuse = 0 then (7, { D with down := true }) else (0, f { D with fuse := max (D.fuse - 1) (-1) })
def Dsk.put (i : Nat) (s : List UInt8) (D : Dsk) : Dsk := { D with cache := D.cache ++ [(i, s)] }
def Dsk.write (D : Dsk) (i : Int) (s : List UInt8) : Int × Dsk :=
  if D.down = true then (7, D) else if i < 0 ∨ (D.n : Int) ≤ i ∨ s.length ≠ 64 then (1, D) else D.act (Dsk.put i.toNat s)
def find (l : List (Nat × List UInt8)) (i : Nat) : Option (List UInt8) := (l.reverse.find? fun p => p.1 == i).map (·.2)
def Dsk.look (D : Dsk) (i : Nat) : List UInt8 := (find D.cache i).getD (D.sector i)
def Dsk.read (D : Dsk) (i : Int) : List UInt8 × Int := if D.down = true then ([], 7) else if i < 0 ∨ (D.n : Int) ≤ i then ([], 1) else (D.look i.toNat, 0)
def layAll (l : List (Nat × List UInt8)) (bs : List UInt8) : List UInt8 := l.foldl (fun bs p => layB bs p.1 p.2) bs
def Dsk.flush (D : Dsk) : Dsk := { D with bytes := layAll D.cache D.bytes, cache := [] }
def Dsk.barrier (D : Dsk) : Int × Dsk := if D.down = true then (7, D) else D.act Dsk.flush
theorem layB_len {bs : List UInt8} {a : Nat} {s : List UInt8} (h : 64 * a + s.length ≤ bs.length) : (layB bs a s).length = bs.length := by
  unfold layB
  simp only [List.length_append, List.length_take, List.length_drop]
  omega
theorem layAll_len : ∀ (l : List (Nat × List UInt8)) (bs : List UInt8) (n : Nat), bs.length = 64 * n → (∀ p ∈ l, p.1 < n ∧ p.2.length = 64) → (layAll l bs).length = 64 * n
  | [], bs, n, h, _ => h
  | p :: l, bs, n, h, hp => by
    have h1 := hp p (by simp)
    exact layAll_len l (layB bs p.1 p.2) n (by rw [layB_len (by omega)]; exact h) fun q hq => hp q (by simp [hq])
theorem Dsk.ok_new {n : Nat} (h1 : 1 ≤ n) (h2 : n ≤ 1024) : (Dsk.new n).OK := ⟨h1, h2, by simp [Dsk.new], (fun p h => by cases h), by simp [Dsk.new]⟩
theorem Dsk.OK.actD {D : Dsk} (h : D.OK) : Dsk.OK { D with fuse := max (D.fuse - 1) (-1) } := ⟨h.n1, h.n2, h.len, h.ca, by have := h.fu; show -1 ≤ max (D.fuse - 1) (-1) ∧ max (D.fuse - 1) (-1) < _; omega⟩
theorem Dsk.OK.act {D : Dsk} (h : D.OK) {f : Dsk → Dsk} (hf : ∀ E : Dsk, E.n = D.n → E.bytes = D.bytes → E.cache = D.cache → E.OK → (f E).OK) : (D.act f).2.OK := by
  unfold Dsk.act
  split
  · exact ⟨h.n1, h.n2, h.len, h.ca, h.fu⟩
  · exact hf _ rfl rfl rfl h.actD
theorem Dsk.OK.put {D : Dsk} (h : D.OK) {i : Nat} {s : List UInt8} (hi : i < D.n) (hs : s.length = 64) : (D.put i s).OK := by
  refine ⟨h.n1, h.n2, h.len, fun p hp => ?_, h.fu⟩
  rcases List.mem_append.1 hp with hp | hp
  · exact h.ca p hp
  · simp at hp; subst hp; exact ⟨hi, hs⟩
theorem Dsk.OK.flush {D : Dsk} (h : D.OK) : D.flush.OK := ⟨h.n1, h.n2, layAll_len _ _ _ h.len h.ca, (fun p hp => by cases hp), h.fu⟩
theorem Dsk.OK.write {D : Dsk} (h : D.OK) (i : Int) (s : List UInt8) : (D.write i s).2.OK := by
  unfold Dsk.write
  split
  · exact h
  · split
    · exact h
    · rename_i hc
      have h1 : 0 ≤ i := by omega
      have h2 : i < D.n := by omega
      exact h.act fun E e1 _ _ hE => hE.put (by rw [e1]; omega) (by omega)
theorem Dsk.OK.barrier {D : Dsk} (h : D.OK) : D.barrier.2.OK := by
  unfold Dsk.barrier
  split
  · exact h
  · exact h.act fun E _ _ _ hE => hE.flush
instance (priority := high) {R : Type} {x : Nat → Nat → Option R} {p : Prop} : Step (fun k n => aChk (Value.bool true = .bool false → p) (x k n)) x := ⟨fun h2 => Ev.chk (fun h => by cases h) h2⟩
instance (priority := high) {R α : Type} {x : Nat → Nat → Option R} {b : Bool} {E : Option α} {v : α} [h : PrimEq E v] : Step (fun k n => aChk (Value.bool b = .bool b → E = some v) (x k n)) x := ⟨fun h2 => Ev.chk (fun _ => h.eq) h2⟩
theorem perm22 {α : Type} (a b c d : α) : [a, b, c, d].Perm [c, d, a, b] := List.perm_append_comm (l₁ := [a, b]) (l₂ := [c, d])
theorem b2_id (x : Option (Value × AH)) : (b2 x fun v h => some (v, h)) = x := by
  cases x <;> rfl
instance {P : Program} {t e : TypeId} {d o : Nat} [h : Und P t (.pointer e)] : PrimEq (bin P .eql t (ptr d o) (.pointer none)) (.bool false) := ⟨by
  unfold bin ptr
  rw [if_neg (by simp [flat1])]
  simp only [h.eq, Option.bind_some, nilEq]
  rfl⟩
instance {P : Program} {t e : TypeId} {d o : Nat} [h : Und P t (.pointer e)] : PrimEq (bin P .neq t (ptr d o) (.pointer none)) (.bool true) := ⟨by
  unfold bin ptr
  rw [if_neg (by simp [flat1])]
  simp only [h.eq, Option.bind_some, nilEq]
  rfl⟩
theorem max_int {k : IntKind} {a b : Int} : fold1 maxV [.int k a, .int k b] = some (.int k (max a b)) := by
  show some (Value.int k (if b > a then b else a)) = _
  congr 2
  omega
theorem min_int {k : IntKind} {a b : Int} : fold1 minV [.int k a, .int k b] = some (.int k (min a b)) := by
  show some (Value.int k (if b < a then b else a)) = _
  congr 2
  omega
instance (priority := low) {k : IntKind} {a b : Int} : PrimEq (fold1 maxV [.int k a, .int k b]) (.int k (max a b)) := ⟨max_int⟩
instance (priority := low) {k : IntKind} {a b : Int} : PrimEq (fold1 minV [.int k a, .int k b]) (.int k (min a b)) := ⟨min_int⟩
section
variable {P : Program} {R : Type} {H0 B0 B H : AH} {L L' : List (Nat × Blk)}
theorem Ev.setSt {b c d : Nat} {T : List Value} {el : TypeId} {f key : Nat} {g : Nat → Nat → AH → Option R} {Q : R → Prop} (hS : St H0 B0 B L H) (hm : (b, ⟨.int .i64 (c : Int) :: T, el, .loop f key⟩) ∈ L)
    (hu : Upd b ⟨.int .i64 (c : Int) :: T, el, .loop f key⟩ ⟨.int .i64 (d : Int) :: T, el, .loop f key⟩ L L') (h : ∀ H', St H0 B0 B L' H' → Ev (fun k n => g k n H') Q) : Ev (fun k n => (AM.setSt H b c d).bind (g k n)) Q := by
  refine Ev.prim ?_ (h _ (hS.put (cs := .int .i64 (d : Int) :: T) hu))
  unfold AM.setSt
  rw [hS.get hm]
  simp only [Option.bind_some, if_true]
theorem Ev.rgBack {b : Nat} {e : EX} {T : List Value} {el : TypeId} {f key : Nat} {K : Nat → Nat → EX → AH → Option R} {Q : R → Prop} (hS : St H0 B0 B ((b, ⟨.int .i64 (xSt e : Nat) :: T, el, .loop f key⟩) :: L) H)
    (h : ∀ H', St H0 B0 B L H' → Ev (fun k n => K k n e H') Q) : Ev (fun k n => AM.rgBack b H (K k n)) Q := by
  refine Ev.eq (fun k n => ?_) (h _ hS.kill)
  unfold AM.rgBack getSt
  rw [hS.get (.head _)]
  simp only [Option.bind_some]
  cases e <;> rfl
end
theorem take_ex {α : Type} {l : List α} {m : Nat} (h : m < l.length) : ∃ x, l[m]? = some x ∧ l.take (m + 1) = l.take m ++ [x] := by
  refine ⟨l[m], List.getElem?_eq_getElem h, ?_⟩
  rw [List.take_add_one, List.getElem?_eq_getElem h]
  rfl
theorem find_snoc (l : List (Nat × List UInt8)) (a : Nat) (s : List UInt8) (i : Nat) : find (l ++ [(a, s)]) i = if a = i then some s else find l i := by
  unfold find
  simp only [List.reverse_append, List.reverse_cons, List.reverse_nil, List.nil_append, List.cons_append, List.find?_cons]
  by_cases h : a = i
  · simp [h]
  · rw [if_neg h, show (a == i) = false by simpa using h]
variable {P : Program} {R : Type} {H0 B0 B H : AH} {L : List (Nat × Blk)}
def GRS (e : TypeId) (sz : Nat) (v : Value) (n : Nat) (cs : List Value) (Lx : List (Nat × Blk)) : Prop :=
  (n = 0 ∧ cs = [] ∧ (v = .slice none 0 0 ∨ ∃ b off, v = sl b off 0 0) ∧ Lx = []) ∨
  (n ≠ 0 ∧ cs.length = n * sz ∧ ∃ b kd cap, v = sl b 0 n cap ∧ ((kd = .grow ∨ kd = .buf) ∧ cap ≠ 0 ∧ n ≤ cap ∨ kd = .fix ∧ cap = n) ∧ Lx = [(b, ⟨cs, e, kd⟩)])
section
variable {e : TypeId} {sz n : Nat} {v : Value} {cs : List Value} {Lx : List (Nat × Blk)}
theorem GRS.nil : GRS e sz (.slice none 0 0) 0 [] [] := .inl ⟨rfl, rfl, .inl rfl, rfl⟩
theorem GRS.cell (h : GRS e sz v n cs Lx) : IsCell v := by
  rcases h with ⟨_, _, rfl | ⟨b, off, rfl⟩, _⟩ | ⟨_, _, b, kd, cap, rfl, _, _⟩ <;> exact inferInstance
theorem GRS.len {t e' : TypeId} (hU : P.underlying t = some (.slice e')) (h : GRS e sz v n cs Lx) : lenV P t v = some (i64 n) := by
  rcases h with ⟨rfl, _, rfl | ⟨b, off, rfl⟩, _⟩ | ⟨_, _, b, kd, cap, rfl, _⟩ <;> exact lenV_sl hU
theorem GRS.length (h : GRS e sz v n cs Lx) : cs.length = n * sz := by
  rcases h with ⟨rfl, rfl, _⟩ | ⟨_, h, _⟩
  · simp
  · exact h
theorem GRS.acc (h : GRS e sz v n cs Lx) (hS : St H0 B0 B (Lx ++ L) H) : GAcc e sz H0 B0 B L H v n cs := by
  rcases h with ⟨rfl, rfl, hv, rfl⟩ | ⟨hne, hl, b, kd, cap, hv, hk, rfl⟩
  · exact .inl ⟨rfl, rfl, hv, hS⟩
  · exact .inr ⟨hne, hl, b, kd, cap, hv, hk, hS⟩
theorem GAcc.grs (h : GAcc e sz H0 B0 B L H v n cs) : ∃ Lx, GRS e sz v n cs Lx ∧ St H0 B0 B (Lx ++ L) H := by
  rcases h with ⟨h1, h2, hv, hS⟩ | ⟨hn, hl, b, kd, cap, hv, hk, hS⟩
  · exact ⟨[], .inl ⟨h1, h2, hv, rfl⟩, hS⟩
  · exact ⟨[(b, ⟨cs, e, kd⟩)], .inr ⟨hn, hl, b, kd, cap, hv, hk, rfl⟩, hS⟩
/-- What it holds, wherever its block stands among ours. -/
theorem GRS.now {Ly : List (Nat × Blk)} (h : GRS e sz v n cs Lx) (hS : St H0 B0 B Ly H) (hsub : ∀ p ∈ Lx, p ∈ Ly) : ScN H v n sz cs := by
  rcases h with ⟨rfl, rfl, rfl | ⟨b, off, rfl⟩, _⟩ | ⟨hn, hl, b, kd, cap, rfl, hk, rfl⟩
  · exact .inl ⟨rfl, rfl, rfl⟩
  · exact .inr ⟨b, off, 0, rfl, Nat.le_refl _, by simp, .inl rfl⟩
  · refine .inr ⟨b, 0, cap, rfl, by rcases hk with ⟨_, _, h⟩ | ⟨_, h⟩ <;> omega, hl, .inr ⟨⟨cs, e, kd⟩, hS.get (hsub _ (by simp)), ?_⟩⟩
    unfold rdN
    rw [if_pos (by simp only; omega), List.drop_zero, List.take_of_length_le (by simp only; omega)]
end
/-- A row's element, read where it stands. -/
theorem ScN.ldAt {P : Program} {t e : TypeId} {z : List Value} {sz by_ : Nat} [hE : EltS P t e z sz by_] {H : AH} {v : Value} {n i : Nat} {cs : List Value} {k : IntKind} (h : ScN H v n sz cs) (hi : i < n) (ha : aggT P e = some true) :
    ∃ p, ixA P t v (.int k (i : Int)) = some p ∧ ld P e H p = some (.agg ((cs.drop (i * sz)).take sz).toArray) := by
  rcases h with ⟨_, h, _⟩ | ⟨b, off, cap, rfl, hc, hl, h⟩
  · omega
  · rcases h with h | ⟨K, h1, h2⟩
    · omega
    refine ⟨ptr b (off + i * sz), ?_, ?_⟩
    · unfold ixA sl
      rw [hE.U]
      simp only
      rw [if_pos ⟨hE.I, by omega, by omega⟩, hE.S]
      simp
    · unfold AM.ld ldA AM.ptr
      rw [ha]
      simp only
      rw [h1, Option.bind_some, hE.S]
      obtain ⟨h3, h4⟩ := rdN_some h2
      have hle : i * sz + sz ≤ n * sz := by rw [← Nat.succ_mul]; exact Nat.mul_le_mul_right _ hi
      unfold rdN
      rw [if_pos (by omega), Option.map_some]
      congr 2
      conv => rhs; rw [h4]
      rw [List.drop_take, List.take_take, List.drop_drop, Nat.min_eq_left (by omega)]
def caCells (l : List (Nat × List UInt8)) : List Value := l.flatMap fun p => [i64 p.1, str p.2]
theorem caCells_at {l : List (Nat × List UInt8)} {i a : Nat} {s : List UInt8} (h : l[i]? = some (a, s)) : ((caCells l).drop (i * 2)).take 2 = [i64 a, str s] := by
  induction l generalizing i with
  | nil => simp at h
  | cons p l ih =>
    cases i with
    | zero => simp at h; subst h; rfl
    | succ i =>
      rw [show (i + 1) * 2 = (i * 2 + 1) + 1 by omega]
      exact ih (by simpa using h)
theorem lay_at {l : List (Nat × List UInt8)} {i a : Nat} {s bs : List UInt8} (h : l[i]? = some (a, s)) : layAll (l.take (i + 1)) bs = layB (layAll (l.take i) bs) a s := by
  unfold layAll
  rw [List.take_add_one, h]
  simp
abbrev byts (l : List UInt8) : List Value := (l.map UInt8.toNat).map u8
theorem byts_len (l : List UInt8) : (byts l).length = l.length := by simp
def IsDisk (tD tB tW : TypeId) (p : Value) (D : Dsk) (Ls : List (Nat × Blk)) : Prop :=
  ∃ d bb cv Lc, p = ptr d 0 ∧ GRS tW 2 cv D.cache.length (caCells D.cache) Lc ∧
    Ls = (d, ⟨[sl bb 0 (64 * D.n) (64 * D.n), cv, .int .i64 D.fuse, .bool D.down], tD, .fix⟩) :: (bb, ⟨byts D.bytes, tB, .fix⟩) :: Lc
section
variable {t u e : TypeId} {z : Value} {sz : Nat}
theorem byts_back (l : List UInt8) : (l.map UInt8.toNat).map (fun n => UInt8.ofNat n) = l := by
  rw [List.map_map]
  conv => rhs; rw [← List.map_id l]
  exact List.map_congr_left fun x _ => by simp
theorem all_byts (l : List UInt8) : (byts l).all isCell = true := by simp [isCell]
theorem byts_take (l : List UInt8) (n : Nat) : byts (l.take n) = (byts l).take n := by simp [List.map_take]
theorem byts_drop (l : List UInt8) (n : Nat) : byts (l.drop n) = (byts l).drop n := by simp [List.map_drop]
theorem byts_app (a b : List UInt8) : byts (a ++ b) = byts a ++ byts b := by simp
theorem byts_rep (n : Nat) : byts (List.replicate n 0) = List.replicate n (.int .u8 0) := by simp
theorem byts_lay (bs s : List UInt8) (a : Nat) : byts (layB bs a s) = spl (byts bs) (64 * a) (byts s) := by
  unfold layB spl
  rw [byts_app, byts_app, byts_take, byts_drop, byts_len]
theorem cellsOf_str (l : List UInt8) : cellsOfBytes ⟨l.toArray⟩ = byts l := by
  unfold cellsOfBytes
  simp
theorem upd_same_list {b : Nat} {K : Blk} {L L' : List (Nat × Blk)} (h : Upd b K K L L') : L' = L := by
  generalize hK : K = K' at h
  induction h with
  | head => rw [← hK]
  | tail x _ ih => rw [ih]
/-- A string's bytes into a row of ours. -/
theorem Ev.cpyStr {L L' : List (Nat × Blk)} {b off n cap : Nat} {cs : List Value} {kd : BK} {l : List UInt8} {g : Nat → Nat → Value → AH → Option R} {Q : R → Prop} [hE : Elt P t e z sz] (hS : St H0 B0 B L H) (hm : (b, ⟨cs, e, kd⟩) ∈ L)
    (hn : l.length ≤ n) (ho : off + l.length ≤ cs.length) (hk : kd.wr = true) (hu : Upd b ⟨cs, e, kd⟩ ⟨spl cs off (byts l), e, kd⟩ L L') (hq : ∀ H', St H0 B0 B L' H' → Ev (fun k m => g k m (i64 l.length) H') Q) :
    Ev (fun k m => Go.AM.b2 (Go.AM.cpy P t H (sl b off n cap) (str l)) (g k m)) Q := by
  have hmin : min l.length n = l.length := Nat.min_eq_left hn
  have e1 : sliceCells 1 H (str l) l.length = some (byts l) := by
    show (if l.length ≤ l.length then some ((cellsOfBytes ⟨l.toArray⟩).take l.length) else none) = _
    rw [if_pos (Nat.le_refl _), cellsOf_str, List.take_of_length_le (by rw [byts_len]; exact Nat.le_refl _)]
  have e2 : lenOf (str l) = some l.length := rfl
  by_cases h0 : l.length = 0
  · have : l = [] := List.length_eq_zero_iff.mp h0
    subst this
    have hsp : spl cs off (byts []) = cs := by simp [spl]
    rw [hsp] at hu
    have hLL := upd_same_list hu
    subst hLL
    refine Ev.prim2 ?_ (hq H hS)
    unfold Go.AM.cpy sl
    rw [hE.U]; simp only
    rw [hE.I, if_neg (by simp), e2, Option.bind_some, hmin, hE.S, e1, Option.bind_some, if_pos h0]; rfl
  · refine Ev.prim2 ?_ (hq _ (hS.put (cs := spl cs off (byts l)) hu))
    unfold Go.AM.cpy sl
    rw [hE.U]; simp only
    rw [hE.I, if_neg (by simp), e2, Option.bind_some, hmin, hE.S, e1, Option.bind_some, if_neg h0, hS.get hm, Option.bind_some]
    simp only
    rw [if_pos ⟨hk, by rw [byts_len]; omega, all_byts l⟩]
theorem slc_own2 [hE : Elt P t e z sz] {b m i j : Nat} (h : i ≤ j ∧ j ≤ m) : slc P t (sl b 0 m m) (some (i64 i)) (some (i64 j)) = some (sl b (if m = i then 0 else i) (j - i) (m - i)) := by
  unfold slc sl
  rw [hE.U]; simp only [intOr, Option.bind_some]
  rw [if_pos ⟨hE.I, by omega, by omega, by omega⟩, hE.S]
  simp
/-- A part of a row of bytes of ours, as a string. -/
theorem cvS_part {d : TypeId} [h1 : Und P t (.slice e)] [h2 : Und P d .string] [h3 : Und P e (.int .u8)] {L : List (Nat × Blk)} {b off n cap : Nat} {bs : List UInt8} {kd : BK} (hS : St H0 B0 B L H) (hm : (b, ⟨byts bs, e, kd⟩) ∈ L) (hn : n ≤ cap) (ho : off + n ≤ bs.length) :
    cvS P t d H (sl b off n cap) = some (str ((bs.drop off).take n)) := by
  have h : ScN H (sl b off n cap) n 1 ((((bs.drop off).take n).map UInt8.toNat).map u8) := by
    refine .inr ⟨b, off, cap, rfl, hn, by simp; omega, .inr ⟨_, hS.get hm, ?_⟩⟩
    unfold rdN
    rw [if_pos (by simp only [byts_len]; omega), Nat.mul_one]
    show some ((byts bs).drop off |>.take n) = some (byts ((bs.drop off).take n))
    rw [byts_take, byts_drop]
  have := h.cvS (P := P) (t := t) (d := d)
  rwa [byts_back] at this
end
end Go.AM
set_option linter.unusedVariables false
set_option linter.unusedSimpArgs false
namespace Go.AM
def sec (bs : List UInt8) (j : Nat) : List UInt8 := (bs.drop (64 * j)).take 64
theorem sec_len {bs : List UInt8} {j n : Nat} (h : bs.length = 64 * n) (hj : j < n) : (sec bs j).length = 64 := by
  unfold sec; rw [List.length_take, List.length_drop]; omega
theorem sec_lay {bs s : List UInt8} {a j n : Nat} (h : bs.length = 64 * n) (ha : a < n) (hs : s.length ≤ 64) : sec (layB bs a s) j = if a = j then s ++ (sec bs j).drop s.length else sec bs j := by
  unfold sec layB
  apply List.ext_getElem?
  intro i
  split
  · rename_i he
    subst he
    simp only [List.getElem?_take, List.getElem?_drop, List.getElem?_append, List.length_take, List.length_drop]
    by_cases h1 : i < 64
    · rw [if_pos h1, if_neg (by omega)]
      by_cases h2 : i < s.length
      · rw [if_pos (by omega), if_pos h2]
        congr 1
        omega
      · rw [if_neg (by omega), if_neg h2, if_pos (by omega)]
        congr 1
        omega
    · rw [if_neg h1, if_neg (by omega), if_neg (by omega)]
  · rename_i he
    simp only [List.getElem?_take, List.getElem?_drop, List.getElem?_append, List.length_take, List.length_drop]
    by_cases h1 : i < 64
    · rw [if_pos h1, if_pos h1]
      by_cases h2 : j < a
      · rw [if_pos (by omega), if_pos (by omega)]
      · rw [if_neg (by omega), if_neg (by omega)]
        congr 1
        omega
    · rw [if_neg h1, if_neg h1]
theorem sec_lay64 {bs s : List UInt8} {a j n : Nat} (h : bs.length = 64 * n) (ha : a < n) (hs : s.length = 64) (hj : j < n) : sec (layB bs a s) j = if a = j then s else sec bs j := by
  rw [sec_lay h ha (by omega)]
  split
  · rw [List.drop_of_length_le (by rw [sec_len h hj]; omega), List.append_nil]
  · rfl
theorem layAll_snoc (l : List (Nat × List UInt8)) (p : Nat × List UInt8) (bs : List UInt8) : layAll (l ++ [p]) bs = layB (layAll l bs) p.1 p.2 := by
  unfold layAll; simp
theorem sec_layAll {n j : Nat} (hj : j < n) : ∀ (m : Nat) (l : List (Nat × List UInt8)) (bs : List UInt8), l.length = m → bs.length = 64 * n → (∀ p ∈ l, p.1 < n ∧ p.2.length = 64) → sec (layAll l bs) j = (find l j).getD (sec bs j)
  | 0, l, bs, hm, h, _ => by
    have : l = [] := List.length_eq_zero_iff.1 hm
    subst this
    rfl
  | m + 1, l, bs, hm, h, hp => by
    obtain ⟨⟨a, s⟩, hx, htk⟩ := take_ex (l := l) (m := m) (by omega)
    rw [List.take_of_length_le (by omega)] at htk
    have h1 := hp (a, s) (List.mem_of_getElem? hx)
    have ih := sec_layAll hj m (l.take m) bs (by rw [List.length_take]; omega) h fun p hp' => hp p (List.mem_of_mem_take hp')
    rw [htk, layAll_snoc, find_snoc]
    dsimp only at h1 ⊢
    rw [sec_lay64 (layAll_len _ _ n h fun p hp' => hp p (List.mem_of_mem_take hp')) h1.1 h1.2 hj, ih]
    split <;> rfl
theorem look_flush {D : Dsk} (h : D.OK) {j : Nat} (hj : j < D.n) : D.flush.look j = D.look j := sec_layAll hj _ D.cache D.bytes rfl h.len h.ca
theorem look_put {D : Dsk} {a j : Nat} {s : List UInt8} : (D.put a s).look j = if a = j then s else D.look j := by
  unfold Dsk.look Dsk.put Dsk.sector
  dsimp only
  rw [find_snoc]
  split <;> rfl
theorem look_len {D : Dsk} (h : D.OK) {j : Nat} (hj : j < D.n) : (D.look j).length = 64 := by
  rw [← look_flush h hj]
  exact sec_len (layAll_len _ _ _ h.len h.ca) hj
/-- A disk whose power is there, and whose fuse is none. -/
structure Dsk.Up (D : Dsk) (n : Nat) : Prop where
  ok : D.OK
  n : D.n = n
  fu : D.fuse = -1
  dn : D.down = false
theorem Dsk.up_new {n : Nat} (h1 : 1 ≤ n) (h2 : n ≤ 1024) : (Dsk.new n).Up n := ⟨Dsk.ok_new h1 h2, rfl, rfl, rfl⟩
theorem Dsk.Up.write {D : Dsk} {n i : Nat} {s : List UInt8} (h : D.Up n) (hi : i < n) (hs : s.length = 64) : D.write (i : Int) s = (0, D.put i s) := by
  obtain ⟨n', bytes, cache, fu, dn⟩ := D
  obtain ⟨h1, h2, h3, h4⟩ := h
  dsimp only at h2 h3 h4
  subst h2 h3 h4
  unfold Dsk.write Dsk.act Dsk.put
  dsimp only
  rw [if_neg (by decide), if_neg (by omega), if_neg (by decide)]
  simp
  rfl
theorem Dsk.Up.put {D : Dsk} {n i : Nat} {s : List UInt8} (h : D.Up n) (hi : i < n) (hs : s.length = 64) : (D.put i s).Up n := ⟨h.ok.put (by rw [h.n]; exact hi) hs, h.n, h.fu, h.dn⟩
theorem Dsk.Up.barrier {D : Dsk} {n : Nat} (h : D.Up n) : D.barrier = (0, D.flush) := by
  obtain ⟨n', bytes, cache, fu, dn⟩ := D
  obtain ⟨h1, h2, h3, h4⟩ := h
  dsimp only at h2 h3 h4
  subst h2 h3 h4
  unfold Dsk.barrier Dsk.act
  dsimp only
  rw [if_neg (by decide), if_neg (by decide)]
  rfl
theorem Dsk.Up.flush {D : Dsk} {n : Nat} (h : D.Up n) : D.flush.Up n := ⟨h.ok.flush, h.n, h.fu, h.dn⟩
theorem Dsk.Up.read {D : Dsk} {n i : Nat} (h : D.Up n) (hi : i < n) : D.read (i : Int) = (D.look i, 0) := by
  unfold Dsk.read
  rw [if_neg (by rw [h.dn]; decide), if_neg (by rw [h.n]; omega), Int.toNat_natCast]
end Go.AM
set_option linter.unusedVariables false
set_option linter.unusedSimpArgs false
namespace Go.AM
def Dsk.pwrite (D : Dsk) (n kind : Int) (t : List UInt8) : Int × Dsk :=
  if (sealR kind t).2 ≠ 0 ∨ n < 0 ∨ n > 1048576 then (1, D)
  else if (D.write (2 * n) ((sealR kind t).1.take 64)).1 ≠ 0 then D.write (2 * n) ((sealR kind t).1.take 64)
  else (D.write (2 * n) ((sealR kind t).1.take 64)).2.write (2 * n + 1) ((sealR kind t).1.drop 64)
def Dsk.pread (D : Dsk) (n : Int) : Int × List UInt8 × Int :=
  if n < 0 ∨ n > 1048576 then (0, [], 1) else if (D.read (2 * n)).2 ≠ 0 then (0, [], (D.read (2 * n)).2)
  else if (D.read (2 * n + 1)).2 ≠ 0 then (0, [], (D.read (2 * n + 1)).2) else openR ((D.read (2 * n)).1 ++ (D.read (2 * n + 1)).1)
theorem read_len {D : Dsk} (h : D.OK) (i : Int) : (D.read i).1.length ≤ 64 := by
  unfold Dsk.read
  split
  · exact Nat.zero_le _
  · split
    · exact Nat.zero_le _
    · exact Nat.le_of_eq (look_len h (by omega))
theorem write_cache (D : Dsk) (i : Int) (s : List UInt8) : (D.write i s).2.cache.length ≤ D.cache.length + 1 := by
  unfold Dsk.write
  split
  · exact Nat.le_succ _
  · split
    · exact Nat.le_succ _
    · unfold Dsk.act
      split
      · exact Nat.le_succ _
      · show (D.cache ++ [_]).length ≤ _
        rw [List.length_append]; exact Nat.le_refl _
theorem pwrite_ok {D : Dsk} (h : D.OK) (n kind : Int) (t : List UInt8) : (D.pwrite n kind t).2.OK := by
  unfold Dsk.pwrite
  split
  · exact h
  · split
    · exact h.write _ _
    · exact (h.write _ _).write _ _
theorem pwrite_cache (D : Dsk) (n kind : Int) (t : List UInt8) : (D.pwrite n kind t).2.cache.length ≤ D.cache.length + 2 := by
  unfold Dsk.pwrite
  split
  · exact Nat.le_add_right _ _
  · split
    · exact Nat.le_succ_of_le (write_cache _ _ _)
    · have h1 := write_cache D (2 * n) ((sealR kind t).1.take 64)
      have h2 := write_cache (D.write (2 * n) ((sealR kind t).1.take 64)).2 (2 * n + 1) ((sealR kind t).1.drop 64)
      omega
/-- On a disk whose power is there. -/
theorem Dsk.Up.pwrite {D : Dsk} {m n k : Nat} {t : List UInt8} (h : D.Up (2 * m)) (hn : n < m) (hm : m ≤ 1048576) (hk : 1 ≤ k) (hk9 : k ≤ 9) (ht : t.length ≤ 120) :
    D.pwrite (n : Int) (k : Int) t = (0, (D.put (2 * n) ((sealL k t).take 64)).put (2 * n + 1) ((sealL k t).drop 64)) := by
  have h1 : ((sealL k t).take 64).length = 64 := by rw [List.length_take, seal_len ht]; rfl
  have h2 : ((sealL k t).drop 64).length = 64 := by rw [List.length_drop, seal_len ht]
  unfold Dsk.pwrite
  rw [sealR_nat hk hk9 ht, if_neg (by dsimp only; omega)]
  dsimp only
  rw [show (2 : Int) * (n : Int) = ((2 * n : Nat) : Int) by omega, h.write (by omega) h1, if_neg (by simp)]
  rw [show ((2 * n : Nat) : Int) + 1 = ((2 * n + 1 : Nat) : Int) by omega]
  exact (h.put (by omega) h1).write (by omega) h2
theorem Dsk.Up.pput {D : Dsk} {m n k : Nat} {t : List UInt8} (h : D.Up (2 * m)) (hn : n < m) (ht : t.length ≤ 120) : ((D.put (2 * n) ((sealL k t).take 64)).put (2 * n + 1) ((sealL k t).drop 64)).Up (2 * m) :=
  (h.put (by omega) (by rw [List.length_take, seal_len ht]; rfl)).put (by omega) (by rw [List.length_drop, seal_len ht])
theorem Dsk.Up.pread {D : Dsk} {m n : Nat} (h : D.Up (2 * m)) (hn : n < m) (hm : m ≤ 1048576) : D.pread (n : Int) = openR (D.look (2 * n) ++ D.look (2 * n + 1)) := by
  unfold Dsk.pread
  rw [if_neg (by omega), show (2 : Int) * (n : Int) = ((2 * n : Nat) : Int) by omega, h.read (by omega), if_neg (by simp),
    show ((2 * n : Nat) : Int) + 1 = ((2 * n + 1 : Nat) : Int) by omega, h.read (by omega), if_neg (by simp)]
end Go.AM
set_option linter.unusedVariables false
set_option linter.unusedSimpArgs false
namespace Go.AM
theorem Ev.mkMap {P : Program} {R : Type} {t : TypeId} {B0 H0 B H : AH} {L : List (Nat × Blk)} {f : Nat → Nat → Value → AH → Option R} {Q : R → Prop} (hS : St H0 B0 B L H)
    (h : ∀ b H', St H0 B0 B ((b, ⟨[], t, .map⟩) :: L) H' → Ev (fun k n => f k n (.map (some b)) H') Q) : Ev (fun k n => Go.AM.b2 (mkM t H) (f k n)) Q :=
  Ev.prim2 rfl (h H.length _ (hS.mkB' [] t .map))
end Go.AM
set_option linter.unusedVariables false
set_option linter.unusedSimpArgs false
namespace Go.AM
def insI (S : List Int) (x : Int) : List Int := if x ∈ S then S else S ++ [x]
def entI : List Int → List Value
  | [] => []
  | k :: r => .int .i64 k :: .bool true :: entI r
theorem entI_snoc : ∀ (S : List Int) (x : Int), entI (S ++ [x]) = entI S ++ [.int .i64 x, .bool true]
  | [], x => rfl
  | k :: r, x => by simp only [List.cons_append, entI, entI_snoc r]
theorem keyAt_entI : ∀ (S : List Int) (x : Int), (x ∉ S ∧ keyAt (.int .i64) (.int .i64 x) (entI S) = some none) ∨ (x ∈ S ∧ ∃ i, keyAt (.int .i64) (.int .i64 x) (entI S) = some (some i) ∧ (entI S)[i + 1]? = some (.bool true))
  | [], x => .inl ⟨by simp, rfl⟩
  | k :: r, x => by
    have e : keyAt (.int .i64) (.int .i64 x) (entI (k :: r)) = (keyAt (.int .i64) (.int .i64 x) (entI r)).map fun o => bif decide (x = k) then some 0 else o.map (· + 2) := rfl
    by_cases h : x = k
    · right
      refine ⟨by rw [h]; exact .head _, 0, ?_, rfl⟩
      rw [e, decide_eq_true h]
      rcases keyAt_entI r x with ⟨_, h2⟩ | ⟨_, i, h2, _⟩ <;> rw [h2] <;> rfl
    · rw [decide_eq_false h] at e
      rcases keyAt_entI r x with ⟨h1, h2⟩ | ⟨h1, i, h2, h3⟩
      · left
        refine ⟨by simp [h, h1], ?_⟩
        rw [e, h2]; rfl
      · right
        refine ⟨.tail _ h1, i + 2, ?_, h3⟩
        rw [e, h2]; rfl
section
variable {P : Program} {R : Type} {t kt et : TypeId} {B0 H0 B H : AH} {L L' : List (Nat × Blk)} {b : Nat} {S : List Int} {x : Int}
theorem Ev.mpTrueI {f : Nat → Nat → AH → Option R} {Q : R → Prop}
    (hU : P.underlying t = some (.map kt et)) (hK : P.underlying kt = some (.int .i64)) (hS : St H0 B0 B L H) (hu : Upd b ⟨entI S, t, .map⟩ ⟨entI (insI S x), t, .map⟩ L L') (hm : (b, ⟨entI S, t, .map⟩) ∈ L)
    (h : ∀ H', St H0 B0 B L' H' → Ev (fun k n => f k n H') Q) : Ev (fun k n => (mpU P t H (.map (some b)) (.int .i64 x) (.bool true)).bind (f k n)) Q := by
  have hb := hS.get hm
  have e : mpU P t H (.map (some b)) (.int .i64 x) (.bool true) = (keyAt (.int .i64) (.int .i64 x) (entI S)).map fun o => match o with
        | some i => put H b ⟨entI S, t, .map⟩ ((entI S).set (i + 1) (.bool true))
        | none => put H b ⟨entI S, t, .map⟩ (entI S ++ [.int .i64 x, .bool true]) := by
    unfold mpU mapB
    rw [hU]
    dsimp only
    rw [hK, Option.bind_some, hb, Option.bind_some, if_pos rfl, Option.bind_some, if_pos ⟨rfl, rfl⟩]
    rfl
  rcases keyAt_entI S x with ⟨h1, h2⟩ | ⟨h1, i, h2, h3⟩
  · rw [h2] at e
    refine Ev.prim e (h _ ?_)
    have e2 : insI S x = S ++ [x] := if_neg h1
    rw [e2, entI_snoc] at hu
    exact hS.put (cs := entI S ++ [.int .i64 x, .bool true]) hu
  · rw [h2] at e
    refine Ev.prim e (h _ ?_)
    have e1 : insI S x = S := if_pos h1
    rw [e1] at hu
    have e2 : (entI S).set (i + 1) (.bool true) = entI S := by
      apply List.ext_getElem?
      intro j
      rw [List.getElem?_set]
      split
      · rename_i hj
        subst hj
        rw [h3]
        have := (List.getElem?_eq_some_iff.1 h3).1
        rw [if_pos this]
      · rfl
    show St H0 B0 B _ (put H b ⟨entI S, t, .map⟩ ((entI S).set (i + 1) (.bool true)))
    rw [e2]
    exact hS.put (cs := entI S) hu
theorem lkI (hU : P.underlying t = some (.map kt et)) (hK : P.underlying kt = some (.int .i64)) (hz : zeroT P et = some (.bool false)) (hS : St H0 B0 B L H) (hm : (b, ⟨entI S, t, .map⟩) ∈ L) :
    lkU P t H (.map (some b)) (.int .i64 x) false = some (.bool (decide (x ∈ S))) := by
  unfold lkU mapCells mapB
  rw [hU]
  dsimp only
  rw [hK, Option.bind_some, hS.get hm, Option.bind_some, if_pos rfl, Option.map_some, Option.bind_some, if_pos (show keyOK (.int .i64) (.int .i64 x) = true from rfl)]
  dsimp only
  rcases keyAt_entI S x with ⟨h1, h2⟩ | ⟨h1, i, h2, h3⟩
  · rw [h2, Option.bind_some]
    dsimp only
    rw [hz, Option.map_some, decide_eq_false h1]; rfl
  · rw [h2, Option.bind_some]
    dsimp only
    rw [h3, Option.map_some, decide_eq_true h1]; rfl
end
theorem insI_mem {S : List Int} {x y : Int} : y ∈ insI S x ↔ y = x ∨ y ∈ S := by
  unfold insI
  split
  · rename_i h
    exact ⟨.inr, fun h2 => h2.elim (fun e => e ▸ h) id⟩
  · simp [or_comm]
def bm : List Int → Nat → Nat
  | [], _ => 0
  | n :: S, j => bm S j ||| (if n.toNat / 8 = j then 2 ^ (n.toNat % 8) else 0)
theorem bm_cons (n : Int) (S : List Int) (j : Nat) : bm (n :: S) j = bm S j ||| (if n.toNat / 8 = j then 2 ^ (n.toNat % 8) else 0) := rfl
theorem bm_bit : ∀ (S : List Int) (j t : Nat), (bm S j).testBit t = decide (∃ n ∈ S, n.toNat / 8 = j ∧ n.toNat % 8 = t)
  | [], j, t => by simp [bm]
  | n :: S, j, t => by
    unfold bm
    rw [Nat.testBit_or, bm_bit S j t]
    by_cases h : n.toNat / 8 = j
    · rw [if_pos h, Nat.testBit_two_pow]
      simp [h]
      by_cases h2 : n.toNat % 8 = t <;> simp [h2]
    · rw [if_neg h]
      simp [h]
theorem bm_lt : ∀ (S : List Int) (j : Nat), bm S j < 256
  | [], j => by simp [bm]
  | n :: S, j => by
    unfold bm
    refine Nat.or_lt_two_pow (n := 8) (bm_lt S j) ?_
    split
    · have h8 := Nat.mod_lt n.toNat (show 0 < 8 by decide)
      exact Nat.pow_lt_pow_right (by decide) h8
    · decide
theorem bm_congr {S T : List Int} (h : ∀ n, n ∈ S ↔ n ∈ T) (j : Nat) : bm S j = bm T j := by
  apply Nat.eq_of_testBit_eq
  intro t
  rw [bm_bit, bm_bit]
  simp only [h]
def bmL (S : List Int) : List UInt8 := (List.range 64).map fun j => UInt8.ofNat (bm S j)
def bmV (S : List Int) : List Value := (List.range 64).map fun j => .int .u8 (bm S j : Int)
theorem bmV_nil : bmV [] = List.replicate 64 (.int .u8 0) := by rfl
theorem bmV_congr {S T : List Int} (h : ∀ n, n ∈ S ↔ n ∈ T) : bmV S = bmV T := by
  unfold bmV
  apply List.map_congr_left
  intro j _
  rw [bm_congr h]
theorem bmV_len (S : List Int) : (bmV S).length = 64 := by unfold bmV; simp
theorem bmV_at (S : List Int) {j : Nat} (h : j < 64) : (bmV S)[j]? = some (.int .u8 (bm S j : Int)) := by
  unfold bmV
  rw [List.getElem?_map, List.getElem?_range h]; rfl
theorem bmV_cons {n : Int} {S : List Int} (h : n.toNat / 8 < 64) : bmV (n :: S) = (bmV S).set (n.toNat / 8) (.int .u8 ((bm S (n.toNat / 8) ||| 2 ^ (n.toNat % 8) : Nat) : Int)) := by
  apply List.ext_getElem?
  intro j
  rw [List.getElem?_set]
  by_cases hj : j < 64
  · rw [bmV_at _ hj]
    by_cases he : n.toNat / 8 = j
    · subst he
      rw [if_pos rfl, if_pos (by rw [bmV_len]; exact h), bm_cons, if_pos rfl]
    · rw [if_neg he, bmV_at _ hj, bm_cons, if_neg he, Nat.or_zero]
  · rw [List.getElem?_eq_none (by rw [bmV_len]; omega), if_neg (by omega), List.getElem?_eq_none (by rw [bmV_len]; omega)]
theorem bmV_byts (S : List Int) : bmV S = byts (bmL S) := by
  unfold bmV byts bmL
  rw [List.map_map, List.map_map]
  apply List.map_congr_left
  intro j _
  have := bm_lt S j
  show _ = Value.int .u8 ((UInt8.ofNat (bm S j)).toNat : Int)
  rw [UInt8.toNat_ofNat_of_lt' this]
def keysI : List Value → Option (List Int)
  | [] => some []
  | .int .i64 n :: .bool true :: r => (keysI r).map fun l => n :: l
  | _ => none
theorem keysI_ent : ∀ S, keysI (entI S) = some S
  | [] => rfl
  | n :: S => by unfold entI keysI; rw [keysI_ent S]; rfl
theorem ent_keysI : ∀ {cs : List Value} {S : List Int}, keysI cs = some S → cs = entI S := by
  intro cs
  fun_induction keysI cs with
  | case1 => intro S h; cases h; rfl
  | case2 n r ih =>
    intro S h
    cases hr : keysI r with
    | none => rw [hr] at h; cases h
    | some l => rw [hr] at h; cases h; rw [ih hr]; rfl
  | case3 => intro S h; cases h
noncomputable def gBits (args : List Value) (H : AH) : Option AH :=
  match args with
  | [.map (some mb), .slice (some ⟨b, 0, none⟩) 72 72] =>
    (mapB H mb).bind fun km => (keysI km.cells).bind fun S => (blk H b).bind fun k =>
      aChk (mb ≠ b ∧ (∀ n ∈ S, 0 ≤ n ∧ n < 512) ∧ k.kind = .fix ∧ k.cells.length = 72 ∧ k.cells.drop 8 = List.replicate 64 (.int .u8 0)) (some (put H b k (k.cells.take 8 ++ bmV S)))
  | _ => none
noncomputable def gKeys (args : List Value) (H : AH) : Option AH :=
  match args with
  | [.map (some a), .map (some b)] =>
    (mapB H a).bind fun ka => (keysI ka.cells).bind fun S => (mapB H b).bind fun kb => aChk (a ≠ b ∧ kb.cells = [] ∧ S.Nodup) (some (put H b kb (entI S)))
  | _ => none
def turnB (t : Nat) : List UInt8 := (List.range 6).map fun i => UInt8.ofNat (t / 256 ^ (5 - i))
def textH (t : Nat) (root : Int) (U : List Int) : List UInt8 := turnB t ++ ([UInt8.ofNat (root.toNat / 256), UInt8.ofNat root.toNat] ++ bmL U)
theorem textH_len (t : Nat) (root : Int) (U : List Int) : (textH t root U).length = 72 := by unfold textH turnB bmL; simp
end Go.AM
set_option linter.unusedVariables false
set_option linter.unusedSimpArgs false
namespace Go.AM
open Go.RowKit
theorem ents_entI {m : Mp} : ∀ (S : List Int) (es : List MapEntry), LRel m (entI S) (ents es) → es.map (fun e => (e.key, e.val)) = S.map fun n => (Value.int .i64 n, Value.bool true)
  | [], [], _ => rfl
  | [], e :: es, h => by have := h.1; simp [entI, ents] at this
  | n :: S, [], h => by have := h.1; simp [entI, ents] at this
  | n :: S, e :: es, h => by
    have h0 : LRel m (.int .i64 n :: .bool true :: entI S) (e.key :: e.val :: ents es) := h
    obtain ⟨y, zs, e1, h1, h2⟩ := h0.cons_inv
    cases e1
    obtain ⟨y, zs, e1, h3, h4⟩ := h2.cons_inv
    cases e1
    rw [List.map_cons, List.map_cons, ents_entI S es h4, h1.flat_inv rfl, h3.flat_inv rfl]
theorem cons_range {α : Type} {a : Array α} {x : α} {l : List α} (h : a.toList = x :: l) : List.range a.size = 0 :: (List.range' 1 l.length ++ []) ∧ a[0]? = some x ∧ ∀ j y, l[j]? = some y → a[1 + j]? = some y := by
  have hs : a.size = l.length + 1 := by rw [← Array.length_toList, h]; rfl
  refine ⟨by rw [hs, List.append_nil, List.range_eq_range', List.range'_succ], by rw [← Array.getElem?_toList, h]; rfl, fun j y hj => ?_⟩
  rw [← Array.getElem?_toList, h, Nat.add_comm]
  exact hj
theorem oper_val {P : Program} {r : Option Nat} {n : Nat} {o : Oper} {a : Act} {w w' : World} {v : Value} {d : Option Tmp} {next : Act → World → Prop} {Q : Exit → Act → World → Prop} (hd : ∀ c, o.op ≠ .defer c) (hr : (execOp a.eval o).run P w = .ok (.value v) w') (e : o.dst = d) (h : next (a.put d v) w') : o.wpIn (FW r) n P a w next Q := oper_in hd (by
  unfold Oper.wp
  rw [hr]
  subst e
  exact h)
theorem range_sim {P : Program} {call : CallF} (hcall : CallOK P call) (hdraw : DrawOK P call) (hmix : P.follows .mixedOrders = true) (n0 : Nat) (tb : Tbl)
    {idR B id5 C id6 : Nat} {opsR ops5 ops6 : Array Oper} {pre r5 r6 : List Oper} {oR oN oE : Oper} {body : Code} {tm kt et : TypeId} {mp it nx en ok : Tmp}
    (hR : opsR.toList = pre ++ [oR]) (hpre : ∀ o ∈ pre, o.guard = none) (hoR : oR.op = .range tm (.tmp mp) ∧ oR.dst = some it ∧ oR.guard = none)
    (h5 : ops5.toList = oN :: r5) (hr5 : ∀ o ∈ r5, o.guard = none) (hoN : oN.op = .next (.tmp it) false ∧ oN.dst = some nx ∧ oN.guard = none)
    (h6 : ops6.toList = oE :: r6) (hr6 : ∀ o ∈ r6, o.guard = none) (hoE : oE.op = .entry (.tmp it) ∧ oE.dst = some en ∧ oE.guard = none)
    (hUt : P.underlying tm = some (.map kt et)) (hbody : rgs body = [])
    {T T1 Tk TM T5f : List Value} {H H' : AH} {a : Nat} {km : Blk} {S0 : List Int} {keep keepM : List Nat} {T5 T6 : Int → List Value}
    (hp : evOps P call opsR pre T H (fun T H => some (T, H)) = some (T1, H)) (hmp : T1.getD mp undef = .map (some a)) (ha : blk H a = some km) (hak : km.kind = .map) (hac : km.cells = entI S0)
    (hTk : maskT keep 0 (T1.set it (ptr H.length 0)) = Tk) (hit : Tk.getD it undef = ptr H.length 0)
    (e5 : ∀ n Hs, evOps P call ops5 r5 (Tk.set nx (.tuple #[.bool true, .int .i64 n, .bool true])) Hs (fun T H => some (T, H)) = some (T5 n, Hs))
    (e5c : ∀ n, (T5 n).getD ok undef = .bool true) (e5i : ∀ n, (T5 n).getD it undef = ptr H.length 0)
    (e6 : ∀ n Hs, evOps P call ops6 r6 ((T5 n).set en (.tuple #[.int .i64 n, .bool true])) Hs (fun T H => some (T, H)) = some (T6 n, Hs))
    (e5f : ∀ Hs, evOps P call ops5 r5 (Tk.set nx (.tuple #[.bool false])) Hs (fun T H => some (T, H)) = some (T5f, Hs)) (e5fc : T5f.getD ok undef = .bool false) (hTM : maskT keepM 0 T5f = TM)
    (Inv : List Int → AH → Prop) (inv0 : Inv [] (kill H a ++ [none])) (ilen : ∀ S Hs, Inv S Hs → blk Hs a = none)
    (step : ∀ S n Hs, Inv S Hs → n ∈ S0 → n ∉ S → ∃ Tb Hb, evalK P call n0 tb body (T6 n) Hs (fun e T H => some (e, T, H)) = some (EX.normal, Tb, Hb) ∧ maskT keep 0 Tb = Tk ∧ Inv (n :: S) Hb)
    (fin : ∀ S Hs, Inv S Hs → S.Nodup → (∀ n, n ∈ S ↔ n ∈ S0) → H'.length = Hs.length ∧ (∀ b k', blk H' b = some k' → ∃ k, blk (Hs.set a (some km)) b = some k ∧ k.kind = k'.kind) ∧ ∀ B0 w0 m w, Rel P B0 w0 m (Hs.set a (some km)) w → Rel P B0 w0 m H' w) :
    CodeSim P none (.seq (.region idR opsR false) (.block B (.loop (.seq (.region id5 ops5 false) (.seq (.cond (.tmp ok) .skip (.exit B)) (.block C (.seq (.region id6 ops6 false) body))))))) T H .normal TM H' := by
  intro n Bf B0 w0 m act w Q R0 hT hd hB hq
  obtain ⟨c5a, c5b, c5c⟩ := cons_range h5
  obtain ⟨c6a, c6b, c6c⟩ := cons_range h6
  have mk : ∀ (keep : List Nat) (m : Mp) (T Ts : List Value), LRel m T Ts → LRel m (maskT keep 0 T) Ts := fun keep m T Ts h => by
    have := cutT_rel [(0, keep)] 0 h
    exact this
  refine wpIn_seq (wpIn_region ?_)
  have hsz : opsR.size = pre.length + 1 := by rw [← Array.length_toList, hR]; simp
  have hrg : List.range opsR.size = List.range' 0 pre.length ++ [pre.length] := by
    rw [hsz, List.range_succ, List.range_eq_range']
  have hat : ∀ j o, pre[j]? = some o → opsR[0 + j]? = some o ∧ o.guard = none := fun j o hj => by
    refine ⟨?_, hpre o (List.mem_of_getElem? hj)⟩
    rw [← Array.getElem?_toList, hR, Nat.zero_add, List.getElem?_append_left (List.getElem?_eq_some_iff.1 hj).1]
    exact hj
  have hlast : opsR[pre.length]? = some oR := by rw [← Array.getElem?_toList, hR]; simp
  rw [hrg]
  refine evOps_pre hcall none opsR pre 0 T H T1 H hat hp n B0 w0 m act w act.defers [pre.length] _ R0 hT rfl fun m1 a1 w1 A => ?_
  have hd1 : Marks Bf a1.defers m1 H w1 := by rw [A.defers]; exact hd.ext R0 A.ext
  have hsz1 : Bf ≤ w1.heap.size := Nat.le_trans hB A.ext.size
  have hmv := opv_rel A.tmps (.tmp mp)
  have hmv2 : VRel m1 (.map (some a)) (a1.eval (.tmp mp)) := by
    have : opv T1 (.tmp mp) = .map (some a) := hmp
    rwa [this] at hmv
  obtain ⟨L, hm, he, hLk⟩ := hmv2.map_inv
  have hBR := A.rel.blks a L km hm ha
  obtain ⟨es, clock, es0, hw, hpm, hnd, ⟨hbn, hbd⟩, hl⟩ := hBR.mp hak
  rw [hac] at hl
  have hents := ents_entI S0 es0 hl
  have hent : ∀ e ∈ es.toList, ∃ n ∈ S0, e.key = .int .i64 n ∧ e.val = .bool true := by
    intro e he
    have h1 : (e.key, e.val) ∈ es0.map fun e => (e.key, e.val) := List.mem_map.2 ⟨e, hpm.mem_iff.1 he, rfl⟩
    rw [hents] at h1
    obtain ⟨n, hn, h2⟩ := List.mem_map.1 h1
    obtain ⟨h3, h4⟩ := Prod.mk.inj h2
    exact ⟨n, hn, h3.symm, h4.symm⟩
  have hback : ∀ n ∈ S0, ∃ e ∈ es.toList, e.key = .int .i64 n := by
    intro n hn
    have h1 : (Value.int .i64 n, Value.bool true) ∈ S0.map fun n => (Value.int .i64 n, Value.bool true) := List.mem_map.2 ⟨n, hn, rfl⟩
    rw [← hents] at h1
    obtain ⟨e, he, h2⟩ := List.mem_map.1 h1
    exact ⟨e, hpm.mem_iff.2 he, (congrArg Prod.fst h2)⟩
  have hbd' : (es.toList.map (·.born)).Nodup := (hpm.map _).nodup_iff.2 hbd
  have hbn' : ∀ x ∈ es.toList, x.born < clock := fun x hx => hbn x (hpm.mem_iff.1 hx)
  have hLlt : L.blk < w1.heap.size := (A.rel.dom a L hm).2
  have hane : km.kind ≠ .ro := by rw [hak]; decide
  -- the start
  simp only [wpOpsIn, hlast]
  rw [if_pos (by unfold Region.wanted; rw [hoR.2.2])]
  have hrun : (execOp a1.eval oR).run P w1 = .ok (.value (.pointer (some ⟨w1.heap.size, 0, none⟩))) (w1.alloc (.mapIter (some L.blk) clock #[] clock)) := by
    have := run_range_map (P := P) w1 tm kt et L.blk es clock hUt hw
    obtain ⟨dst, op, ty, ps, af, g⟩ := oR
    obtain ⟨rfl, _, _⟩ := hoR
    simp only [execOp, he, Sem.run_bind, this, Result.andThen_ok, Sem.run_pure]
  refine oper_val (isDefer_no (by rw [hoR.1]; rfl)) hrun rfl ?_
  obtain ⟨Rk, Ek⟩ := A.rel.killed a
  obtain ⟨R2, E2⟩ := Rk.mkDead (.mapIter (some L.blk) clock #[] clock) .fix
  rw [length_kill'] at R2 E2
  have hm2 : ∀ b L, m1 b = some L → upd m1 H.length ⟨w1.heap.size, 0, .fix, 0, 0⟩ b = some L := E2.mono
  have hT2 : LRel (upd m1 H.length ⟨w1.heap.size, 0, .fix, 0, 0⟩) Tk (a1.put oR.dst (.pointer (some ⟨w1.heap.size, 0, none⟩))).tmps.toList := by
    rw [hoR.2.1, ← hTk]
    refine mk _ _ _ _ ?_
    exact put_rel (A.tmps.mono hm2) (some it) (.ptr H.length 0 ⟨w1.heap.size, 0, .fix, 0, 0⟩ (upd_same _ _ _) rfl)
  have fL : Free (upd m1 H.length ⟨w1.heap.size, 0, .fix, 0, 0⟩) (kill H a ++ [none]) L.blk := by
    have f0 : Free m1 (kill H a) L.blk := by
      intro b L2 k2 h1 h2
      by_cases hb : a = b
      · subst hb; rw [blk_kill_same] at h2; cases h2
      · rw [blk_kill_ne hb] at h2
        exact fun e => A.rel.inj a b L L2 km k2 hm h1 ha h2 hane hb e.symm
    exact f0.ext Rk E2 hLlt
  have fr : Free (upd m1 H.length ⟨w1.heap.size, 0, .fix, 0, 0⟩) (kill H a ++ [none]) w1.heap.size := by
    intro b L2 k2 h1 h2
    have hlt := blk_lt' h2
    unfold upd at h1
    split at h1
    · rename_i hb
      subst hb
      unfold blk at h2
      rw [List.getElem?_append_right (by rw [length_kill']; exact Nat.le_refl _), length_kill', Nat.sub_self] at h2
      cases h2
    · have := (Rk.dom b L2 h1).2
      omega
  have hw2 : (w1.alloc (.mapIter (some L.blk) clock #[] clock)).heap[L.blk]? = some (.map es clock) := by rw [Below.heap_alloc w1 _ _ hLlt]; exact hw
  have hr2 : (w1.alloc (.mapIter (some L.blk) clock #[] clock)).heap[w1.heap.size]? = some (.mapIter (some L.blk) clock #[] clock) := heap_alloc_new w1 _
  have hmk2 : Marks Bf (a1.put oR.dst (.pointer (some ⟨w1.heap.size, 0, none⟩))).defers (upd m1 H.length ⟨w1.heap.size, 0, .fix, 0, 0⟩) (kill H a ++ [none]) (w1.alloc (.mapIter (some L.blk) clock #[] clock)) := by
    rw [put_defers]
    exact (hd1.ext A.rel Ek).ext Rk E2
  have hmi : (upd m1 H.length ⟨w1.heap.size, 0, .fix, 0, 0⟩) H.length = some ⟨w1.heap.size, 0, .fix, 0, 0⟩ := upd_same _ _ _
  generalize hmm : upd m1 H.length ⟨w1.heap.size, 0, .fix, 0, 0⟩ = m2 at *
  generalize hww : w1.alloc (.mapIter (some L.blk) clock #[] clock) = w2 at *
  generalize haa : a1.put oR.dst (.pointer (some ⟨w1.heap.size, 0, none⟩)) = a2 at *
  generalize hHH : kill H a ++ [none] = H2 at *
  show Code.wpIn _ _ _ _ _ _ _
  refine wpIn_block ?_
  -- the rounds
  have key : ∀ (q : Nat) (S : List Int) (Hs : AH) (m3 : Mp) (a3 : Act) (w3 : World) (seen : Array Nat), Inv S Hs → S.Nodup → (∀ n ∈ S, n ∈ S0) → (∀ e ∈ es.toList, seen.contains e.born = true ↔ ∃ n ∈ S, e.key = .int .i64 n) → (leftOf es seen).size < q →
      Ext m1 (kill H a) w1 m3 Hs w3 → Rel P B0 w0 m3 Hs w3 → LRel m3 Tk a3.tmps.toList → Marks Bf a3.defers m3 Hs w3 → Free m3 Hs L.blk → Free m3 Hs w1.heap.size → w3.heap[L.blk]? = some (.map es clock) → w3.heap[w1.heap.size]? = some (.mapIter (some L.blk) clock seen clock) → m3 H.length = some ⟨w1.heap.size, 0, .fix, 0, 0⟩ →
      Code.roundsIn (FW none) n P (.seq (.region id5 ops5 false) (.seq (.cond (.tmp ok) .skip (.exit B)) (.block C (.seq (.region id6 ops6 false) body)))) (Exit.inBlock B Q) q a3 w3 := by
    intro q
    induction q with
    | zero => intro S Hs m3 a3 w3 seen _ _ _ _ hlt; omega
    | succ q ih =>
      intro S Hs m3 a3 w3 seen hI hSn hS0 hseen hlt E3 R3 hT3 hd3 fL3 fr3 hw3 hr3 hmi3
      have hrlt : w1.heap.size < w3.heap.size := (Array.getElem?_eq_some_iff.1 hr3).1
      have iter : ∀ (T : List Value) (a : Act), LRel m3 T a.tmps.toList → T.getD it undef = ptr H.length 0 → a.eval (.tmp it) = .pointer (some ⟨w1.heap.size, 0, none⟩) := by
        intro T a hT hit
        have := opv_rel hT (.tmp it)
        rw [show opv T (.tmp it) = ptr H.length 0 from hit] at this
        obtain ⟨L', h1, h2, _⟩ := this.ptr_inv
        rw [hmi3] at h1
        cases h1
        exact h2
      rw [roundsIn_succ]
      refine wpIn_seq (wpIn_region ?_)
      rw [c5a]
      simp only [wpOpsIn, c5b]
      rw [if_pos (by unfold Region.wanted; rw [hoN.2.2])]
      have hexec : ∀ v w', (Instr.next (.pointer (some ⟨w1.heap.size, 0, none⟩)) false oN.type).run P w3 = .ok v w' → (execOp a3.eval oN).run P w3 = .ok (.value v) w' := by
        intro v w' hh
        have h1 := iter Tk a3 hT3 hit
        obtain ⟨dst, op, ty, ps, af, g⟩ := oN
        obtain ⟨rfl, _, _⟩ := hoN
        simp only at hh
        simp only [execOp, h1, Sem.run_bind, hh, Result.andThen_ok, Sem.run_pure]
      rcases run_next_at (P := P) w3 oN.type w1.heap.size L.blk clock clock seen es clock hr3 hw3 hbn' (Nat.le_refl _) with ⟨h0, hrun⟩ | ⟨e, heL, w4, hw4, hrun⟩
      · refine oper_val (isDefer_no (by rw [hoN.1]; rfl)) (hexec _ _ hrun) hoN.2.1 ?_
        refine evOps_pre hcall none ops5 r5 1 _ Hs T5f Hs (fun j o hj => ⟨c5c j o hj, hr5 o (List.mem_of_getElem? hj)⟩) (e5f Hs) n B0 w0 m3 _ w3 a3.defers [] _ R3 (put_rel hT3 (some nx) (.tuple _ _ rfl fun i x y hx hy => by
          rw [hx] at hy; cases hy
          have := Array.mem_of_getElem? hx
          simp at this; subst this; exact .flat _ rfl)) (put_defers _ _ _) fun m5 a5 w5 A5 => ?_
        simp only [wpOpsIn]
        have hc := opv_rel A5.tmps (.tmp ok)
        rw [show opv T5f (.tmp ok) = .bool false from e5fc] at hc
        refine wpIn_seq (wpIn_cond_false hc.bool_inv (wpIn_exit ?_))
        show (if B = B then Q .normal a5 w5 else Q (.exit B) a5 w5)
        rw [if_pos rfl]
        have hall : ∀ n, n ∈ S ↔ n ∈ S0 := fun n => ⟨hS0 n, fun hn => by
          obtain ⟨e, he, hk⟩ := hback n hn
          obtain ⟨n2, hn2, hk2⟩ := (hseen e he).1 (all_seen es seen h0 e he)
          rw [hk] at hk2
          cases hk2
          exact hn2⟩
        obtain ⟨f1, f2, f3⟩ := fin S Hs hI hSn hall
        have hlt5 : L.blk < w3.heap.size := (Array.getElem?_eq_some_iff.1 hw3).1
        have hw5 : w5.heap[L.blk]? = some (.map es clock) := (fL3.frame A5.ext hlt5).trans hw3
        have fL5 := fL3.ext R3 A5.ext hlt5
        have E5 := Ext.trans (fun b L hb => (Rk.dom b L hb).1) E3 A5.ext
        have hm5 : m5 a = some L := E5.mono _ _ hm
        have hBR5 : BRel P B0 m5 L km w5 := hBR.at E5.mono (hw5.trans hw.symm)
        have hlt6 : a < Hs.length := Nat.lt_of_lt_of_le (by rw [length_kill']; exact blk_lt' ha) E3.len
        have R6 := f3 B0 w0 m5 w5 (A5.rel.unkill hm5 hlt6 hBR5 fL5)
        have E6 : Ext m1 H w1 m5 H' w5 := by
          refine ⟨E5.mono, by rw [f1]; have := E3.len; rwa [length_kill'] at this, E5.size, ?_, ?_, ?_⟩
          · intro b k' hb hk'
            obtain ⟨k, h1, h2⟩ := f2 b k' hk'
            by_cases hab : a = b
            · subst hab
              rw [blk_set_same hlt6] at h1
              cases h1
              exact ⟨km, ha, h2⟩
            · rw [blk_set_ne hab] at h1
              obtain ⟨k0, h3, h4⟩ := E5.alive b k (by rw [length_kill']; exact hb) h1
              rw [blk_kill_ne hab] at h3
              exact ⟨k0, h3, h4.trans h2⟩
          · intro b L2 hb
            rcases E5.new b L2 hb with h1 | ⟨h1, h2 | ⟨b0, L0, k0, h3, h4, h5, h6⟩⟩
            · exact .inl h1
            · exact .inr ⟨by rwa [length_kill'] at h1, .inl h2⟩
            · refine .inr ⟨by rwa [length_kill'] at h1, .inr ⟨b0, L0, k0, h3, ?_, h5, h6⟩⟩
              by_cases hab : a = b0
              · subst hab; rw [blk_kill_same] at h4; cases h4
              · rwa [blk_kill_ne hab] at h4
          · intro B' hB' hf
            refine E5.frame B' hB' fun b L2 k2 h1 h2 h3 => ?_
            by_cases hab : a = b
            · subst hab; rw [blk_kill_same] at h2; cases h2
            · rw [blk_kill_ne hab] at h2
              exact hf b L2 k2 h1 h2 h3
        refine hq m5 a5 w5 ⟨Ext.trans (fun b L hb => (R0.dom b L hb).1) A.ext E6, R6, by rw [← hTM]; exact mk _ _ _ _ A5.tmps, ?_⟩
        have hd5 : Marks Bf a5.defers m5 Hs w5 := by rw [A5.defers]; exact hd3.ext R3 A5.ext
        obtain ⟨Ds, d1, d2, d3⟩ := hd5
        refine ⟨Ds, d1, d2, fun D hD => ?_⟩
        obtain ⟨d4, d5, d6⟩ := d3 D hD
        refine ⟨d4, d5, fun b L2 k2 h1 h2 h3 => ?_⟩
        obtain ⟨k, h4, h5⟩ := f2 b k2 h2
        by_cases hab : a = b
        · subst hab
          rw [hm5] at h1
          cases h1
          rintro rfl
          rw [hw5] at d5
          cases d5
        · rw [blk_set_ne hab] at h4
          exact d6 b L2 k h1 h4 (by rw [h5]; exact h3)
      · obtain ⟨hees, hens⟩ := mem_left heL
        obtain ⟨n1, hn1, hk1, hv1⟩ := hent e hees
        have hnS : n1 ∉ S := fun h => by rw [(hseen e hees).2 ⟨n1, h, hk1⟩] at hens; cases hens
        rw [hk1, hv1] at hrun
        have R4 : Rel P B0 w0 m3 Hs (w4.putObj w1.heap.size (.mapIter (some L.blk) clock (seen.push e.born) clock)) := by
          rcases hw4 with rfl | rfl
          · exact R3.putFree _ A.rel.hB fr3
          · exact R3.drew.putFree _ A.rel.hB fr3
        have E4 : Ext m1 (kill H a) w1 m3 Hs (w4.putObj w1.heap.size (.mapIter (some L.blk) clock (seen.push e.born) clock)) := by
          rcases hw4 with rfl | rfl
          · exact E3.putIter (Nat.le_refl _)
          · exact E3.drew.putIter (Nat.le_refl _)
        have hd4 : Marks Bf a3.defers m3 Hs (w4.putObj w1.heap.size (.mapIter (some L.blk) clock (seen.push e.born) clock)) := by
          rcases hw4 with rfl | rfl
          · exact hd3.putIter fun l => by rw [hr3]; intro h; cases h
          · exact hd3.drew.putIter fun l => by show w3.heap[_]? ≠ _; rw [hr3]; intro h; cases h
        have hheap : w4.heap = w3.heap := by rcases hw4 with rfl | rfl <;> rfl
        have hsz4 : (w4.putObj w1.heap.size (.mapIter (some L.blk) clock (seen.push e.born) clock)).heap.size = w3.heap.size := by rw [World.putObj_size, hheap]
        have hr4 : (w4.putObj w1.heap.size (.mapIter (some L.blk) clock (seen.push e.born) clock)).heap[w1.heap.size]? = some (.mapIter (some L.blk) clock (seen.push e.born) clock) := World.putObj_heap_same (by rw [hheap]; exact hrlt)
        have hw4' : (w4.putObj w1.heap.size (.mapIter (some L.blk) clock (seen.push e.born) clock)).heap[L.blk]? = some (.map es clock) := by
          rw [World.putObj_heap_other (by omega), hheap]; exact hw3
        generalize w4.putObj w1.heap.size (.mapIter (some L.blk) clock (seen.push e.born) clock) = w4 at hrun R4 E4 hd4 hsz4 hr4 hw4'
        refine oper_val (isDefer_no (by rw [hoN.1]; rfl)) (hexec _ _ hrun) hoN.2.1 ?_
        refine evOps_pre hcall none ops5 r5 1 _ Hs (T5 n1) Hs (fun j o hj => ⟨c5c j o hj, hr5 o (List.mem_of_getElem? hj)⟩) (e5 n1 Hs) n B0 w0 m3 _ w4 a3.defers [] _ R4 (put_rel hT3 (some nx) (.tuple _ _ rfl fun i x y hx hy => by
          rw [hx] at hy; cases hy
          have := Array.mem_of_getElem? hx
          simp at this
          rcases this with rfl | rfl | rfl <;> exact .flat _ rfl)) (put_defers _ _ _) fun m5 a5 w5 A5 => ?_
        simp only [wpOpsIn]
        have hc := opv_rel A5.tmps (.tmp ok)
        rw [show opv (T5 n1) (.tmp ok) = .bool true from e5c n1] at hc
        refine wpIn_seq (wpIn_cond_true hc.bool_inv (wpIn_skip ?_))
        show Code.wpIn _ _ _ _ _ _ _
        refine wpIn_block (wpIn_seq (wpIn_region ?_))
        rw [c6a]
        simp only [wpOpsIn, c6b]
        rw [if_pos (by unfold Region.wanted; rw [hoE.2.2])]
        have E5 := Ext.trans (fun b L hb => (Rk.dom b L hb).1) E4 A5.ext
        have hlt4 : L.blk < w4.heap.size := (Array.getElem?_eq_some_iff.1 hw4').1
        have hrlt4 : w1.heap.size < w4.heap.size := by rw [hsz4]; exact hrlt
        have hw5 : w5.heap[L.blk]? = some (.map es clock) := (fL3.frame A5.ext hlt4).trans hw4'
        have hr5' : w5.heap[w1.heap.size]? = some (.mapIter (some L.blk) clock (seen.push e.born) clock) := (fr3.frame A5.ext hrlt4).trans hr4
        have fL5 := fL3.ext R4 A5.ext hlt4
        have fr5 := fr3.ext R4 A5.ext hrlt4
        have hd5 : Marks Bf a5.defers m5 Hs w5 := by rw [A5.defers]; exact hd4.ext R4 A5.ext
        have hmi5 := A5.ext.mono _ _ hmi3
        have hit5 : a5.eval (.tmp it) = .pointer (some ⟨w1.heap.size, 0, none⟩) := by
          have := opv_rel A5.tmps (.tmp it)
          rw [show opv (T5 n1) (.tmp it) = ptr H.length 0 from e5i n1] at this
          obtain ⟨L', h1, h2, _⟩ := this.ptr_inv
          rw [hmi5] at h1
          cases h1
          exact h2
        have hrun6 : (execOp a5.eval oE).run P w5 = .ok (.value (.tuple #[.int .i64 n1, .bool true])) w5 := by
          have hh := run_entry_at (P := P) w5 w1.heap.size L.blk clock seen es clock e hr5' hw5 hees hbd'
          rw [hk1, hv1] at hh
          obtain ⟨dst, op, ty, ps, af, g⟩ := oE
          obtain ⟨rfl, _, _⟩ := hoE
          simp only [execOp, hit5, Sem.run_bind, hh, Result.andThen_ok, Sem.run_pure]
        refine oper_val (isDefer_no (by rw [hoE.1]; rfl)) (hrun6) hoE.2.1 ?_
        refine evOps_pre hcall none ops6 r6 1 _ Hs (T6 n1) Hs (fun j o hj => ⟨c6c j o hj, hr6 o (List.mem_of_getElem? hj)⟩) (e6 n1 Hs) n B0 w0 m5 _ w5 a5.defers [] _ A5.rel (put_rel A5.tmps (some en) (.tuple _ _ rfl fun i x y hx hy => by
          rw [hx] at hy; cases hy
          have := Array.mem_of_getElem? hx
          simp at this
          rcases this with rfl | rfl <;> exact .flat _ rfl)) (put_defers _ _ _) fun m6 a6 w6 A6 => ?_
        simp only [wpOpsIn]
        obtain ⟨Tb, Hb, hev, hTb, hIb⟩ := step S n1 Hs hI hn1 hnS
        obtain ⟨e7, T7, H7, h7, hsim⟩ := evalK_sound hcall hdraw hmix n0 tb none body (.inl rfl) (RangesAt.nil hbody) _ _ _ _ hev
        cases h7
        have hlt5 : L.blk < w5.heap.size := (Array.getElem?_eq_some_iff.1 hw5).1
        have hrlt5 : w1.heap.size < w5.heap.size := (Array.getElem?_eq_some_iff.1 hr5').1
        have fL6 := fL5.ext A5.rel A6.ext hlt5
        have fr6 := fr5.ext A5.rel A6.ext hrlt5
        have hw6 := (fL5.frame A6.ext hlt5).trans hw5
        have hr6' := (fr5.frame A6.ext hrlt5).trans hr5'
        have hd6 : Marks Bf a6.defers m6 Hs w6 := by rw [A6.defers]; exact hd5.ext A5.rel A6.ext
        have E6 := Ext.trans (fun b L hb => (Rk.dom b L hb).1) E5 A6.ext
        show Code.wpIn _ _ _ _ _ _ _
        refine hsim n Bf B0 w0 m6 a6 w6 _ A6.rel A6.tmps hd6 (Nat.le_trans hsz1 E6.size) fun m7 a7 w7 A7 => ?_
        show Code.roundsIn _ _ _ _ _ _ _ _
        have hlt6 : L.blk < w6.heap.size := (Array.getElem?_eq_some_iff.1 hw6).1
        have hrlt6 : w1.heap.size < w6.heap.size := (Array.getElem?_eq_some_iff.1 hr6').1
        refine ih (n1 :: S) Hb m7 a7 w7 (seen.push e.born) hIb (List.nodup_cons.2 ⟨hnS, hSn⟩) (fun x hx => ?_) (fun e' he' => ?_) (by have := left_shrinks es seen e heL; omega) (Ext.trans (fun b L hb => (Rk.dom b L hb).1) E6 A7.ext) A7.rel
          (by rw [← hTb]; exact mk _ _ _ _ A7.tmps) A7.marks (fL6.ext A6.rel A7.ext hlt6) (fr6.ext A6.rel A7.ext hrlt6) ((fL6.frame A7.ext hlt6).trans hw6) ((fr6.frame A7.ext hrlt6).trans hr6') (A7.ext.mono _ _ (A6.ext.mono _ _ hmi5))
        · rcases List.mem_cons.1 hx with rfl | hx
          · exact hn1
          · exact hS0 x hx
        · rw [contains_push]
          constructor
          · intro h
            rcases Bool.or_eq_true _ _ ▸ h with h | h
            · obtain ⟨n2, h2, h3⟩ := (hseen e' he').1 h
              exact ⟨n2, .tail _ h2, h3⟩
            · have := born_inj hbd' he' hees (by simpa using h)
              subst this
              exact ⟨n1, .head _, hk1⟩
          · rintro ⟨n2, h2, h3⟩
            rcases List.mem_cons.1 h2 with rfl | h2
            · have hee : e' = e := nodup_key hnd (hpm.mem_iff.1 he') (hpm.mem_iff.1 hees) (h3.trans hk1.symm)
              subst hee
              simp
            · rw [(hseen e' he').2 ⟨n2, h2, h3⟩]
              rfl
  exact wpIn_loop_rounds _ (key _ [] H2 m2 a2 w2 #[] inv0 List.nodup_nil (fun n h => by cases h) (fun e he => ⟨fun h => by simp at h, fun ⟨n, h, _⟩ => by cases h⟩) (Nat.lt_succ_self _) E2 R2 hT2 hmk2 fL fr hw2 hr2 hmi)
end Go.AM
set_option linter.unusedVariables false
set_option linter.unusedSimpArgs false
namespace Go.AM
open Go.RowKit
theorem list_of {n : Nat} {T : List Value} (h : T.length = n) : T = (List.range n).map fun i => T.getD i undef := by
  apply List.ext_getElem?
  intro i
  rw [List.getElem?_map]
  by_cases hi : i < n
  · rw [List.getElem?_range hi, List.getElem?_eq_getElem (by omega)]
    simp [List.getD, List.getElem?_eq_getElem (show i < T.length by omega)]
  · rw [List.getElem?_eq_none (by omega), List.getElem?_eq_none (by simp; omega)]
    rfl
theorem perm_map {α β : Type} (f : α → β) : ∀ (t : List β) (l : List α), (l.map f).Perm t → ∃ l', l.Perm l' ∧ l'.map f = t
  | [], l, h => by
    have := h.length_eq
    rw [List.length_map] at this
    have := List.eq_nil_of_length_eq_zero this
    subst this
    exact ⟨[], List.Perm.nil, rfl⟩
  | b :: t, l, h => by
    have hb : b ∈ l.map f := h.mem_iff.2 (.head _)
    obtain ⟨a, ha, rfl⟩ := List.mem_map.1 hb
    obtain ⟨l1, l2, rfl⟩ := List.append_of_mem ha
    have h1 : ((l1 ++ l2).map f).Perm t := by
      have h2 : (f a :: (l1 ++ l2).map f).Perm (f a :: t) := by
        refine List.Perm.trans ?_ h
        have : ((a :: (l1 ++ l2)).map f).Perm ((l1 ++ a :: l2).map f) := (List.perm_middle.symm).map f
        exact this
      exact (List.perm_cons _).1 h2
    obtain ⟨l', h3, h4⟩ := perm_map f t _ h1
    exact ⟨a :: l', (List.perm_middle).trans (h3.cons a), by rw [List.map_cons, h4]⟩
theorem ents_of : ∀ (es : List MapEntry) (S : List Int), es.map (fun e => (e.key, e.val)) = S.map (fun n => (Value.int .i64 n, Value.bool true)) → ents es = entI S
  | [], [], _ => rfl
  | [], _ :: _, h => by cases h
  | _ :: _, [], h => by cases h
  | e :: es, n :: S, h => by
    rw [List.map_cons, List.map_cons] at h
    injection h with h1 h2
    obtain ⟨h3, h4⟩ := Prod.mk.inj h1
    show e.key :: e.val :: ents es = _
    rw [ents_of es S h2, h3, h4]
    rfl
theorem entI_flat : ∀ S : List Int, (entI S).all flat1 = true
  | [] => rfl
  | n :: S => by show (flat1 (.int .i64 n) && (flat1 (.bool true) && (entI S).all flat1)) = true; rw [entI_flat S]; rfl
theorem Rel.permMap {P : Program} {B0 : Nat} {w0 w : World} {m : Mp} {H : AH} (h : Rel P B0 w0 m H w) {b : Nat} {e : TypeId} {S S0 : List Int} (hb : blk H b = some ⟨entI S, e, .map⟩) (hp : S.Perm S0) : Rel P B0 w0 m (H.set b (some ⟨entI S0, e, .map⟩)) w := by
  have hlt := blk_lt' hb
  refine ⟨h.below, h.hB, fun b2 L2 h2 => by rw [List.length_set]; exact h.dom b2 L2 h2, fun b2 L2 k2 h2 hk2 => ?_, fun b1 b2 L1 L2 k1 k2 h1 h2 hk1 hk2 hne hbb => ?_⟩
  · by_cases hbb : b = b2
    · subst hbb
      rw [blk_set_same hlt] at hk2
      cases hk2
      have hB := h.blks b L2 _ h2 hb
      obtain ⟨es, clock, es0, hw, p1, p2, ⟨p3, p4⟩, hl⟩ := hB.mp rfl
      have he := ents_entI S es0 hl
      obtain ⟨es1, q1, q2⟩ := perm_map (fun e : MapEntry => (e.key, e.val)) (S0.map fun n => (Value.int .i64 n, Value.bool true)) es0 (by rw [he]; exact hp.map _)
      refine ⟨hB.kind, fun hx => (by cases hx), fun _ => ⟨es, clock, es1, hw, p1.trans q1, (q1.map _).nodup_iff.1 p2, ⟨fun x hx => p3 x (q1.mem_iff.2 hx), (q1.map _).nodup_iff.1 p4⟩, ?_⟩, fun f key hx => (by cases hx), hB.own, fun hx => (by cases hx)⟩
      show LRel m (entI S0) (ents es1)
      rw [ents_of es1 S0 q2]
      exact LRel.of_flat _ (entI_flat S0)
    · rw [blk_set_ne hbb] at hk2
      exact h.blks b2 L2 k2 h2 hk2
  · have up : ∀ b3 k3, blk (H.set b (some ⟨entI S0, e, .map⟩)) b3 = some k3 → ∃ k4, blk H b3 = some k4 ∧ k4.kind = k3.kind := by
      intro b3 k3 h3
      by_cases hbb : b = b3
      · subst hbb
        rw [blk_set_same hlt] at h3
        cases h3
        exact ⟨_, hb, rfl⟩
      · rw [blk_set_ne hbb] at h3
        exact ⟨k3, h3, rfl⟩
    obtain ⟨k3, h3, h4⟩ := up b1 k1 hk1
    obtain ⟨k4, h5, _⟩ := up b2 k2 hk2
    exact h.inj b1 b2 L1 L2 k3 k4 h1 h2 h3 h5 (by rw [h4]; exact hne) hbb
theorem set_at {H : AH} {b : Nat} {o : Option Blk} (h : H[b]? = some o) : H.set b o = H := by
  apply List.ext_getElem?
  intro i
  rw [List.getElem?_set]
  split
  · rename_i hi
    subst hi
    rw [h, if_pos (List.getElem?_eq_some_iff.1 h).1]
  · rfl
def opsAt : Code → Array Oper
  | .region _ ops _ => ops
  | _ => #[]
def op0 : Oper := ⟨none, .move (.const undef), 0, "", #[], none⟩
theorem noGuard {l : List Oper} (h : l.all (fun o => o.guard.isNone) = true) : ∀ o ∈ l, o.guard = none := fun o ho => by
  have := List.all_eq_true.1 h o ho
  simpa using this
theorem aChk_some {R : Type} {p : Prop} {x : Option R} {r : R} (h : aChk p x = some r) : p ∧ x = some r := by
  unfold aChk at h
  split at h
  · rename_i hp; exact ⟨hp, h⟩
  · cases h
noncomputable section
variable (P : Program) (call : CallF) (n : Nat) (tb : Tbl) (M : Mid)
/-- What is left of a code behind one of its parts, a piece of which is given. -/
def resumeP {R : Type} : Code → List Nat → List Nat → EX → List Value → AH → (EX → List Value → AH → Option R) → Option R
  | .seq a b, 0 :: q, 0 :: p, e, T, H, K => resumeP a q p e T H (kSeq (fun T' H' => evalK P call n tb b (cutT tb (3 * firstId b) T') H' K) K)
  | .seq a b, 0 :: q, 1 :: p, e, T, H, K => resume P call n tb a q e T H (kSeq (fun T' H' => evalP P call n tb M b p (cutT tb (3 * firstId b) T') H' K) K)
  | .seq _ b, 1 :: q, 1 :: p, e, T, H, K => resumeP b q p e T H K
  | .seq _ b, 1 :: q, 0 :: _, e, T, H, K => resume P call n tb b q e T H K
  | .block id b, 0 :: q, 0 :: p, e, T, H, K => resumeP b q p e T H (kBlock id K)
  | .scope b, 0 :: q, 0 :: p, e, T, H, K => resumeP b q p e T H K
  | _, _, _, e, T, H, K => K e T H
end
noncomputable def gText (args : List Value) (H : AH) : Option AH :=
  match args with
  | [.pointer (some ⟨hb, 0, none⟩), s] => (ldC H (ptr hb 2)).bind fun mv => (gBits [mv, s] H).map fun H' => H' ++ [none]
  | _ => none
noncomputable def gCommit (args : List Value) (H : AH) : Option AH :=
  match args with
  | [.pointer (some ⟨pb, 0, none⟩), .pointer (some ⟨hb, 0, none⟩)] => (ldC H (ptr pb 2)).bind fun va => (ldC H (ptr hb 2)).bind fun vb => aChk (∀ a, (va = .map (some a) ∨ vb = .map (some a)) → hb ≠ a) ((gKeys [va, vb] H).map fun H' => H' ++ [none])
  | _ => none
theorem gBits_inv {mv s : Value} {H H' : AH} (h : gBits [mv, s] H = some H') : ∃ a b km kb S, mv = .map (some a) ∧ s = .slice (some ⟨b, 0, none⟩) 72 72 ∧ blk H a = some km ∧ km.kind = .map ∧ km.cells = entI S ∧ blk H b = some kb ∧ kb.kind = .fix ∧ a ≠ b ∧ (∀ n ∈ S, 0 ≤ n ∧ n < 512) ∧ kb.cells.length = 72 ∧ kb.cells.drop 8 = List.replicate 64 (.int .u8 0) ∧ H' = put H b kb (kb.cells.take 8 ++ bmV S) := by
  unfold gBits at h
  split at h
  · rename_i mb b heq
    obtain ⟨h1, h2⟩ := List.cons.inj heq
    obtain ⟨h3, _⟩ := List.cons.inj h2
    obtain ⟨km, h4, h⟩ := bind_some h
    obtain ⟨S, h5, h⟩ := bind_some h
    obtain ⟨kb, h6, h⟩ := bind_some h
    obtain ⟨⟨h0, h7, h8, h9, h10⟩, h11⟩ := aChk_some h
    obtain ⟨h12, h13⟩ := mapB_inv h4
    cases h11
    exact ⟨mb, b, km, kb, S, h1, h3, h12, h13, ent_keysI h5, h6, h8, h0, h7, h9, h10, rfl⟩
  · cases h
theorem gKeys_inv {va vb : Value} {H H' : AH} (h : gKeys [va, vb] H = some H') : ∃ a b ka kb S, va = .map (some a) ∧ vb = .map (some b) ∧ blk H a = some ka ∧ ka.kind = .map ∧ ka.cells = entI S ∧ blk H b = some kb ∧ kb.kind = .map ∧ a ≠ b ∧ kb.cells = [] ∧ S.Nodup ∧ H' = put H b kb (entI S) := by
  unfold gKeys at h
  split at h
  · rename_i a b heq
    obtain ⟨h1, h2⟩ := List.cons.inj heq
    obtain ⟨h3, _⟩ := List.cons.inj h2
    obtain ⟨km, h4, h⟩ := bind_some h
    obtain ⟨S, h5, h⟩ := bind_some h
    obtain ⟨kb, h6, h⟩ := bind_some h
    obtain ⟨⟨h0, h7, h8⟩, h11⟩ := aChk_some h
    obtain ⟨h12, h13⟩ := mapB_inv h4
    obtain ⟨h14, h15⟩ := mapB_inv h6
    cases h11
    exact ⟨a, b, km, kb, S, h1, h3, h12, h13, ent_keysI h5, h14, h15, h0, h7, h8, rfl⟩
  · cases h
end Go.AM
set_option linter.unusedVariables false
set_option linter.unusedSimpArgs false
set_option maxRecDepth 100000
namespace Go.AM.C
open Go Go.AM Go.Proofs
noncomputable section
def mText : Mid := ⟨[1, 1, 1, 1, 0], 52, [1, 3], [3], gText⟩
def mCommit : Mid := ⟨[1, 1, 1, 0], 49, [0, 5], [0, 1, 5], gCommit⟩
variable {call : CallF} {n0 : Nat} {tb : Tbl}
noncomputable abbrev cT (p : List Nat) : Code := codeAt (bodyOf Tryd.f35) ([1, 1, 1, 1, 0] ++ p)
abbrev tkT (s x : Value) : List Value := ((List.replicate 52 unk).set 3 s).set 34 x
abbrev t5T (s x : Value) (n : Int) : List Value := ((tkT s x).set 35 (.tuple #[.bool true, .int .i64 n, .bool true])).set 36 (.bool true)
abbrev t6T (s x : Value) (n : Int) : List Value := (((t5T s x n).set 37 (.tuple #[.int .i64 n, .bool true])).set 38 (.int .i64 n)).set 5 (.int .i64 n)
theorem bodyT (s x : Value) (n : Int) (H : AH) : evalK Tryd.prog call n0 tb (cT [1, 0, 0, 1, 1, 0, 1]) (t6T s x n) H (fun e T H => some (e, T, H)) =
    (bin Tryd.prog .quo 3 (.int .i64 n) (.int .i64 8)).bind fun v41 => (bin Tryd.prog .add 3 (.int .i64 8) v41).bind fun v42 => (ixA Tryd.prog 55 s v42).bind fun v43 => (ld Tryd.prog 5 H v43).bind fun v44 =>
      (bin Tryd.prog .rem 3 (.int .i64 n) (.int .i64 8)).bind fun v46 => (bin Tryd.prog .shl 5 (.int .u8 1) v46).bind fun v47 => (bin Tryd.prog .or 5 v44 v47).bind fun v48 => (ixA Tryd.prog 55 s v42).bind fun v49 => (st Tryd.prog 5 H v49 v48).bind fun h =>
      some (.normal, ((((((((((t6T s x n).set 39 s).set 40 (.int .i64 n)).set 41 v41).set 42 v42).set 43 v43).set 44 v44).set 45 (.int .i64 n)).set 46 v46).set 47 v47 |>.set 48 v48).set 49 v49, h) := by kernel_rfl
theorem preT (g : Nat → Value) (H : AH) : evOps Tryd.prog call (opsAt (cT [0])) ((opsAt (cT [0])).toList.take 2) ((List.range 52).map g) H (fun T H => some (T, H)) =
    (fldA Tryd.prog 62 (g 1) 2).bind fun v => (ld Tryd.prog 60 H v).bind fun mv => some ((((List.range 52).map g).set 32 v).set 33 mv, H) := by kernel_rfl
theorem codeT : cT [] = .seq (.region 8 (opsAt (cT [0])) false) (.block 2 (.loop (.seq (.region 9 (opsAt (cT [1, 0, 0, 0])) false) (.seq (.cond (.tmp 36) .skip (.exit 2)) (.block 3 (.seq (.region 10 (opsAt (cT [1, 0, 0, 1, 1, 0, 0])) false) (cT [1, 0, 0, 1, 1, 0, 1]))))))) := by kernel_rfl
theorem ldC_of {t : TypeId} {H : AH} {b o : Nat} {v : Value} (ha : aggT Tryd.prog t = some false) (h : ldC H (ptr b o) = some v) : ld Tryd.prog t H (ptr b o) = some v := by
  unfold ld; rw [ha]; exact h
theorem mText_ok (hcall : CallOK Tryd.prog call) (hdraw : DrawOK Tryd.prog call) (hmix : (Tryd.prog).follows .mixedOrders = true) : MidOK Tryd.prog (bodyOf Tryd.f35) mText := by
  intro T H H' hlen h
  have hT := list_of (n := 52) hlen
  generalize hg : (fun i => T.getD i undef) = g at hT
  have hg1 : T.getD 1 undef = g 1 := by rw [← hg]
  have hg3 : T.getD 3 undef = g 3 := by rw [← hg]
  have h0 : gText [g 1, g 3] H = some H' := by rw [← hg1, ← hg3]; exact h
  clear h
  unfold gText at h0
  split at h0
  case h_2 => cases h0
  rename_i hb s heq
  obtain ⟨q1, q2⟩ := List.cons.inj heq
  obtain ⟨q3, _⟩ := List.cons.inj q2
  obtain ⟨mv, hmv, h0⟩ := bind_some h0
  cases hgb : gBits [mv, s] H with
  | none => rw [hgb] at h0; cases h0
  | some H2 =>
    rw [hgb] at h0
    have hH' : H2 ++ [none] = H' := Option.some.inj h0
    obtain ⟨a, b, km, kb, S, rfl, hs, b1, b2, b3, b4, b5, b6, b7, b8, b9, rfl⟩ := gBits_inv hgb
    have hsv : g 3 = sl b 0 72 72 := q3.trans hs
    have halt := blk_lt' b1
    have hblt := blk_lt' b4
    have hmid : midT mText T = (List.replicate 52 unk).set 3 (g 3) := by rw [hT]; kernel_rfl
    rw [hmid, hT]
    show CodeSim Tryd.prog none (cT []) _ _ _ _ _
    rw [codeT]
    let HS : List Int → AH := fun S' => (kill H a ++ [none]).set b (some ⟨kb.cells.take 8 ++ bmV S', kb.elem, kb.kind⟩)
    have hHS : ∀ S', blk (HS S') b = some ⟨kb.cells.take 8 ++ bmV S', kb.elem, kb.kind⟩ := fun S' => blk_set_same (by simp [kill]; omega)
    refine range_sim hcall hdraw hmix 0 [] (pre := (opsAt (cT [0])).toList.take 2) (oR := (opsAt (cT [0])).toList.getD 2 op0) (r5 := (opsAt (cT [1, 0, 0, 0])).toList.drop 1) (oN := (opsAt (cT [1, 0, 0, 0])).toList.getD 0 op0) (r6 := (opsAt (cT [1, 0, 0, 1, 1, 0, 0])).toList.drop 1) (oE := (opsAt (cT [1, 0, 0, 1, 1, 0, 0])).toList.getD 0 op0)
      (tm := 60) (kt := 3) (et := 4) (mp := 33) (it := 34) (nx := 35) (en := 37) (ok := 36) (by kernel_rfl) (noGuard (by kernel_rfl)) ⟨by kernel_rfl, by kernel_rfl, by kernel_rfl⟩ (by kernel_rfl) (noGuard (by kernel_rfl)) ⟨by kernel_rfl, by kernel_rfl, by kernel_rfl⟩ (by kernel_rfl) (noGuard (by kernel_rfl)) ⟨by kernel_rfl, by kernel_rfl, by kernel_rfl⟩ (by kernel_rfl) (by kernel_rfl)
      (T1 := (((List.range 52).map g).set 32 (ptr hb 2)).set 33 (.map (some a))) (Tk := tkT (g 3) (ptr H.length 0)) (keep := [3, 34]) (keepM := [3]) (a := a) (km := km) (S0 := S) (T5 := t5T (g 3) (ptr H.length 0)) (T6 := t6T (g 3) (ptr H.length 0)) (T5f := ((tkT (g 3) (ptr H.length 0)).set 35 (.tuple #[.bool false])).set 36 (.bool false))
      ?_ (by kernel_rfl) b1 b2 b3 (by kernel_rfl) (by kernel_rfl) (fun n Hs => by kernel_rfl) (fun n => by kernel_rfl) (fun n => by kernel_rfl) (fun n Hs => by kernel_rfl) (fun Hs => by kernel_rfl) (by kernel_rfl) (by kernel_rfl)
      (fun S' Hs => Hs = HS S') ?_ ?_ ?_ ?_
    · rw [preT, show g 1 = ptr hb 0 from q1, show fldA Tryd.prog 62 (ptr hb 0) 2 = some (ptr hb 2) by kernel_rfl, Option.bind_some, ldC_of (by kernel_rfl) hmv, Option.bind_some]
    · refine (set_at ?_).symm
      rw [List.getElem?_append_left (by simp [kill]; exact hblt)]
      unfold kill
      rw [List.getElem?_set_ne b6]
      have := blk_eq.1 b4
      rw [this, bmV_nil, ← b9, List.take_append_drop]
    · rintro S' Hs rfl
      show blk (List.set _ b _) a = none
      rw [blk_set_ne (Ne.symm b6)]
      unfold blk kill
      rw [List.getElem?_append_left (by simpa using halt), List.getElem?_set_self halt]
      rfl
    · rintro S' n Hs rfl hn hnS
      obtain ⟨hn0, hn1⟩ := b7 n hn
      obtain ⟨k, rfl⟩ : ∃ k : Nat, n = k := ⟨n.toNat, by omega⟩
      have hk8 : k / 8 < 64 := by omega
      have hm8 := Nat.mod_lt k (show 0 < 8 by decide)
      rw [bodyT, hsv]
      rw [show bin Tryd.prog .quo 3 (.int .i64 (k : Int)) (.int .i64 8) = some (i64 (k / 8)) from quoL (by omega), Option.bind_some]
      rw [show bin Tryd.prog .add 3 (.int .i64 8) (i64 (k / 8)) = some (i64 (8 + k / 8)) from by rw [bin_add64 (by omega)]; congr 2, Option.bind_some]
      have hx : ixA Tryd.prog 55 (sl b 0 72 72) (i64 (8 + k / 8)) = some (ptr b (8 + k / 8)) := by
        unfold ixA sl
        rw [show Program.underlying Tryd.prog 55 = some (.slice 5) by kernel_rfl]
        dsimp only
        rw [if_pos ⟨by kernel_rfl, by omega, by omega⟩, show szT Tryd.prog 5 = 1 by kernel_rfl]
        simp
        congr 1
      have hl8 : (kb.cells.take 8).length = 8 := by rw [List.length_take]; omega
      have hgc : (kb.cells.take 8 ++ bmV S')[8 + k / 8]? = some (.int .u8 (bm S' (k / 8) : Int)) := by
        rw [List.getElem?_append_right (by omega), hl8, Nat.add_sub_cancel_left, bmV_at _ hk8]
      rw [hx, Option.bind_some]
      rw [ldC_of (H := HS S') (b := b) (o := 8 + k / 8) (v := .int .u8 (bm S' (k / 8) : Int)) (by kernel_rfl) (by
        unfold ldC AM.ptr
        dsimp only
        rw [hHS, Option.bind_some]
        exact hgc), Option.bind_some]
      rw [show bin Tryd.prog .rem 3 (.int .i64 (k : Int)) (.int .i64 8) = some (i64 (k % 8)) from remL (by decide), Option.bind_some]
      have hshl : ∀ q : Nat, q < 8 → bin Tryd.prog .shl 5 (.int .u8 1) (i64 q) = some (u8 (2 ^ q)) := by
        intro q hq
        have hq8 : q = 0 ∨ q = 1 ∨ q = 2 ∨ q = 3 ∨ q = 4 ∨ q = 5 ∨ q = 6 ∨ q = 7 := by omega
        rcases hq8 with h | h | h | h | h | h | h | h <;> (rw [h]; rfl)
      rw [hshl _ hm8, Option.bind_some]
      have h2 : 2 ^ (k % 8) < 2 ^ 8 := Nat.pow_lt_pow_right (by decide) hm8
      have h2' : 2 ^ (k % 8) < 256 := h2
      have hb2 := bm_lt S' (k / 8)
      rw [show bin Tryd.prog .or 5 (.int .u8 (bm S' (k / 8) : Int)) (u8 (2 ^ (k % 8))) = some (u8 (bm S' (k / 8) ||| 2 ^ (k % 8))) by
        rw [bin_or]
        congr 2
        have e1 : IntKind.u8.bits = 8 := rfl
        rw [e1, BitVec.toNat_or]
        rw [show (BitVec.ofInt 8 (bm S' (k / 8) : Int)).toNat = bm S' (k / 8) by rw [BitVec.toNat_ofInt]; omega, show (BitVec.ofInt 8 ((2 ^ (k % 8) : Nat) : Int)).toNat = 2 ^ (k % 8) by
          rw [BitVec.toNat_ofInt]
          have hz := h2'
          generalize 2 ^ (k % 8) = z at hz ⊢
          omega]
        rw [wrapu8]
        have := Nat.or_lt_two_pow (n := 8) hb2 h2
        omega, Option.bind_some, Option.bind_some]
      have hst : st Tryd.prog 5 (HS S') (ptr b (8 + k / 8)) (u8 (bm S' (k / 8) ||| 2 ^ (k % 8))) = some (HS ((k : Int) :: S')) := by
        unfold st
        rw [show aggT Tryd.prog 5 = some false by kernel_rfl]
        dsimp only
        rw [if_pos (by kernel_rfl)]
        unfold stC AM.ptr
        dsimp only
        rw [hHS, Option.bind_some, if_pos ⟨by show BK.wr kb.kind = true; rw [b5]; rfl, by show 8 + k / 8 < (kb.cells.take 8 ++ bmV S').length; rw [List.length_append, hl8, bmV_len]; omega, rfl⟩]
        congr 1
        show List.set (List.set _ b _) b _ = List.set _ b _
        rw [List.set_set]
        congr 3
        dsimp only
        rw [List.set_append_right _ _ (by omega), hl8, Nat.add_sub_cancel_left]
        have := bmV_cons (n := (k : Int)) (S := S') (by rw [Int.toNat_natCast]; exact hk8)
        rw [Int.toNat_natCast] at this
        rw [this]
      rw [hst, Option.bind_some]
      exact ⟨_, _, rfl, by kernel_rfl, rfl⟩
    · rintro S' Hs rfl _ hS
      have e : (HS S').set a (some km) = H' := by
        rw [← hH']
        show ((kill H a ++ [none]).set b _).set a _ = List.set H b _ ++ [none]
        rw [bmV_congr hS]
        apply List.ext_getElem?
        intro i
        have hka : kill H a ++ [none] = (H ++ [none]).set a none := by unfold kill; rw [List.set_append_left _ _ halt]
        have hkb : ∀ o : Option Blk, List.set H b o ++ [none] = (H ++ [none]).set b o := fun o => by rw [List.set_append_left _ _ hblt]
        rw [hka, hkb]
        simp only [List.getElem?_set, List.length_set]
        by_cases h1 : a = i
        · subst h1
          rw [if_pos rfl, if_neg (Ne.symm b6), if_pos (by simp; omega), List.getElem?_append_left halt]
          exact (blk_eq.1 b1).symm
        · rw [if_neg h1]
          by_cases h2 : b = i
          · subst h2; rw [if_pos rfl, if_pos rfl]
          · rw [if_neg h2, if_neg h2, if_neg h1]
      rw [e]
      refine ⟨?_, fun b k' hk => ⟨k', hk, rfl⟩, fun _ _ _ _ R => R⟩
      rw [← e, List.length_set]
noncomputable abbrev cC (p : List Nat) : Code := codeAt (bodyOf Tryd.f13) ([1, 1, 1, 0] ++ p)
abbrev tkC (s0 s1 s5 x : Value) : List Value := ((((List.replicate 49 unk).set 0 s0).set 1 s1).set 5 s5).set 21 x
abbrev t5C (s0 s1 s5 x : Value) (n : Int) : List Value := ((tkC s0 s1 s5 x).set 22 (.tuple #[.bool true, .int .i64 n, .bool true])).set 23 (.bool true)
abbrev t6C (s0 s1 s5 x : Value) (n : Int) : List Value := (((t5C s0 s1 s5 x n).set 24 (.tuple #[.int .i64 n, .bool true])).set 25 (.int .i64 n)).set 6 (.int .i64 n)
theorem bodyC (s0 s1 s5 x : Value) (n : Int) (H : AH) : evalK Tryd.prog call n0 tb (cC [1, 0, 0, 1, 1, 0, 1]) (t6C s0 s1 s5 x n) H (fun e T H => some (e, T, H)) =
    (fldA Tryd.prog 62 s5 2).bind fun v26 => (ld Tryd.prog 60 H v26).bind fun v27 => (mpU Tryd.prog 60 H v27 (.int .i64 n) (.bool true)).bind fun h =>
      some (.normal, (((t6C s0 s1 s5 x n).set 26 v26).set 27 v27).set 28 (.int .i64 n), h) := by kernel_rfl
theorem preC (g : Nat → Value) (H : AH) : evOps Tryd.prog call (opsAt (cC [0])) ((opsAt (cC [0])).toList.take 5) ((List.range 49).map g) H (fun T H => some (T, H)) =
    (nilChk (g 0)).bind fun v17 => (fldA Tryd.prog 65 v17 0).bind fun v18 => (fldA Tryd.prog 62 v18 2).bind fun v19 => (ld Tryd.prog 60 H v19).bind fun mv => some ((((((List.range 49).map g).set 16 (g 0)).set 17 v17).set 18 v18).set 19 v19 |>.set 20 mv, H) := by kernel_rfl
theorem codeC : cC [] = .seq (.region 4 (opsAt (cC [0])) false) (.block 0 (.loop (.seq (.region 5 (opsAt (cC [1, 0, 0, 0])) false) (.seq (.cond (.tmp 23) .skip (.exit 0)) (.block 1 (.seq (.region 6 (opsAt (cC [1, 0, 0, 1, 1, 0, 0])) false) (cC [1, 0, 0, 1, 1, 0, 1]))))))) := by kernel_rfl
theorem mCommit_ok (hcall : CallOK Tryd.prog call) (hdraw : DrawOK Tryd.prog call) (hmix : (Tryd.prog).follows .mixedOrders = true) : MidOK Tryd.prog (bodyOf Tryd.f13) mCommit := by
  intro T H H' hlen h
  have hT := list_of (n := 49) hlen
  generalize hg : (fun i => T.getD i undef) = g at hT
  have hg0 : T.getD 0 undef = g 0 := by rw [← hg]
  have hg5 : T.getD 5 undef = g 5 := by rw [← hg]
  have h0 : gCommit [g 0, g 5] H = some H' := by rw [← hg0, ← hg5]; exact h
  clear h
  unfold gCommit at h0
  split at h0
  case h_2 => cases h0
  rename_i pb hb heq
  obtain ⟨q1, q2⟩ := List.cons.inj heq
  obtain ⟨q3, _⟩ := List.cons.inj q2
  obtain ⟨va, hva, h0⟩ := bind_some h0
  obtain ⟨vb, hvb, h0⟩ := bind_some h0
  obtain ⟨hne, h0⟩ := aChk_some h0
  cases hgb : gKeys [va, vb] H with
  | none => rw [hgb] at h0; cases h0
  | some H2 =>
    rw [hgb] at h0
    have hH' : H2 ++ [none] = H' := Option.some.inj h0
    obtain ⟨a, b, ka, kb, S, rfl, rfl, b1, b2, b3, b4, b5, b6, b7, b8, rfl⟩ := gKeys_inv hgb
    have hna : hb ≠ a := hne a (.inl rfl)
    have hnb : hb ≠ b := hne b (.inr rfl)
    have halt := blk_lt' b1
    have hblt := blk_lt' b4
    have hmid : midT mCommit T = (((List.replicate 49 unk).set 0 (g 0)).set 1 (g 1)).set 5 (g 5) := by rw [hT]; kernel_rfl
    rw [hmid, hT]
    show CodeSim Tryd.prog none (cC []) _ _ _ _ _
    rw [codeC]
    let HS : List Int → AH := fun S' => (kill H a ++ [none]).set b (some ⟨entI S'.reverse, kb.elem, .map⟩)
    have hHS : ∀ S', blk (HS S') b = some ⟨entI S'.reverse, kb.elem, .map⟩ := fun S' => blk_set_same (by simp [kill]; omega)
    have hhb : ∃ kh, blk H hb = some kh ∧ kh.cells[2]? = some (.map (some b)) := by
      unfold ldC AM.ptr at hvb
      exact bind_some hvb
    obtain ⟨kh, h1, h2⟩ := hhb
    have hhlt := blk_lt' h1
    refine range_sim hcall hdraw hmix 0 [] (pre := (opsAt (cC [0])).toList.take 5) (oR := (opsAt (cC [0])).toList.getD 5 op0) (r5 := (opsAt (cC [1, 0, 0, 0])).toList.drop 1) (oN := (opsAt (cC [1, 0, 0, 0])).toList.getD 0 op0) (r6 := (opsAt (cC [1, 0, 0, 1, 1, 0, 0])).toList.drop 1) (oE := (opsAt (cC [1, 0, 0, 1, 1, 0, 0])).toList.getD 0 op0)
      (tm := 60) (kt := 3) (et := 4) (mp := 20) (it := 21) (nx := 22) (en := 24) (ok := 23) (by kernel_rfl) (noGuard (by kernel_rfl)) ⟨by kernel_rfl, by kernel_rfl, by kernel_rfl⟩ (by kernel_rfl) (noGuard (by kernel_rfl)) ⟨by kernel_rfl, by kernel_rfl, by kernel_rfl⟩ (by kernel_rfl) (noGuard (by kernel_rfl)) ⟨by kernel_rfl, by kernel_rfl, by kernel_rfl⟩ (by kernel_rfl) (by kernel_rfl)
      (T1 := (((((List.range 49).map g).set 16 (g 0)).set 17 (ptr pb 0)).set 18 (ptr pb 0)).set 19 (ptr pb 2) |>.set 20 (.map (some a))) (Tk := tkC (g 0) (g 1) (g 5) (ptr H.length 0)) (keep := [0, 1, 5, 21]) (keepM := [0, 1, 5]) (a := a) (km := ka) (S0 := S) (T5 := t5C (g 0) (g 1) (g 5) (ptr H.length 0)) (T6 := t6C (g 0) (g 1) (g 5) (ptr H.length 0)) (T5f := ((tkC (g 0) (g 1) (g 5) (ptr H.length 0)).set 22 (.tuple #[.bool false])).set 23 (.bool false))
      ?_ (by kernel_rfl) b1 b2 b3 (by kernel_rfl) (by kernel_rfl) (fun n Hs => by kernel_rfl) (fun n => by kernel_rfl) (fun n => by kernel_rfl) (fun n Hs => by kernel_rfl) (fun Hs => by kernel_rfl) (by kernel_rfl) (by kernel_rfl)
      (fun S' Hs => Hs = HS S') ?_ ?_ ?_ ?_
    · rw [preC, show g 0 = ptr pb 0 from q1, show nilChk (ptr pb 0) = some (ptr pb 0) by kernel_rfl, Option.bind_some, show fldA Tryd.prog 65 (ptr pb 0) 0 = some (ptr pb 0) by kernel_rfl, Option.bind_some, show fldA Tryd.prog 62 (ptr pb 0) 2 = some (ptr pb 2) by kernel_rfl, Option.bind_some, ldC_of (by kernel_rfl) hva, Option.bind_some]
    · refine (set_at ?_).symm
      rw [List.getElem?_append_left (by simp [kill]; exact hblt)]
      unfold kill
      rw [List.getElem?_set_ne b6]
      have h3 := blk_eq.1 b4
      rw [h3, ← b5]
      congr 2
      obtain ⟨c, e, k⟩ := kb
      show Blk.mk c e k = Blk.mk (entI []) e k
      congr 1
    · rintro S' Hs rfl
      show blk (List.set _ b _) a = none
      rw [blk_set_ne (Ne.symm b6)]
      unfold blk kill
      rw [List.getElem?_append_left (by simpa using halt), List.getElem?_set_self halt]
      rfl
    · rintro S' n Hs rfl hn hnS
      have hld : ldC (HS S') (ptr hb 2) = some (.map (some b)) := by
        unfold ldC AM.ptr
        dsimp only
        have : blk (HS S') hb = some kh := by
          show blk (List.set _ b _) hb = _
          rw [blk_set_ne (Ne.symm hnb)]
          unfold blk kill
          rw [List.getElem?_append_left (by simpa using hhlt), List.getElem?_set_ne (Ne.symm hna)]
          exact h1
        rw [this]
        exact h2
      rw [bodyC, show g 5 = ptr hb 0 from q3, show fldA Tryd.prog 62 (ptr hb 0) 2 = some (ptr hb 2) by kernel_rfl, Option.bind_some, ldC_of (by kernel_rfl) hld, Option.bind_some]
      have hmp : mpU Tryd.prog 60 (HS S') (.map (some b)) (.int .i64 n) (.bool true) = some (HS (n :: S')) := by
        unfold mpU mapB
        rw [show Program.underlying Tryd.prog 60 = some (.map 3 4) by kernel_rfl]
        dsimp only
        rw [show Program.underlying Tryd.prog 3 = some (.int .i64) by kernel_rfl, Option.bind_some, hHS, Option.bind_some, if_pos rfl, Option.bind_some, if_pos ⟨rfl, rfl⟩]
        dsimp only
        rcases keyAt_entI S'.reverse n with ⟨_, h4⟩ | ⟨h3, _⟩
        · rw [h4, Option.map_some]
          dsimp only
          congr 1
          show List.set (List.set _ b _) b _ = List.set _ b _
          rw [List.set_set, List.reverse_cons, entI_snoc]
        · exact (hnS (List.mem_reverse.1 h3)).elim
      rw [hmp, Option.bind_some]
      exact ⟨_, _, rfl, by kernel_rfl, rfl⟩
    · rintro S' Hs rfl hSn hS
      have e : ∀ C, ((kill H a ++ [none]).set b C).set a (some ka) = List.set H b C ++ [none] := by
        intro C
        apply List.ext_getElem?
        intro i
        have hka : kill H a ++ [none] = (H ++ [none]).set a none := by unfold kill; rw [List.set_append_left _ _ halt]
        have hkb : ∀ o : Option Blk, List.set H b o ++ [none] = (H ++ [none]).set b o := fun o => by rw [List.set_append_left _ _ hblt]
        rw [hka, hkb]
        simp only [List.getElem?_set, List.length_set]
        by_cases h1 : a = i
        · subst h1
          rw [if_pos rfl, if_neg (Ne.symm b6), if_pos (by simp; omega), List.getElem?_append_left halt]
          exact (blk_eq.1 b1).symm
        · rw [if_neg h1]
          by_cases h2 : b = i
          · subst h2; rw [if_pos rfl, if_pos rfl]
          · rw [if_neg h2, if_neg h2, if_neg h1]
      have e2 : H' = ((HS S').set a (some ka)).set b (some ⟨entI S, kb.elem, .map⟩) := by
        rw [← hH', e]
        show List.set H b (some ⟨entI S, kb.elem, kb.kind⟩) ++ [none] = _
        rw [b5, List.set_append_left _ _ (by rw [List.length_set]; exact hblt), List.set_set]
      have hb2 : blk ((HS S').set a (some ka)) b = some ⟨entI S'.reverse, kb.elem, .map⟩ := by rw [blk_set_ne b6]; exact hHS S'
      have hperm : S'.reverse.Perm S := (List.reverse_perm S').trans ((List.perm_ext_iff_of_nodup hSn b8).2 hS)
      rw [e2]
      refine ⟨by simp, fun b0 k' hk => ?_, fun _ _ _ _ R => R.permMap hb2 hperm⟩
      by_cases h3 : b = b0
      · subst h3
        rw [blk_set_same (by rw [List.length_set]; show b < (List.set _ b _).length; simp [kill]; omega)] at hk
        cases hk
        exact ⟨_, hb2, rfl⟩
      · rw [blk_set_ne h3] at hk
        exact ⟨k', hk, rfl⟩
end
end Go.AM.C
set_option linter.unusedVariables false
set_option maxRecDepth 100000
namespace Go.AM.C
open Go Go.AM Go.Proofs
noncomputable section
@[irreducible] def long0 : ByteArray := ⟨#[32, 32, 32, 32, 32, 32, 32, 32, 32, 32, 32, 32, 32, 32, 32, 32, 32, 32, 32, 32, 32, 32, 32, 32, 32, 32, 32, 32, 32, 32, 32, 32, 32, 32, 32, 32, 32, 32, 32, 32, 32, 32, 32, 32, 32, 32, 32, 32, 32, 32, 32, 32, 32, 32, 32, 32, 32, 32, 32, 32, 32, 32, 32, 32, 32, 32, 32, 32, 32, 32, 32, 32, 32, 32, 32, 32, 32, 32, 32, 32, 32, 32, 32, 32, 32, 32, 32, 32, 32, 32, 32, 32, 32, 32, 32, 32, 32, 32, 32, 32, 32, 32, 32, 32, 32, 32, 32, 32, 32, 32, 32, 32, 32, 32, 32, 32, 32, 32, 32, 32, 32, 32, 32, 32, 32, 32, 32, 32]⟩
@[irreducible] def long1 : ByteArray := ⟨#[45, 45, 45, 45, 45, 45, 45, 45, 45, 45, 45, 45, 45, 45, 45, 45, 45, 45, 45, 45, 45, 45, 45, 45, 45, 45, 45, 45, 45, 45, 45, 45, 45, 45, 45, 45, 45, 45, 45, 45, 45, 45, 45, 45, 45, 45, 45, 45, 45, 45, 45, 45, 45, 45, 45, 45, 45, 45, 45, 45, 45, 45, 45, 45, 45, 45, 45, 45, 45, 45, 45, 45, 45, 45, 45, 45, 45, 45, 45, 45, 45, 45, 45, 45, 45, 45, 45, 45, 45, 45, 45, 45, 45, 45, 45, 45, 45, 45, 45, 45, 45, 45, 45, 45, 45, 45, 45, 45, 45, 45, 45, 45, 45, 45, 45, 45, 45, 45, 45, 45, 45, 45, 45, 45, 45, 45, 45, 45]⟩
@[irreducible] def long2 : ByteArray := ⟨#[48, 48, 48, 48, 48, 48, 48, 48, 48, 48, 48, 48, 48, 48, 48, 48, 48, 48, 48, 48, 48, 48, 48, 48, 48, 48, 48, 48, 48, 48, 48, 48, 48, 48, 48, 48, 48, 48, 48, 48, 48, 48, 48, 48, 48, 48, 48, 48, 48, 48, 48, 48, 48, 48, 48, 48, 48, 48, 48, 48, 48, 48, 48, 48]⟩
@[irreducible] def long3 : ByteArray := ⟨#[61, 61, 61, 61, 61, 61, 61, 61, 61, 61, 61, 61, 61, 61, 61, 61, 61, 61, 61, 61, 61, 61, 61, 61, 61, 61, 61, 61, 61, 61, 61, 61, 61, 61, 61, 61, 61, 61, 61, 61, 61, 61, 61, 61, 61, 61, 61, 61, 61, 61, 61, 61, 61, 61, 61, 61, 61, 61, 61, 61, 61, 61, 61, 61, 61, 61, 61, 61, 61, 61, 61, 61, 61, 61, 61, 61, 61, 61, 61, 61, 61, 61, 61, 61, 61, 61, 61, 61, 61, 61, 61, 61, 61, 61, 61, 61, 61, 61, 61, 61, 61, 61, 61, 61, 61, 61, 61, 61, 61, 61, 61, 61, 61, 61, 61, 61, 61, 61, 61, 61, 61, 61, 61, 61, 61, 61, 61, 61]⟩
def tbs : FuncId → Tbl
  | 3 => [(63, [1, 5])]
  | 8 => [(16, [4, 14, 15, 16]), (17, [4])]
  | 9 => [(16, [2, 4, 5]), (17, [2, 4])]
  | 11 => [(10, [1, 2, 3, 4]), (11, [2, 3])]
  | 13 => [(28, [0, 1, 5, 32, 33, 34]), (29, [0, 1, 5])]
  | 15 => [(16, [1, 3, 21, 22, 23]), (17, [2])]
  | 21 => [(10, [0, 3, 4]), (11, [3]), (19, [0, 3, 4, 5]), (20, [0, 3, 4])]
  | 22 => [(10, [0, 3, 6, 7]), (11, [3])]
  | 23 => [(13, [2, 3, 5]), (14, [4])]
  | 26 => [(10, [2, 3, 26, 27, 28]), (11, [2, 3, 4])]
  | 28 => [(2, [28]), (13, [4, 5, 6]), (14, [4, 5, 6])]
  | 31 => [(7, [0, 1, 7, 8]), (8, [4])]
  | 35 => [(10, [1, 3, 7]), (11, [1, 3])]
  | 37 => [(4, [0, 6, 7, 8]), (5, [0])]
  | 40 => [(10, [0, 1, 6, 16, 17]), (11, [0, 1, 4, 5, 6]), (31, [0, 1, 6, 32, 33, 34]), (32, [4, 5, 6]), (45, [0, 1, 6, 10, 11, 32, 33, 34])]
  | 51 => [(13, [0, 10, 11]), (14, [2, 3])]
  | 53 => [(7, [0, 2, 4, 5]), (8, [])]
  | 58 => [(10, [3, 6, 7, 8]), (11, [3])]
  | 59 => [(24, [0, 1]), (33, [0, 6]), (90, [0, 7]), (105, [0, 7, 8]), (115, [7, 8, 9]), (116, [9])]
  | 62 => [(16, [0, 1, 7, 17]), (17, [4, 5, 6, 7])]
  | 63 => [(7, [0, 1, 7, 8]), (8, [4])]
  | 70 => [(10, [0, 3, 6, 7]), (11, [3]), (22, [0, 3, 6, 7, 16]), (23, [0, 3, 6, 7])]
  | 71 => [(2, [71]), (22, [3, 4, 5]), (23, [0, 3, 4, 5])]
  | 80 => [(4, [0, 1, 3]), (5, [])]
  | 81 => [(4, [0, 1]), (5, [0])]
  | 82 => [(4, [0, 1]), (5, [0])]
  | 83 => [(7, [0, 2, 4]), (8, [2, 3])]
  | 84 => [(4, [0, 1]), (5, [0])]
  | 85 => [(4, [0, 1]), (5, [0])]
  | 86 => [(4, [0, 1]), (5, [0])]
  | 87 => [(4, [0, 1]), (5, [0]), (15, [0, 1, 5, 6])]
  | 91 => [(31, [0, 4, 5, 6]), (32, [0, 4, 5]), (45, [0, 4, 5])]
  | 93 => [(16, [0, 7, 8, 9]), (17, [4]), (33, [0, 7, 8, 9]), (37, [0, 7, 8, 9, 12]), (38, [8, 9])]
  | _ => []
noncomputable def gv : Given := fun f => if f = 57 then some (plain (gCopy Tryd.prog [95])) else if f = 68 then some (plain (gGrow Tryd.prog [95] 5)) else if f = 35 then some (fun call n => runMid Tryd.prog call n (tbs 35) mText Tryd.f35) else if f = 13 then some (fun call n => runMid Tryd.prog call n (tbs 13) mCommit Tryd.f13) else none
noncomputable abbrev rn (k : Nat) : CallF := run Tryd.prog tbs gv k
theorem ranges : rangesB Tryd.prog tbs = true := by kernel_rfl
abbrev f3_T_J0 (s1 s5 : Value) : List Value := [unk, s1, unk, unk, unk, s5, unk, unk, unk, unk, unk, unk, unk, unk, unk, unk, unk, unk, unk, unk, unk, unk, unk, unk, unk, unk, unk, unk, unk, unk, unk, unk, unk, unk, unk, unk, unk, unk, unk, unk, unk, unk, unk, unk, unk, unk, unk, unk, unk, unk, unk, unk, unk, unk, unk, unk, unk, unk, unk, unk, unk, unk, unk, unk, unk, unk, unk, unk, unk, unk, unk, unk, unk, unk, unk, unk, unk, unk, unk, unk, unk, unk, unk, unk, unk, unk, unk, unk, unk, unk, unk, unk, unk, unk, unk, unk, unk, unk, unk, unk, unk, unk, unk, unk, unk, unk, unk, unk, unk, unk, unk, unk, unk, unk, unk, unk, unk, unk, unk, unk, unk, unk, unk, unk, unk, unk, unk, unk, unk, unk, unk, unk, unk, unk, unk]
@[irreducible] def f3_J0 (k : Nat) (s1 s5 : Value) (H : AH) : Option (Value × AH) := resume Tryd.prog (rn k) k (tbs 3) (bodyOf Tryd.f3) [1, 1, 1, 1, 1, 1, 1, 1, 1, 0] .normal (f3_T_J0 s1 s5) H (resK Tryd.prog Tryd.f3.results.toList)
theorem f3_J0_eq (k : Nat) (s1 s5 : Value) (H : AH) : f3_J0 k s1 s5 H =
b2 (rn k 9 [s1] H) fun v65 h65 =>
(ext v65 0).bind fun v66 =>
(ext v65 1).bind fun v67 =>
b2 (newV Tryd.prog 24 h65) fun v68 h68 =>
(st Tryd.prog 24 h68 v68 v66).bind fun h69 =>
(ld Tryd.prog 24 h69 v68).bind fun v70 =>
b2 (rn k 8 [v70] h69) fun v71 h71 =>
(ext v71 0).bind fun v72 =>
(ext v71 1).bind fun v73 =>
b2 (gOp s5 true (some (v67, h71)) h71) fun v74 h74 =>
b2 (gOp s5 true ((bin Tryd.prog .neq 28 v74 (.int .i64 0)).bind fun v => some (v, h74)) h74) fun v75 h75 =>
b2 (gOp s5 true (some (v75, h75)) h75) fun v76 h76 =>
b2 (gOp v76 false (some (v73, h76)) h76) fun v77 h77 =>
b2 (gOp v76 false ((bin Tryd.prog .eql 28 v77 (.int .i64 0)).bind fun v => some (v, h77)) h77) fun v78 h78 =>
b2 (gOp v76 false (some (v78, h78)) h78) fun v79 h79 =>
b2 (gOp v79 true (some (v72, h79)) h79) fun v80 h80 =>
b2 (gOp v79 true (some (s1, h80)) h80) fun v81 h81 =>
b2 (gOp v79 true ((bin Tryd.prog .eql 9 v80 v81).bind fun v => some (v, h81)) h81) fun v82 h82 =>
b2 (gOp v76 false ((pickV v79 v82 (.bool false)).bind fun v => some (v, h82)) h82) fun v83 h83 =>
b2 (gOp v76 false (some (v83, h83)) h83) fun v84 h84 =>
b2 (gOp v84 true ((ld Tryd.prog 24 h84 v68).bind fun v => some (v, h84)) h84) fun v85 h85 =>
b2 (gOp v84 true (b2 (rn k 15 [v85] h85) fun v h => some (v, h)) h85) fun v86 h86 =>
b2 (gOp v76 false ((pickV v84 v86 (.bool false)).bind fun v => some (v, h86)) h86) fun v87 h87 =>
b2 (gOp s5 true ((pickV v76 (.bool true) v87).bind fun v => some (v, h87)) h87) fun v88 h88 =>
(pickV s5 v88 (.bool false)).bind fun v89 =>
some (v89, h88) := by kernel_rfl
theorem f3_eq (k : Nat) (a0 a1 : Value) (H : AH) : rn (k + 1) 3 [a0, a1] H =
b2 (box 24 H a0) fun v1 h1 =>
b2 (rn k 4 [] h1) fun v2 h2 =>
(un Tryd.prog .not v2).bind fun v3 =>
aIf v3
 (some ((.bool false), h2))
 ((ld Tryd.prog 24 h2 v1).bind fun v4 =>
 b2 (rn k 5 [v4] h2) fun v5 h5 =>
 (st Tryd.prog 24 h5 v1 v5).bind fun h6 =>
 b2 (rn k 6 [(.int .i64 20)] h6) fun v7 h7 =>
 (ext v7 0).bind fun v8 =>
 (ext v7 1).bind fun v9 =>
 (bin Tryd.prog .eql 27 v8 (.pointer none)).bind fun v10 =>
 b2 (gOp v10 false (some (v9, h7)) h7) fun v11 h11 =>
 b2 (gOp v10 false ((bin Tryd.prog .neq 28 v11 (.int .i64 0)).bind fun v => some (v, h11)) h11) fun v12 h12 =>
 (pickV v10 (.bool true) v12).bind fun v13 =>
 aIf v13
  (some ((.bool false), h12))
  (b2 (rn k 7 [v8] h12) fun v14 h14 =>
  (ext v14 0).bind fun v15 =>
  (ext v14 1).bind fun v16 =>
  (bin Tryd.prog .eql 31 v15 (.pointer none)).bind fun v17 =>
  b2 (gOp v17 false (some (v16, h14)) h14) fun v18 h18 =>
  b2 (gOp v17 false ((bin Tryd.prog .neq 28 v18 (.int .i64 0)).bind fun v => some (v, h18)) h18) fun v19 h19 =>
  (pickV v17 (.bool true) v19).bind fun v20 =>
  aIf v20
   (some ((.bool false), h19))
   ((ld Tryd.prog 24 h19 v1).bind fun v21 =>
   b2 (rn k 8 [v21] h19) fun v22 h22 =>
   (ext v22 0).bind fun v23 =>
   (ext v22 1).bind fun v24 =>
   (bin Tryd.prog .eql 28 v24 (.int .i64 0)).bind fun v25 =>
   aIf v25
    (b2 (rn k 9 [v23] h22) fun v26 h26 =>
    (ext v26 0).bind fun v27 =>
    (ext v26 1).bind fun v28 =>
    b2 (newV Tryd.prog 24 h26) fun v29 h29 =>
    (st Tryd.prog 24 h29 v29 v27).bind fun h30 =>
    (ld Tryd.prog 24 h30 v29).bind fun v31 =>
    (ld Tryd.prog 24 h30 v1).bind fun v32 =>
    b2 (rn k 11 [v32] h30) fun v33 h33 =>
    aChk (ld Tryd.prog 24 h33 v29 = some v31) <|
    b2 (rn k 10 [v31, v33] h33) fun v34 h34 =>
    (ld Tryd.prog 24 h34 v1).bind fun v35 =>
    b2 (rn k 12 [v15, v35] h34) fun v36 h36 =>
    (ext v36 0).bind fun v37 =>
    (ext v36 1).bind fun v38 =>
    b2 (rn k 13 [v15, v37] h36) fun v39 h39 =>
    b2 (rn k 14 [v15] h39) fun v40 h40 =>
    (ext v40 0).bind fun v41 =>
    (ext v40 1).bind fun v42 =>
    b2 (newV Tryd.prog 24 h40) fun v43 h43 =>
    (st Tryd.prog 24 h43 v43 v41).bind fun h44 =>
    (ld Tryd.prog 24 h44 v43).bind fun v45 =>
    (ld Tryd.prog 24 h44 v1).bind fun v46 =>
    b2 (rn k 11 [v46] h44) fun v47 h47 =>
    aChk (ld Tryd.prog 24 h47 v43 = some v45) <|
    b2 (rn k 10 [v45, v47] h47) fun v48 h48 =>
    (bin Tryd.prog .neq 28 v28 (.int .i64 0)).bind fun v49 =>
    b2 (gOp v49 false (some (v34, h48)) h48) fun v50 h50 =>
    b2 (gOp v49 false ((un Tryd.prog .not v50).bind fun v => some (v, h50)) h50) fun v51 h51 =>
    (pickV v49 (.bool true) v51).bind fun v52 =>
    b2 (gOp v52 false (some (v38, h51)) h51) fun v53 h53 =>
    b2 (gOp v52 false ((bin Tryd.prog .neq 28 v53 (.int .i64 0)).bind fun v => some (v, h53)) h53) fun v54 h54 =>
    (pickV v52 (.bool true) v54).bind fun v55 =>
    b2 (gOp v55 false (some (v39, h54)) h54) fun v56 h56 =>
    b2 (gOp v55 false ((bin Tryd.prog .neq 28 v56 (.int .i64 0)).bind fun v => some (v, h56)) h56) fun v57 h57 =>
    (pickV v55 (.bool true) v57).bind fun v58 =>
    b2 (gOp v58 false (some (v42, h57)) h57) fun v59 h59 =>
    b2 (gOp v58 false ((bin Tryd.prog .neq 28 v59 (.int .i64 0)).bind fun v => some (v, h59)) h59) fun v60 h60 =>
    (pickV v58 (.bool true) v60).bind fun v61 =>
    b2 (gOp v61 false (some (v48, h60)) h60) fun v62 h62 =>
    b2 (gOp v61 false ((un Tryd.prog .not v62).bind fun v => some (v, h62)) h62) fun v63 h63 =>
    (pickV v61 (.bool true) v63).bind fun v64 =>
    aIf v64
     (some ((.bool false), h63))
     (f3_J0 k a1 v2 h63))
    (f3_J0 k a1 v2 h22)))) := by kernel_rfl
theorem f4_eq (k : Nat) (H : AH) : rn (k + 1) 4 [] H =
(build Tryd.prog 24 [(0, (.int .i64 1))]).bind fun v1 =>
b2 (rn k 8 [v1] H) fun v2 h2 =>
(ext v2 0).bind fun v3 =>
(ext v2 1).bind fun v4 =>
(build Tryd.prog 24 [(0, (.int .i64 5))]).bind fun v5 =>
b2 (rn k 16 [v5, (.int .i64 9)] h2) fun v6 h6 =>
(ext v6 0).bind fun v7 =>
(ext v6 1).bind fun v8 =>
b2 (newV Tryd.prog 24 h6) fun v9 h9 =>
(st Tryd.prog 24 h9 v9 v7).bind fun h10 =>
(ld Tryd.prog 24 h10 v9).bind fun v11 =>
b2 (rn k 17 [v11, (.int .i64 0)] h10) fun v12 h12 =>
(ext v12 0).bind fun v13 =>
(ext v12 1).bind fun v14 =>
b2 (rn k 9 [(.string ⟨#[]⟩)] h12) fun v15 h15 =>
(ext v15 0).bind fun v16 =>
(ext v15 1).bind fun v17 =>
b2 (newV Tryd.prog 24 h15) fun v18 h18 =>
(st Tryd.prog 24 h18 v18 v16).bind fun h19 =>
(bin Tryd.prog .eql 9 v3 (.string ⟨#[0, 0, 0, 1]⟩)).bind fun v20 =>
b2 (gOp v20 true (some (v4, h19)) h19) fun v21 h21 =>
b2 (gOp v20 true ((bin Tryd.prog .eql 28 v21 (.int .i64 0)).bind fun v => some (v, h21)) h21) fun v22 h22 =>
(pickV v20 v22 (.bool false)).bind fun v23 =>
b2 (gOp v23 true (some (v8, h22)) h22) fun v24 h24 =>
(pickV v23 v24 (.bool false)).bind fun v25 =>
b2 (gOp v25 true ((fldA Tryd.prog 24 v9 0).bind fun v => some (v, h24)) h24) fun v26 h26 =>
b2 (gOp v25 true ((ld Tryd.prog 3 h26 v26).bind fun v => some (v, h26)) h26) fun v27 h27 =>
b2 (gOp v25 true ((bin Tryd.prog .eql 3 v27 (.int .i64 6)).bind fun v => some (v, h27)) h27) fun v28 h28 =>
(pickV v25 v28 (.bool false)).bind fun v29 =>
b2 (gOp v29 true ((fldA Tryd.prog 24 v9 1).bind fun v => some (v, h28)) h28) fun v30 h30 =>
b2 (gOp v29 true ((ld Tryd.prog 22 h30 v30).bind fun v => some (v, h30)) h30) fun v31 h31 =>
b2 (gOp v29 true ((lenV Tryd.prog 22 v31).bind fun v => some (v, h31)) h31) fun v32 h32 =>
b2 (gOp v29 true ((bin Tryd.prog .eql 3 v32 (.int .i64 1)).bind fun v => some (v, h32)) h32) fun v33 h33 =>
(pickV v29 v33 (.bool false)).bind fun v34 =>
b2 (gOp v34 true ((fldA Tryd.prog 24 v9 1).bind fun v => some (v, h33)) h33) fun v35 h35 =>
b2 (gOp v34 true ((ld Tryd.prog 22 h35 v35).bind fun v => some (v, h35)) h35) fun v36 h36 =>
b2 (gOp v34 true ((ixA Tryd.prog 22 v36 (.int .i64 0)).bind fun v => some (v, h36)) h36) fun v37 h37 =>
b2 (gOp v34 true ((ld Tryd.prog 54 h37 v37).bind fun v => some (v, h37)) h37) fun v38 h38 =>
b2 (gOp v34 true ((build Tryd.prog 54 [(0, (.int .i64 5)), (1, (.int .i64 9))]).bind fun v => some (v, h38)) h38) fun v39 h39 =>
b2 (gOp v34 true ((bin Tryd.prog .eql 54 v38 v39).bind fun v => some (v, h39)) h39) fun v40 h40 =>
(pickV v34 v40 (.bool false)).bind fun v41 =>
b2 (gOp v41 true (some (v13, h40)) h40) fun v42 h42 =>
b2 (gOp v41 true ((bin Tryd.prog .eql 3 v42 (.int .i64 0)).bind fun v => some (v, h42)) h42) fun v43 h43 =>
(pickV v41 v43 (.bool false)).bind fun v44 =>
b2 (gOp v44 true (some (v14, h43)) h43) fun v45 h45 =>
(pickV v44 v45 (.bool false)).bind fun v46 =>
b2 (gOp v46 true (some (v17, h45)) h45) fun v47 h47 =>
b2 (gOp v46 true ((bin Tryd.prog .eql 28 v47 (.int .i64 2)).bind fun v => some (v, h47)) h47) fun v48 h48 =>
(pickV v46 v48 (.bool false)).bind fun v49 =>
some (v49, h48) := by kernel_rfl
theorem f5_eq (k : Nat) (a0 : Value) (H : AH) : rn (k + 1) 5 [a0] H =
b2 (box 24 H a0) fun v1 h1 =>
b2 (newV Tryd.prog 24 h1) fun v2 h2 =>
(fldA Tryd.prog 24 v1 1).bind fun v3 =>
(ld Tryd.prog 22 h2 v3).bind fun v4 =>
(fldA Tryd.prog 24 v1 1).bind fun v5 =>
(ld Tryd.prog 22 h2 v5).bind fun v6 =>
(lenV Tryd.prog 22 v6).bind fun v7 =>
(fold1 minV [v7, (.int .i64 15)]).bind fun v8 =>
(slc Tryd.prog 22 v4 none (some v8)).bind fun v9 =>
b2 (ap Tryd.prog 22 22 h2 (.slice none 0 0) v9) fun v10 h10 =>
(fldA Tryd.prog 24 v1 1).bind fun v11 =>
(st Tryd.prog 22 h10 v11 v10).bind fun h12 =>
(ld Tryd.prog 24 h12 v1).bind fun v13 =>
(st Tryd.prog 24 h12 v2 v13).bind fun h14 =>
((ld Tryd.prog 24 h14 v2).bind fun v15 => some (v15 :: [])).bind fun vs => some (oneOf vs, h14) := by kernel_rfl
theorem f6_eq (k : Nat) (a0 : Value) (H : AH) : rn (k + 1) 6 [a0] H =
(bin Tryd.prog .lss 3 a0 (.int .i64 1)).bind fun v1 =>
b2 (gOp v1 false (some (a0, H)) H) fun v2 h2 =>
b2 (gOp v1 false ((bin Tryd.prog .gtr 3 v2 (.int .i64 1024)).bind fun v => some (v, h2)) h2) fun v3 h3 =>
(pickV v1 (.bool true) v3).bind fun v4 =>
aIf v4
 (some ((.tuple #[(.pointer none), (.int .i64 1)]), h3))
 ((bin Tryd.prog .mul 3 a0 (.int .i64 64)).bind fun v5 =>
 b2 (mkS Tryd.prog 55 h3 v5 v5) fun v6 h6 =>
 (build Tryd.prog 58 [(0, v6), (2, (.int .i64 (-1)))]).bind fun v7 =>
 b2 (box 58 h6 v7) fun v8 h8 =>
 some ((.tuple #[v8, (.int .i64 0)]), h8)) := by kernel_rfl
theorem f7_eq (k : Nat) (a0 : Value) (H : AH) : rn (k + 1) 7 [a0] H =
b2 (rn k 18 [a0] H) fun v1 h1 =>
(bin Tryd.prog .lss 3 v1 (.int .i64 4)).bind fun v2 =>
aIf v2
 (some ((.tuple #[(.pointer none), (.int .i64 1)]), h1))
 (b2 (mkM 60 h1) fun v3 h3 =>
 (mpU Tryd.prog 60 h3 v3 (.int .i64 0) (.bool true)).bind fun h4 =>
 (mpU Tryd.prog 60 h4 v3 (.int .i64 1) (.bool true)).bind fun h5 =>
 (build Tryd.prog 62 [(0, (.int .i64 1)), (2, v3)]).bind fun v6 =>
 (build Tryd.prog 65 [(1, a0), (0, v6)]).bind fun v7 =>
 b2 (box 65 h5 v7) fun v8 h8 =>
 (nilChk v8).bind fun v9 =>
 (fldA Tryd.prog 65 v9 0).bind fun v10 =>
 (ld Tryd.prog 62 h8 v10).bind fun v11 =>
 b2 (rn k 19 [v11, a0] h8) fun v12 h12 =>
 (bin Tryd.prog .neq 28 v12 (.int .i64 0)).bind fun v13 =>
 aIf v13
  (some ((.tuple #[(.pointer none), v12]), h12))
  (b2 (rn k 20 [a0] h12) fun v14 h14 =>
  (bin Tryd.prog .neq 28 v14 (.int .i64 0)).bind fun v15 =>
  aIf v15
   (some ((.tuple #[(.pointer none), v14]), h14))
   (some ((.tuple #[v8, (.int .i64 0)]), h14)))) := by kernel_rfl
abbrev f8_T_L0 (s4 s14 s15 s16 : Value) : List Value := [unk, unk, unk, unk, s4, unk, unk, unk, unk, unk, unk, unk, unk, unk, s14, s15, s16, unk, unk, unk, unk, unk, unk, unk, unk, unk, unk, unk, unk, unk]
abbrev f8_X_L0 (s4 : Value) : List Value := [unk, unk, unk, unk, s4, unk, unk, unk, unk, unk, unk, unk, unk, unk, unk, unk, unk, unk, unk, unk, unk, unk, unk, unk, unk, unk, unk, unk, unk, unk]
@[irreducible] def f8_L0 (k : Nat) (s4 s14 s15 s16 : Value) (n : Nat) (H : AH) : Option Out := iterD (fun T H K => evalK Tryd.prog (rn k) k (tbs 8) (codeAt (bodyOf Tryd.f8) [1, 1, 1, 0, 1, 0, 0]) T H K) (cutT (tbs 8) 16) (cutT (tbs 8) 17) n (f8_T_L0 s4 s14 s15 s16) H
@[irreducible] def f8_A0 (k : Nat) (e : EX) (T : List Value) (H : AH) : Option (Value × AH) := resume Tryd.prog (rn k) k (tbs 8) (bodyOf Tryd.f8) [1, 1, 1, 0, 1, 0] e T H (resK Tryd.prog Tryd.f8.results.toList)
theorem f8_L0_succ (k : Nat) (s4 s14 s15 s16 : Value) (n : Nat) (H : AH) : f8_L0 k s4 s14 s15 s16 (n + 1) H =
(bin Tryd.prog .lss 3 s16 s15).bind fun v11 =>
aIf v11
 ((ixA Tryd.prog 22 s14 s16).bind fun v12 =>
 (ld Tryd.prog 54 H v12).bind fun v13 =>
 b2 (newV Tryd.prog 54 H) fun v14 h14 =>
 (st Tryd.prog 54 h14 v14 v13).bind fun h15 =>
 (fldA Tryd.prog 54 v14 0).bind fun v16 =>
 (ld Tryd.prog 3 h15 v16).bind fun v17 =>
 (fldA Tryd.prog 54 v14 1).bind fun v18 =>
 (ld Tryd.prog 3 h15 v18).bind fun v19 =>
 b2 (buildS Tryd.prog 63 h15 4 [(0, (.int .i64 4)), (1, v17), (2, (.int .i64 2)), (3, v19)]) fun v20 h20 =>
 b2 (ap Tryd.prog 63 63 h20 s4 v20) fun v21 h21 =>
 (bin Tryd.prog .add 3 s16 (.int .i64 1)).bind fun v22 =>
 f8_L0 k v21 s14 s15 v22 n h21)
 (some ((.exit 0), (f8_X_L0 s4), H)) := by kernel_rfl
theorem f8_A0_x0 (k : Nat) (s4 : Value) (H : AH) : f8_A0 k (.exit 0) (f8_X_L0 s4) H =
b2 (rn k 21 [s4] H) fun v23 h23 =>
some ((.tuple #[v23, (.int .i64 0)]), h23) := by kernel_rfl
theorem f8_eq (k : Nat) (a0 : Value) (H : AH) : rn (k + 1) 8 [a0] H =
b2 (box 24 H a0) fun v1 h1 =>
(ld Tryd.prog 24 h1 v1).bind fun v2 =>
b2 (rn k 15 [v2] h1) fun v3 h3 =>
(un Tryd.prog .not v3).bind fun v4 =>
aIf v4
 (some ((.tuple #[(.string ⟨#[]⟩), (.int .i64 1)]), h3))
 ((fldA Tryd.prog 24 v1 0).bind fun v5 =>
 (ld Tryd.prog 3 h3 v5).bind fun v6 =>
 b2 (buildS Tryd.prog 63 h3 2 [(0, (.int .i64 4)), (1, v6)]) fun v7 h7 =>
 (fldA Tryd.prog 24 v1 1).bind fun v8 =>
 (ld Tryd.prog 22 h7 v8).bind fun v9 =>
 (lenV Tryd.prog 22 v9).bind fun v10 =>
 (f8_L0 k v7 v9 v10 (.int .i64 0) k h7).bind fun p => f8_A0 k p.1 p.2.1 p.2.2) := by kernel_rfl
abbrev f9_T_L0 (s2 s4 s5 : Value) : List Value := [unk, unk, s2, unk, s4, s5, unk, unk, unk, unk, unk, unk, unk, unk, unk, unk, unk, unk, unk, unk, unk, unk, unk, unk, unk, unk, unk, unk, unk, unk, unk, unk, unk, unk, unk, unk, unk, unk, unk, unk, unk, unk, unk, unk]
abbrev f9_X_L0 (s2 s4 : Value) : List Value := [unk, unk, s2, unk, s4, unk, unk, unk, unk, unk, unk, unk, unk, unk, unk, unk, unk, unk, unk, unk, unk, unk, unk, unk, unk, unk, unk, unk, unk, unk, unk, unk, unk, unk, unk, unk, unk, unk, unk, unk, unk, unk, unk, unk]
@[irreducible] def f9_L0 (k : Nat) (s2 s4 s5 : Value) (n : Nat) (H : AH) : Option Out := iterD (fun T H K => evalK Tryd.prog (rn k) k (tbs 9) (codeAt (bodyOf Tryd.f9) [1, 1, 1, 0, 1, 0, 0]) T H K) (cutT (tbs 9) 16) (cutT (tbs 9) 17) n (f9_T_L0 s2 s4 s5) H
@[irreducible] def f9_A0 (k : Nat) (e : EX) (T : List Value) (H : AH) : Option (Value × AH) := resume Tryd.prog (rn k) k (tbs 9) (bodyOf Tryd.f9) [1, 1, 1, 0, 1, 0] e T H (resK Tryd.prog Tryd.f9.results.toList)
theorem f9_L0_succ (k : Nat) (s2 s4 s5 : Value) (n : Nat) (H : AH) : f9_L0 k s2 s4 s5 (n + 1) H =
(bin Tryd.prog .neq 9 s5 (.string ⟨#[]⟩)).bind fun v19 =>
aIf v19
 ((fldA Tryd.prog 24 s4 1).bind fun v20 =>
 (ld Tryd.prog 22 H v20).bind fun v21 =>
 (slc Tryd.prog 9 s5 none (some (.int .i64 4))).bind fun v22 =>
 b2 (rn k 22 [v22] H) fun v23 h23 =>
 aChk (ld Tryd.prog 22 h23 v20 = some v21) <|
 (slc Tryd.prog 9 s5 (some (.int .i64 4)) (some (.int .i64 6))).bind fun v24 =>
 b2 (rn k 22 [v24] h23) fun v25 h25 =>
 aChk (ld Tryd.prog 22 h25 v20 = some v21) <|
 (build Tryd.prog 54 [(0, v23), (1, v25)]).bind fun v26 =>
 b2 (buildS Tryd.prog 22 h25 1 [(0, v26)]) fun v27 h27 =>
 b2 (ap Tryd.prog 22 22 h27 v21 v27) fun v28 h28 =>
 (fldA Tryd.prog 24 s4 1).bind fun v29 =>
 (st Tryd.prog 22 h28 v29 v28).bind fun h30 =>
 (slc Tryd.prog 9 s5 (some (.int .i64 6)) none).bind fun v31 =>
 f9_L0 k s2 s4 v31 n h30)
 (some ((.exit 0), (f9_X_L0 s2 s4), H)) := by kernel_rfl
theorem f9_A0_x0 (k : Nat) (s2 s4 : Value) (H : AH) : f9_A0 k (.exit 0) (f9_X_L0 s2 s4) H =
(ld Tryd.prog 24 H s4).bind fun v32 =>
b2 (rn k 15 [v32] H) fun v33 h33 =>
(un Tryd.prog .not v33).bind fun v34 =>
aIf v34
 ((build Tryd.prog 24 []).bind fun v35 =>
 (st Tryd.prog 24 h33 s2 v35).bind fun h36 =>
 ((ld Tryd.prog 24 h36 s2).bind fun v37 => some (v37 :: ((.int .i64 2) :: []))).bind fun vs => some (oneOf vs, h36))
 ((ld Tryd.prog 24 h33 s4).bind fun v38 =>
 (st Tryd.prog 24 h33 s2 v38).bind fun h39 =>
 ((ld Tryd.prog 24 h39 s2).bind fun v40 => some (v40 :: ((.int .i64 0) :: []))).bind fun vs => some (oneOf vs, h39)) := by kernel_rfl
theorem f9_eq (k : Nat) (a0 : Value) (H : AH) : rn (k + 1) 9 [a0] H =
b2 (newV Tryd.prog 24 H) fun v1 h1 =>
(lenV Tryd.prog 9 a0).bind fun v2 =>
(bin Tryd.prog .lss 3 v2 (.int .i64 4)).bind fun v3 =>
b2 (gOp v3 false (some (a0, h1)) h1) fun v4 h4 =>
b2 (gOp v3 false ((lenV Tryd.prog 9 v4).bind fun v => some (v, h4)) h4) fun v5 h5 =>
b2 (gOp v3 false ((bin Tryd.prog .sub 3 v5 (.int .i64 4)).bind fun v => some (v, h5)) h5) fun v6 h6 =>
b2 (gOp v3 false ((bin Tryd.prog .rem 3 v6 (.int .i64 6)).bind fun v => some (v, h6)) h6) fun v7 h7 =>
b2 (gOp v3 false ((bin Tryd.prog .neq 3 v7 (.int .i64 0)).bind fun v => some (v, h7)) h7) fun v8 h8 =>
(pickV v3 (.bool true) v8).bind fun v9 =>
aIf v9
 ((build Tryd.prog 24 []).bind fun v10 =>
 (st Tryd.prog 24 h8 v1 v10).bind fun h11 =>
 ((ld Tryd.prog 24 h11 v1).bind fun v12 => some (v12 :: ((.int .i64 2) :: []))).bind fun vs => some (oneOf vs, h11))
 ((slc Tryd.prog 9 a0 none (some (.int .i64 4))).bind fun v13 =>
 b2 (rn k 22 [v13] h8) fun v14 h14 =>
 (build Tryd.prog 24 [(0, v14)]).bind fun v15 =>
 b2 (newV Tryd.prog 24 h14) fun v16 h16 =>
 (st Tryd.prog 24 h16 v16 v15).bind fun h17 =>
 (slc Tryd.prog 9 a0 (some (.int .i64 4)) none).bind fun v18 =>
 (f9_L0 k v1 v16 v18 k h17).bind fun p => f9_A0 k p.1 p.2.1 p.2.2) := by kernel_rfl
theorem f10_eq (k : Nat) (a0 a1 : Value) (H : AH) : rn (k + 1) 10 [a0, a1] H =
b2 (box 24 H a0) fun v1 h1 =>
b2 (box 41 h1 a1) fun v2 h2 =>
(ld Tryd.prog 24 h2 v1).bind fun v3 =>
b2 (rn k 11 [v3] h2) fun v4 h4 =>
(ld Tryd.prog 41 h4 v2).bind fun v5 =>
aChk (ld Tryd.prog 41 h2 v2 = some v5) <|
b2 (rn k 23 [v4, v5] h4) fun v6 h6 =>
some (v6, h6) := by kernel_rfl
abbrev f11_T_L0 (s1 s2 s3 s4 : Value) : List Value := [unk, s1, s2, s3, s4, unk, unk, unk, unk, unk, unk, unk, unk, unk, unk, unk, unk, unk, unk, unk, unk, unk, unk, unk, unk, unk, unk, unk, unk, unk, unk, unk, unk, unk]
abbrev f11_X_L0 (s2 s3 : Value) : List Value := [unk, unk, s2, s3, unk, unk, unk, unk, unk, unk, unk, unk, unk, unk, unk, unk, unk, unk, unk, unk, unk, unk, unk, unk, unk, unk, unk, unk, unk, unk, unk, unk, unk, unk]
@[irreducible] def f11_L0 (k : Nat) (s1 s2 s3 s4 : Value) (n : Nat) (H : AH) : Option Out := iterD (fun T H K => evalK Tryd.prog (rn k) k (tbs 11) (codeAt (bodyOf Tryd.f11) [1, 1, 0, 1, 0, 0]) T H K) (cutT (tbs 11) 10) (cutT (tbs 11) 11) n (f11_T_L0 s1 s2 s3 s4) H
@[irreducible] def f11_A0 (k : Nat) (e : EX) (T : List Value) (H : AH) : Option (Value × AH) := resume Tryd.prog (rn k) k (tbs 11) (bodyOf Tryd.f11) [1, 1, 0, 1, 0] e T H (resK Tryd.prog Tryd.f11.results.toList)
theorem f11_L0_succ (k : Nat) (s1 s2 s3 s4 : Value) (n : Nat) (H : AH) : f11_L0 k s1 s2 s3 s4 (n + 1) H =
(fldA Tryd.prog 24 s1 1).bind fun v8 =>
(ld Tryd.prog 22 H v8).bind fun v9 =>
(lenV Tryd.prog 22 v9).bind fun v10 =>
(bin Tryd.prog .lss 3 s4 v10).bind fun v11 =>
aIf v11
 ((fldA Tryd.prog 41 s3 1).bind fun v12 =>
 (ld Tryd.prog 39 H v12).bind fun v13 =>
 (fldA Tryd.prog 24 s1 1).bind fun v14 =>
 (ld Tryd.prog 22 H v14).bind fun v15 =>
 (ixA Tryd.prog 22 v15 s4).bind fun v16 =>
 (fldA Tryd.prog 54 v16 0).bind fun v17 =>
 (ld Tryd.prog 3 H v17).bind fun v18 =>
 (fldA Tryd.prog 24 s1 1).bind fun v19 =>
 (ld Tryd.prog 22 H v19).bind fun v20 =>
 (ixA Tryd.prog 22 v20 s4).bind fun v21 =>
 (fldA Tryd.prog 54 v21 1).bind fun v22 =>
 (ld Tryd.prog 3 H v22).bind fun v23 =>
 (build Tryd.prog 71 [(0, v18), (1, v23)]).bind fun v24 =>
 b2 (buildS Tryd.prog 39 H 1 [(0, v24)]) fun v25 h25 =>
 b2 (ap Tryd.prog 39 39 h25 v13 v25) fun v26 h26 =>
 (fldA Tryd.prog 41 s3 1).bind fun v27 =>
 (st Tryd.prog 39 h26 v27 v26).bind fun h28 =>
 (bin Tryd.prog .add 3 s4 (.int .i64 1)).bind fun v29 =>
 f11_L0 k s1 s2 s3 v29 n h28)
 (some ((.exit 0), (f11_X_L0 s2 s3), H)) := by kernel_rfl
theorem f11_A0_x0 (k : Nat) (s2 s3 : Value) (H : AH) : f11_A0 k (.exit 0) (f11_X_L0 s2 s3) H =
(ld Tryd.prog 41 H s3).bind fun v30 =>
(st Tryd.prog 41 H s2 v30).bind fun h31 =>
((ld Tryd.prog 41 h31 s2).bind fun v32 => some (v32 :: [])).bind fun vs => some (oneOf vs, h31) := by kernel_rfl
theorem f11_eq (k : Nat) (a0 : Value) (H : AH) : rn (k + 1) 11 [a0] H =
b2 (box 24 H a0) fun v1 h1 =>
b2 (newV Tryd.prog 41 h1) fun v2 h2 =>
(fldA Tryd.prog 24 v1 0).bind fun v3 =>
(ld Tryd.prog 3 h2 v3).bind fun v4 =>
(build Tryd.prog 41 [(0, v4)]).bind fun v5 =>
b2 (newV Tryd.prog 41 h2) fun v6 h6 =>
(st Tryd.prog 41 h6 v6 v5).bind fun h7 =>
(f11_L0 k v1 v2 v6 (.int .i64 0) k h7).bind fun p => f11_A0 k p.1 p.2.1 p.2.2 := by kernel_rfl
theorem f12_eq (k : Nat) (a0 a1 : Value) (H : AH) : rn (k + 1) 12 [a0, a1] H =
b2 (box 24 H a1) fun v1 h1 =>
(ld Tryd.prog 24 h1 v1).bind fun v2 =>
b2 (rn k 8 [v2] h1) fun v3 h3 =>
(ext v3 0).bind fun v4 =>
(ext v3 1).bind fun v5 =>
(bin Tryd.prog .neq 28 v5 (.int .i64 0)).bind fun v6 =>
aIf v6
 (some ((.tuple #[(.int .i64 0), v5]), h3))
 (b2 (rn k 24 [a0, v4] h3) fun v7 h7 =>
 (ext v7 0).bind fun v8 =>
 (ext v7 1).bind fun v9 =>
 some ((.tuple #[v8, v9]), h7)) := by kernel_rfl
abbrev f13_T_L0 (s0 s1 s5 s32 s33 s34 : Value) : List Value := [s0, s1, unk, unk, unk, s5, unk, unk, unk, unk, unk, unk, unk, unk, unk, unk, unk, unk, unk, unk, unk, unk, unk, unk, unk, unk, unk, unk, unk, unk, unk, unk, s32, s33, s34, unk, unk, unk, unk, unk, unk, unk, unk, unk, unk, unk, unk, unk, unk]
abbrev f13_X_L0 (s0 s1 s5 : Value) : List Value := [s0, s1, unk, unk, unk, s5, unk, unk, unk, unk, unk, unk, unk, unk, unk, unk, unk, unk, unk, unk, unk, unk, unk, unk, unk, unk, unk, unk, unk, unk, unk, unk, unk, unk, unk, unk, unk, unk, unk, unk, unk, unk, unk, unk, unk, unk, unk, unk, unk]
@[irreducible] def f13_L0 (k : Nat) (s0 s1 s5 s32 s33 s34 : Value) (n : Nat) (H : AH) : Option Out := iterD (fun T H K => evalK Tryd.prog (rn k) k (tbs 13) (codeAt (bodyOf Tryd.f13) [1, 1, 1, 1, 0, 1, 0, 0]) T H K) (cutT (tbs 13) 28) (cutT (tbs 13) 29) n (f13_T_L0 s0 s1 s5 s32 s33 s34) H
@[irreducible] def f13_A0 (k : Nat) (e : EX) (T : List Value) (H : AH) : Option (Value × AH) := resumeP Tryd.prog (rn k) k (tbs 13) mCommit (bodyOf Tryd.f13) [1, 1, 1, 1, 0, 1, 0] [1, 1, 1, 0] e T H (resK Tryd.prog Tryd.f13.results.toList)
theorem f13_L0_succ (k : Nat) (s0 s1 s5 s32 s33 s34 : Value) (n : Nat) (H : AH) : f13_L0 k s0 s1 s5 s32 s33 s34 (n + 1) H =
(bin Tryd.prog .lss 3 s34 s33).bind fun v13 =>
aIf v13
 ((ixA Tryd.prog 63 s32 s34).bind fun v14 =>
 (ld Tryd.prog 3 H v14).bind fun v15 =>
 (fldA Tryd.prog 62 s5 2).bind fun v16 =>
 (ld Tryd.prog 60 H v16).bind fun v17 =>
 (mpU Tryd.prog 60 H v17 v15 (.bool true)).bind fun h18 =>
 (bin Tryd.prog .add 3 s34 (.int .i64 1)).bind fun v19 =>
 f13_L0 k s0 s1 s5 s32 s33 v19 n h18)
 (some ((.exit 2), (f13_X_L0 s0 s1 s5), H)) := by kernel_rfl
theorem f13_A0_x2 (k : Nat) (s0 s1 s5 : Value) (H : AH) : f13_A0 k (.exit 2) (f13_X_L0 s0 s1 s5) H =
(ld Tryd.prog 62 H s5).bind fun v20 =>
b2 (rn k 25 [v20, s1] H) fun v21 h21 =>
(un Tryd.prog .not v21).bind fun v22 =>
aIf v22
 (some ((.int .i64 1), h21))
 ((ld Tryd.prog 62 h21 s5).bind fun v23 =>
 b2 (rn k 26 [s0, v23] h21) fun v24 h24 =>
 some (v24, h24)) := by kernel_rfl
theorem f13_eq (k : Nat) (a0 a1 : Value) (H : AH) : rn (k + 1) 13 [a0, a1] H =
(nilChk a0).bind fun v1 =>
(fldA Tryd.prog 65 v1 3).bind fun v2 =>
(ld Tryd.prog 4 H v2).bind fun v3 =>
aIf v3
 (some ((.int .i64 7), H))
 (b2 (mkM 60 H) fun v4 h4 =>
 (build Tryd.prog 62 [(1, a1), (2, v4)]).bind fun v5 =>
 b2 (newV Tryd.prog 62 h4) fun v6 h6 =>
 (st Tryd.prog 62 h6 v6 v5).bind fun h7 =>
 (gCommit [a0, v6] h7).bind fun h8 =>
 (nilChk a0).bind fun v9 =>
 (fldA Tryd.prog 65 v9 2).bind fun v10 =>
 (ld Tryd.prog 63 h8 v10).bind fun v11 =>
 (lenV Tryd.prog 63 v11).bind fun v12 =>
 (f13_L0 k a0 a1 v6 v11 v12 (.int .i64 0) k h8).bind fun p => f13_A0 k p.1 p.2.1 p.2.2) := by kernel_rfl
theorem f14_eq (k : Nat) (a0 : Value) (H : AH) : rn (k + 1) 14 [a0] H =
b2 (newV Tryd.prog 24 H) fun v1 h1 =>
b2 (rn k 27 [a0] h1) fun v2 h2 =>
(bin Tryd.prog .eql 3 v2 (.int .i64 0)).bind fun v3 =>
aIf v3
 ((build Tryd.prog 24 [(0, (.int .i64 1))]).bind fun v4 =>
 (st Tryd.prog 24 h2 v1 v4).bind fun h5 =>
 ((ld Tryd.prog 24 h5 v1).bind fun v6 => some (v6 :: ((.int .i64 0) :: []))).bind fun vs => some (oneOf vs, h5))
 (b2 (rn k 27 [a0] h2) fun v7 h7 =>
 b2 (rn k 28 [a0, v7] h7) fun v8 h8 =>
 (ext v8 0).bind fun v9 =>
 (ext v8 1).bind fun v10 =>
 (bin Tryd.prog .neq 28 v10 (.int .i64 0)).bind fun v11 =>
 aIf v11
  ((build Tryd.prog 24 []).bind fun v12 =>
  (st Tryd.prog 24 h8 v1 v12).bind fun h13 =>
  ((ld Tryd.prog 24 h13 v1).bind fun v14 => some (v14 :: (v10 :: []))).bind fun vs => some (oneOf vs, h13))
  (b2 (rn k 9 [v9] h8) fun v15 h15 =>
  (ext v15 0).bind fun v16 =>
  (ext v15 1).bind fun v17 =>
  (st Tryd.prog 24 h15 v1 v16).bind fun h18 =>
  ((ld Tryd.prog 24 h18 v1).bind fun v19 => some (v19 :: (v17 :: []))).bind fun vs => some (oneOf vs, h18))) := by kernel_rfl
abbrev f15_T_L0 (s1 s3 s21 s22 s23 : Value) : List Value := [unk, s1, unk, s3, unk, unk, unk, unk, unk, unk, unk, unk, unk, unk, unk, unk, unk, unk, unk, unk, unk, s21, s22, s23, unk, unk, unk, unk, unk, unk, unk, unk, unk, unk, unk, unk, unk, unk, unk, unk, unk, unk, unk, unk, unk, unk, unk]
abbrev f15_X_L0 (s2 : Value) : List Value := [unk, unk, s2, unk, unk, unk, unk, unk, unk, unk, unk, unk, unk, unk, unk, unk, unk, unk, unk, unk, unk, unk, unk, unk, unk, unk, unk, unk, unk, unk, unk, unk, unk, unk, unk, unk, unk, unk, unk, unk, unk, unk, unk, unk, unk, unk, unk]
@[irreducible] def f15_L0 (k : Nat) (s1 s3 s21 s22 s23 : Value) (n : Nat) (H : AH) : Option Out := iterD (fun T H K => evalK Tryd.prog (rn k) k (tbs 15) (codeAt (bodyOf Tryd.f15) [1, 1, 1, 0, 1, 0, 0]) T H K) (cutT (tbs 15) 16) (cutT (tbs 15) 17) n (f15_T_L0 s1 s3 s21 s22 s23) H
@[irreducible] def f15_A0 (k : Nat) (e : EX) (T : List Value) (H : AH) : Option (Value × AH) := resume Tryd.prog (rn k) k (tbs 15) (bodyOf Tryd.f15) [1, 1, 1, 0, 1, 0] e T H (resK Tryd.prog Tryd.f15.results.toList)
theorem f15_L0_succ (k : Nat) (s1 s3 s21 s22 s23 : Value) (n : Nat) (H : AH) : f15_L0 k s1 s3 s21 s22 s23 (n + 1) H =
(bin Tryd.prog .lss 3 s23 s22).bind fun v17 =>
aIf v17
 ((ixA Tryd.prog 22 s21 s23).bind fun v18 =>
 (ld Tryd.prog 54 H v18).bind fun v19 =>
 b2 (newV Tryd.prog 54 H) fun v20 h20 =>
 (st Tryd.prog 54 h20 v20 v19).bind fun h21 =>
 (fldA Tryd.prog 54 v20 0).bind fun v22 =>
 (ld Tryd.prog 3 h21 v22).bind fun v23 =>
 (bin Tryd.prog .leq 3 v23 s3).bind fun v24 =>
 b2 (gOp v24 false ((fldA Tryd.prog 54 v20 0).bind fun v => some (v, h21)) h21) fun v25 h25 =>
 b2 (gOp v24 false ((ld Tryd.prog 3 h25 v25).bind fun v => some (v, h25)) h25) fun v26 h26 =>
 b2 (gOp v24 false ((fldA Tryd.prog 24 s1 0).bind fun v => some (v, h26)) h26) fun v27 h27 =>
 b2 (gOp v24 false ((ld Tryd.prog 3 h27 v27).bind fun v => some (v, h27)) h27) fun v28 h28 =>
 b2 (gOp v24 false ((bin Tryd.prog .geq 3 v26 v28).bind fun v => some (v, h28)) h28) fun v29 h29 =>
 (pickV v24 (.bool true) v29).bind fun v30 =>
 b2 (gOp v30 false ((fldA Tryd.prog 54 v20 1).bind fun v => some (v, h29)) h29) fun v31 h31 =>
 b2 (gOp v30 false ((ld Tryd.prog 3 h31 v31).bind fun v => some (v, h31)) h31) fun v32 h32 =>
 b2 (gOp v30 false (b2 (rn k 29 [v32] h32) fun v h => some (v, h)) h32) fun v33 h33 =>
 b2 (gOp v30 false ((un Tryd.prog .not v33).bind fun v => some (v, h33)) h33) fun v34 h34 =>
 (pickV v30 (.bool true) v34).bind fun v35 =>
 aIf v35
  (some (.ret, (f15_X_L0 (.bool false)), h34))
  ((fldA Tryd.prog 54 v20 0).bind fun v36 =>
  (ld Tryd.prog 3 h34 v36).bind fun v37 =>
  (bin Tryd.prog .add 3 s23 (.int .i64 1)).bind fun v38 =>
  f15_L0 k s1 v37 s21 s22 v38 n h34))
 (some ((.exit 0), (f15_X_L0 unk), H)) := by kernel_rfl
theorem f15_A0_x0 (k : Nat) (s2 : Value) (H : AH) : f15_A0 k (.exit 0) (f15_X_L0 s2) H =
some ((.bool true), H) := by kernel_rfl
theorem f15_A0_ret (k : Nat) (s2 : Value) (H : AH) : f15_A0 k .ret (f15_X_L0 s2) H =
some (s2, H) := by kernel_rfl
theorem f15_eq (k : Nat) (a0 : Value) (H : AH) : rn (k + 1) 15 [a0] H =
b2 (box 24 H a0) fun v1 h1 =>
(fldA Tryd.prog 24 v1 0).bind fun v2 =>
(ld Tryd.prog 3 h1 v2).bind fun v3 =>
(bin Tryd.prog .lss 3 v3 (.int .i64 1)).bind fun v4 =>
b2 (gOp v4 false ((fldA Tryd.prog 24 v1 0).bind fun v => some (v, h1)) h1) fun v5 h5 =>
b2 (gOp v4 false ((ld Tryd.prog 3 h5 v5).bind fun v => some (v, h5)) h5) fun v6 h6 =>
b2 (gOp v4 false ((bin Tryd.prog .gtr 3 v6 (.int .i64 16777216)).bind fun v => some (v, h6)) h6) fun v7 h7 =>
(pickV v4 (.bool true) v7).bind fun v8 =>
b2 (gOp v8 false ((fldA Tryd.prog 24 v1 1).bind fun v => some (v, h7)) h7) fun v9 h9 =>
b2 (gOp v8 false ((ld Tryd.prog 22 h9 v9).bind fun v => some (v, h9)) h9) fun v10 h10 =>
b2 (gOp v8 false ((lenV Tryd.prog 22 v10).bind fun v => some (v, h10)) h10) fun v11 h11 =>
b2 (gOp v8 false ((bin Tryd.prog .gtr 3 v11 (.int .i64 12)).bind fun v => some (v, h11)) h11) fun v12 h12 =>
(pickV v8 (.bool true) v12).bind fun v13 =>
aIf v13
 (some ((.bool false), h12))
 ((fldA Tryd.prog 24 v1 1).bind fun v14 =>
 (ld Tryd.prog 22 h12 v14).bind fun v15 =>
 (lenV Tryd.prog 22 v15).bind fun v16 =>
 (f15_L0 k v1 (.int .i64 0) v15 v16 (.int .i64 0) k h12).bind fun p => f15_A0 k p.1 p.2.1 p.2.2) := by kernel_rfl
theorem f16_eq (k : Nat) (a0 a1 : Value) (H : AH) : rn (k + 1) 16 [a0, a1] H =
b2 (box 24 H a0) fun v1 h1 =>
b2 (newV Tryd.prog 24 h1) fun v2 h2 =>
(ld Tryd.prog 24 h2 v1).bind fun v3 =>
b2 (rn k 15 [v3] h2) fun v4 h4 =>
(un Tryd.prog .not v4).bind fun v5 =>
b2 (gOp v5 false ((fldA Tryd.prog 24 v1 1).bind fun v => some (v, h4)) h4) fun v6 h6 =>
b2 (gOp v5 false ((ld Tryd.prog 22 h6 v6).bind fun v => some (v, h6)) h6) fun v7 h7 =>
b2 (gOp v5 false ((lenV Tryd.prog 22 v7).bind fun v => some (v, h7)) h7) fun v8 h8 =>
b2 (gOp v5 false ((bin Tryd.prog .eql 3 v8 (.int .i64 12)).bind fun v => some (v, h8)) h8) fun v9 h9 =>
(pickV v5 (.bool true) v9).bind fun v10 =>
b2 (gOp v10 false ((fldA Tryd.prog 24 v1 0).bind fun v => some (v, h9)) h9) fun v11 h11 =>
b2 (gOp v10 false ((ld Tryd.prog 3 h11 v11).bind fun v => some (v, h11)) h11) fun v12 h12 =>
b2 (gOp v10 false ((bin Tryd.prog .eql 3 v12 (.int .i64 16777216)).bind fun v => some (v, h12)) h12) fun v13 h13 =>
(pickV v10 (.bool true) v13).bind fun v14 =>
b2 (gOp v14 false (some (a1, h13)) h13) fun v15 h15 =>
b2 (gOp v14 false (b2 (rn k 29 [v15] h15) fun v h => some (v, h)) h15) fun v16 h16 =>
b2 (gOp v14 false ((un Tryd.prog .not v16).bind fun v => some (v, h16)) h16) fun v17 h17 =>
(pickV v14 (.bool true) v17).bind fun v18 =>
aIf v18
 ((build Tryd.prog 24 []).bind fun v19 =>
 (st Tryd.prog 24 h17 v2 v19).bind fun h20 =>
 ((ld Tryd.prog 24 h20 v2).bind fun v21 => some (v21 :: ((.bool false) :: []))).bind fun vs => some (oneOf vs, h20))
 ((fldA Tryd.prog 24 v1 0).bind fun v22 =>
 (ld Tryd.prog 3 h17 v22).bind fun v23 =>
 (bin Tryd.prog .add 3 v23 (.int .i64 1)).bind fun v24 =>
 (fldA Tryd.prog 24 v1 1).bind fun v25 =>
 (ld Tryd.prog 22 h17 v25).bind fun v26 =>
 b2 (rn k 30 [v26] h17) fun v27 h27 =>
 aChk (ld Tryd.prog 3 h27 v22 = some v23) <|
 (fldA Tryd.prog 24 v1 0).bind fun v28 =>
 (ld Tryd.prog 3 h27 v28).bind fun v29 =>
 aChk (ld Tryd.prog 3 h17 v28 = some v29) <|
 (build Tryd.prog 54 [(0, v29), (1, a1)]).bind fun v30 =>
 b2 (buildS Tryd.prog 22 h27 1 [(0, v30)]) fun v31 h31 =>
 b2 (ap Tryd.prog 22 22 h31 v27 v31) fun v32 h32 =>
 aChk (ld Tryd.prog 3 h32 v22 = some v23) <|
 (build Tryd.prog 24 [(0, v24), (1, v32)]).bind fun v33 =>
 (st Tryd.prog 24 h32 v2 v33).bind fun h34 =>
 ((ld Tryd.prog 24 h34 v2).bind fun v35 => some (v35 :: ((.bool true) :: []))).bind fun vs => some (oneOf vs, h34)) := by kernel_rfl
theorem f17_eq (k : Nat) (a0 a1 : Value) (H : AH) : rn (k + 1) 17 [a0, a1] H =
b2 (box 24 H a0) fun v1 h1 =>
b2 (box 3 h1 a1) fun v2 h2 =>
(ld Tryd.prog 3 h2 v2).bind fun v3 =>
(bin Tryd.prog .eql 3 v3 (.int .i64 0)).bind fun v4 =>
aIf v4
 ((fldA Tryd.prog 24 v1 1).bind fun v5 =>
 (ld Tryd.prog 22 h2 v5).bind fun v6 =>
 (lenV Tryd.prog 22 v6).bind fun v7 =>
 (bin Tryd.prog .sub 3 v7 (.int .i64 1)).bind fun v8 =>
 (fold1 maxV [v8, (.int .i64 0)]).bind fun v9 =>
 (fldA Tryd.prog 24 v1 1).bind fun v10 =>
 (ld Tryd.prog 22 h2 v10).bind fun v11 =>
 (lenV Tryd.prog 22 v11).bind fun v12 =>
 (bin Tryd.prog .gtr 3 v12 (.int .i64 0)).bind fun v13 =>
 some ((.tuple #[v9, v13]), h2))
 ((fldA Tryd.prog 24 v1 1).bind fun v14 =>
 (ld Tryd.prog 22 h2 v14).bind fun v15 =>
 b2 (rn k 31 [v15, (.func (.func 32) #[] #[v2])] h2) fun v16 h16 =>
 (fold1 maxV [v16, (.int .i64 0)]).bind fun v17 =>
 (bin Tryd.prog .geq 3 v16 (.int .i64 0)).bind fun v18 =>
 some ((.tuple #[v17, v18]), h16)) := by kernel_rfl
theorem f18_eq (k : Nat) (a0 : Value) (H : AH) : rn (k + 1) 18 [a0] H =
b2 (rn k 33 [a0] H) fun v1 h1 =>
(bin Tryd.prog .quo 3 v1 (.int .i64 2)).bind fun v2 =>
some (v2, h1) := by kernel_rfl
theorem f19_eq (k : Nat) (a0 a1 : Value) (H : AH) : rn (k + 1) 19 [a0, a1] H =
b2 (box 62 H a0) fun v1 h1 =>
(fldA Tryd.prog 62 v1 0).bind fun v2 =>
(ld Tryd.prog 3 h1 v2).bind fun v3 =>
(bin Tryd.prog .rem 3 v3 (.int .i64 2)).bind fun v4 =>
(ld Tryd.prog 62 h1 v1).bind fun v5 =>
b2 (rn k 35 [v5] h1) fun v6 h6 =>
aChk (ld Tryd.prog 3 h6 v2 = some v3) <|
b2 (rn k 34 [a1, v4, (.int .i64 1), v6] h6) fun v7 h7 =>
some (v7, h7) := by kernel_rfl
theorem f20_eq (k : Nat) (a0 : Value) (H : AH) : rn (k + 1) 20 [a0] H =
b2 (box 27 H a0) fun v1 h1 =>
(ld Tryd.prog 27 h1 v1).bind fun v2 =>
(nilChk v2).bind fun v3 =>
(fldA Tryd.prog 58 v3 3).bind fun v4 =>
(ld Tryd.prog 4 h1 v4).bind fun v5 =>
aIf v5
 (some ((.int .i64 7), h1))
 ((ld Tryd.prog 27 h1 v1).bind fun v6 =>
 b2 (rn k 36 [v6, (.func (.func 37) #[] #[v1])] h1) fun v7 h7 =>
 some (v7, h7)) := by kernel_rfl
abbrev f21_T_L0 (s0 s3 s4 : Value) : List Value := [s0, unk, unk, s3, s4, unk, unk, unk, unk, unk, unk, unk, unk, unk, unk, unk, unk, unk, unk, unk, unk, unk, unk, unk, unk, unk, unk, unk, unk, unk, unk, unk, unk, unk, unk, unk]
abbrev f21_X_L0 (s3 : Value) : List Value := [unk, unk, unk, s3, unk, unk, unk, unk, unk, unk, unk, unk, unk, unk, unk, unk, unk, unk, unk, unk, unk, unk, unk, unk, unk, unk, unk, unk, unk, unk, unk, unk, unk, unk, unk, unk]
abbrev f21_T_L1 (s0 s3 s4 s5 : Value) : List Value := [s0, unk, unk, s3, s4, s5, unk, unk, unk, unk, unk, unk, unk, unk, unk, unk, unk, unk, unk, unk, unk, unk, unk, unk, unk, unk, unk, unk, unk, unk, unk, unk, unk, unk, unk, unk]
abbrev f21_X_L1 (s0 s3 s4 : Value) : List Value := [s0, unk, unk, s3, s4, unk, unk, unk, unk, unk, unk, unk, unk, unk, unk, unk, unk, unk, unk, unk, unk, unk, unk, unk, unk, unk, unk, unk, unk, unk, unk, unk, unk, unk, unk, unk]
@[irreducible] def f21_L0 (k : Nat) (s0 s3 s4 : Value) (n : Nat) (H : AH) : Option Out := iterD (fun T H K => evalK Tryd.prog (rn k) k (tbs 21) (codeAt (bodyOf Tryd.f21) [1, 1, 0, 1, 0, 0]) T H K) (cutT (tbs 21) 10) (cutT (tbs 21) 11) n (f21_T_L0 s0 s3 s4) H
@[irreducible] def f21_A0 (k : Nat) (e : EX) (T : List Value) (H : AH) : Option (Value × AH) := resume Tryd.prog (rn k) k (tbs 21) (bodyOf Tryd.f21) [1, 1, 0, 1, 0] e T H (resK Tryd.prog Tryd.f21.results.toList)
@[irreducible] def f21_L1 (k : Nat) (s0 s3 s4 s5 : Value) (n : Nat) (H : AH) : Option Out := iterD (fun T H K => evalK Tryd.prog (rn k) k (tbs 21) (codeAt (bodyOf Tryd.f21) [1, 1, 0, 1, 0, 0, 1, 0, 0, 1, 0, 0]) T H K) (cutT (tbs 21) 19) (cutT (tbs 21) 20) n (f21_T_L1 s0 s3 s4 s5) H
@[irreducible] def f21_A1 (k : Nat) (n : Nat) (e : EX) (T : List Value) (H : AH) : Option Out := resume Tryd.prog (rn k) k (tbs 21) (codeAt (bodyOf Tryd.f21) [1, 1, 0, 1, 0, 0]) [1, 0, 0, 1, 0] e T H (loopK (iterD (fun T H K => evalK Tryd.prog (rn k) k (tbs 21) (codeAt (bodyOf Tryd.f21) [1, 1, 0, 1, 0, 0]) T H K) (cutT (tbs 21) 10) (cutT (tbs 21) 11) n) (cutT (tbs 21) 10) (cutT (tbs 21) 11))
theorem f21_L0_succ (k : Nat) (s0 s3 s4 : Value) (n : Nat) (H : AH) : f21_L0 k s0 s3 s4 (n + 1) H =
(bin Tryd.prog .add 3 s4 (.int .i64 1)).bind fun v1 =>
(lenV Tryd.prog 63 s0).bind fun v2 =>
(bin Tryd.prog .lss 3 v1 v2).bind fun v3 =>
aIf v3
 ((ixA Tryd.prog 63 s0 s4).bind fun v4 =>
 (ld Tryd.prog 3 H v4).bind fun v5 =>
 (bin Tryd.prog .sub 3 v5 (.int .i64 1)).bind fun v6 =>
 (f21_L1 k s0 s3 s4 v6 k H).bind fun p => f21_A1 k n p.1 p.2.1 p.2.2)
 (some ((.exit 0), (f21_X_L0 s3), H)) := by kernel_rfl
theorem f21_A0_x0 (k : Nat) (s3 : Value) (H : AH) : f21_A0 k (.exit 0) (f21_X_L0 s3) H =
(cvS Tryd.prog 55 9 H s3).bind fun v7 =>
some (v7, H) := by kernel_rfl
theorem f21_L1_succ (k : Nat) (s0 s3 s4 s5 : Value) (n : Nat) (H : AH) : f21_L1 k s0 s3 s4 s5 (n + 1) H =
(bin Tryd.prog .geq 3 s5 (.int .i64 0)).bind fun v8 =>
aIf v8
 ((bin Tryd.prog .add 3 s4 (.int .i64 1)).bind fun v9 =>
 (ixA Tryd.prog 63 s0 v9).bind fun v10 =>
 (ld Tryd.prog 3 H v10).bind fun v11 =>
 (bin Tryd.prog .mul 3 (.int .i64 8) s5).bind fun v12 =>
 (bin Tryd.prog .shr 3 v11 v12).bind fun v13 =>
 (cv Tryd.prog 3 5 v13).bind fun v14 =>
 b2 (buildS Tryd.prog 55 H 1 [(0, v14)]) fun v15 h15 =>
 b2 (ap Tryd.prog 55 55 h15 s3 v15) fun v16 h16 =>
 (bin Tryd.prog .sub 3 s5 (.int .i64 1)).bind fun v17 =>
 f21_L1 k s0 v16 s4 v17 n h16)
 (some ((.exit 2), (f21_X_L1 s0 s3 s4), H)) := by kernel_rfl
theorem f21_A1_x2 (k : Nat) (n : Nat) (s0 s3 s4 : Value) (H : AH) : f21_A1 k n (.exit 2) (f21_X_L1 s0 s3 s4) H =
(bin Tryd.prog .add 3 s4 (.int .i64 2)).bind fun v18 =>
f21_L0 k s0 s3 v18 n H := by kernel_rfl
theorem f21_eq (k : Nat) (a0 : Value) (H : AH) : rn (k + 1) 21 [a0] H =
(f21_L0 k a0 (.slice none 0 0) (.int .i64 0) k H).bind fun p => f21_A0 k p.1 p.2.1 p.2.2 := by kernel_rfl
abbrev f22_T_L0 (s0 s3 s6 s7 : Value) : List Value := [s0, unk, unk, s3, unk, unk, s6, s7, unk, unk, unk, unk, unk, unk, unk, unk, unk, unk, unk]
abbrev f22_X_L0 (s3 : Value) : List Value := [unk, unk, unk, s3, unk, unk, unk, unk, unk, unk, unk, unk, unk, unk, unk, unk, unk, unk, unk]
@[irreducible] def f22_L0 (k : Nat) (s0 s3 s6 s7 : Value) (n : Nat) (H : AH) : Option Out := iterD (fun T H K => evalK Tryd.prog (rn k) k (tbs 22) (codeAt (bodyOf Tryd.f22) [1, 1, 0, 1, 0, 0]) T H K) (cutT (tbs 22) 10) (cutT (tbs 22) 11) n (f22_T_L0 s0 s3 s6 s7) H
@[irreducible] def f22_A0 (k : Nat) (e : EX) (T : List Value) (H : AH) : Option (Value × AH) := resume Tryd.prog (rn k) k (tbs 22) (bodyOf Tryd.f22) [1, 1, 0, 1, 0] e T H (resK Tryd.prog Tryd.f22.results.toList)
theorem f22_L0_succ (k : Nat) (s0 s3 s6 s7 : Value) (n : Nat) (H : AH) : f22_L0 k s0 s3 s6 s7 (n + 1) H =
(bin Tryd.prog .lss 3 s7 s6).bind fun v2 =>
aIf v2
 ((bin Tryd.prog .shl 3 s3 (.int .u64 8)).bind fun v3 =>
 (ix Tryd.prog 9 s0 s7).bind fun v4 =>
 (cv Tryd.prog 5 3 v4).bind fun v5 =>
 (bin Tryd.prog .or 3 v3 v5).bind fun v6 =>
 (bin Tryd.prog .add 3 s7 (.int .i64 1)).bind fun v7 =>
 f22_L0 k s0 v6 s6 v7 n H)
 (some ((.exit 0), (f22_X_L0 s3), H)) := by kernel_rfl
theorem f22_A0_x0 (k : Nat) (s3 : Value) (H : AH) : f22_A0 k (.exit 0) (f22_X_L0 s3) H =
some (s3, H) := by kernel_rfl
theorem f22_eq (k : Nat) (a0 : Value) (H : AH) : rn (k + 1) 22 [a0] H =
(lenV Tryd.prog 9 a0).bind fun v1 =>
(f22_L0 k a0 (.int .i64 0) v1 (.int .i64 0) k H).bind fun p => f22_A0 k p.1 p.2.1 p.2.2 := by kernel_rfl
abbrev f23_T_L0 (s2 s3 s5 : Value) : List Value := [unk, unk, s2, s3, unk, s5, unk, unk, unk, unk, unk, unk, unk, unk, unk, unk, unk, unk, unk, unk, unk, unk, unk, unk, unk, unk, unk, unk, unk, unk, unk, unk, unk, unk, unk, unk, unk, unk]
abbrev f23_X_L0 (s4 : Value) : List Value := [unk, unk, unk, unk, s4, unk, unk, unk, unk, unk, unk, unk, unk, unk, unk, unk, unk, unk, unk, unk, unk, unk, unk, unk, unk, unk, unk, unk, unk, unk, unk, unk, unk, unk, unk, unk, unk, unk]
@[irreducible] def f23_L0 (k : Nat) (s2 s3 s5 : Value) (n : Nat) (H : AH) : Option Out := iterD (fun T H K => evalK Tryd.prog (rn k) k (tbs 23) (codeAt (bodyOf Tryd.f23) [1, 1, 0, 1, 0, 0]) T H K) (cutT (tbs 23) 13) (cutT (tbs 23) 14) n (f23_T_L0 s2 s3 s5) H
@[irreducible] def f23_A0 (k : Nat) (e : EX) (T : List Value) (H : AH) : Option (Value × AH) := resume Tryd.prog (rn k) k (tbs 23) (bodyOf Tryd.f23) [1, 1, 0, 1, 0] e T H (resK Tryd.prog Tryd.f23.results.toList)
theorem f23_L0_succ (k : Nat) (s2 s3 s5 : Value) (n : Nat) (H : AH) : f23_L0 k s2 s3 s5 (n + 1) H =
(fldA Tryd.prog 41 s2 1).bind fun v16 =>
(ld Tryd.prog 39 H v16).bind fun v17 =>
(lenV Tryd.prog 39 v17).bind fun v18 =>
(bin Tryd.prog .lss 3 s5 v18).bind fun v19 =>
aIf v19
 ((fldA Tryd.prog 41 s2 1).bind fun v20 =>
 (ld Tryd.prog 39 H v20).bind fun v21 =>
 (ixA Tryd.prog 39 v21 s5).bind fun v22 =>
 (ld Tryd.prog 71 H v22).bind fun v23 =>
 (fldA Tryd.prog 41 s3 1).bind fun v24 =>
 (ld Tryd.prog 39 H v24).bind fun v25 =>
 (ixA Tryd.prog 39 v25 s5).bind fun v26 =>
 (ld Tryd.prog 71 H v26).bind fun v27 =>
 (bin Tryd.prog .neq 71 v23 v27).bind fun v28 =>
 aIf v28
  (some (.ret, (f23_X_L0 (.bool false)), H))
  ((bin Tryd.prog .add 3 s5 (.int .i64 1)).bind fun v29 =>
  f23_L0 k s2 s3 v29 n H))
 (some ((.exit 0), (f23_X_L0 unk), H)) := by kernel_rfl
theorem f23_A0_x0 (k : Nat) (s4 : Value) (H : AH) : f23_A0 k (.exit 0) (f23_X_L0 s4) H =
some ((.bool true), H) := by kernel_rfl
theorem f23_A0_ret (k : Nat) (s4 : Value) (H : AH) : f23_A0 k .ret (f23_X_L0 s4) H =
some (s4, H) := by kernel_rfl
theorem f23_eq (k : Nat) (a0 a1 : Value) (H : AH) : rn (k + 1) 23 [a0, a1] H =
b2 (box 41 H a0) fun v1 h1 =>
b2 (box 41 h1 a1) fun v2 h2 =>
(fldA Tryd.prog 41 v1 0).bind fun v3 =>
(ld Tryd.prog 3 h2 v3).bind fun v4 =>
(fldA Tryd.prog 41 v2 0).bind fun v5 =>
(ld Tryd.prog 3 h2 v5).bind fun v6 =>
(bin Tryd.prog .neq 3 v4 v6).bind fun v7 =>
b2 (gOp v7 false ((fldA Tryd.prog 41 v1 1).bind fun v => some (v, h2)) h2) fun v8 h8 =>
b2 (gOp v7 false ((ld Tryd.prog 39 h8 v8).bind fun v => some (v, h8)) h8) fun v9 h9 =>
b2 (gOp v7 false ((lenV Tryd.prog 39 v9).bind fun v => some (v, h9)) h9) fun v10 h10 =>
b2 (gOp v7 false ((fldA Tryd.prog 41 v2 1).bind fun v => some (v, h10)) h10) fun v11 h11 =>
b2 (gOp v7 false ((ld Tryd.prog 39 h11 v11).bind fun v => some (v, h11)) h11) fun v12 h12 =>
b2 (gOp v7 false ((lenV Tryd.prog 39 v12).bind fun v => some (v, h12)) h12) fun v13 h13 =>
b2 (gOp v7 false ((bin Tryd.prog .neq 3 v10 v13).bind fun v => some (v, h13)) h13) fun v14 h14 =>
(pickV v7 (.bool true) v14).bind fun v15 =>
aIf v15
 (some ((.bool false), h14))
 ((f23_L0 k v1 v2 (.int .i64 0) k h14).bind fun p => f23_A0 k p.1 p.2.1 p.2.2) := by kernel_rfl
theorem f24_eq (k : Nat) (a0 a1 : Value) (H : AH) : rn (k + 1) 24 [a0, a1] H =
(lenV Tryd.prog 9 a1).bind fun v1 =>
(bin Tryd.prog .gtr 3 v1 (.int .i64 60000)).bind fun v2 =>
aIf v2
 (some ((.tuple #[(.int .i64 0), (.int .i64 1)]), H))
 (b2 (rn k 39 [a0] H) fun v3 h3 =>
 (lenV Tryd.prog 63 v3).bind fun v4 =>
 b2 (rn k 40 [a0, a1] h3) fun v5 h5 =>
 (ext v5 0).bind fun v6 =>
 (ext v5 1).bind fun v7 =>
 (bin Tryd.prog .neq 28 v7 (.int .i64 0)).bind fun v8 =>
 aIf v8
  (b2 (rn k 41 [a0, v4] h5) fun v9 h9 =>
  some ((.tuple #[(.int .i64 0), v7]), h9))
  ((ixA Tryd.prog 63 v6 (.int .i64 0)).bind fun v10 =>
  (ld Tryd.prog 3 h5 v10).bind fun v11 =>
  some ((.tuple #[v11, (.int .i64 0)]), h5))) := by kernel_rfl
theorem f25_eq (k : Nat) (a0 a1 : Value) (H : AH) : rn (k + 1) 25 [a0, a1] H =
b2 (box 62 H a0) fun v1 h1 =>
(bin Tryd.prog .eql 3 a1 (.int .i64 0)).bind fun v2 =>
b2 (gOp v2 false (some (a1, h1)) h1) fun v3 h3 =>
b2 (gOp v2 false ((bin Tryd.prog .geq 3 v3 (.int .i64 2)).bind fun v => some (v, h3)) h3) fun v4 h4 =>
b2 (gOp v2 false (some (v4, h4)) h4) fun v5 h5 =>
b2 (gOp v5 true ((fldA Tryd.prog 62 v1 2).bind fun v => some (v, h5)) h5) fun v6 h6 =>
b2 (gOp v5 true ((ld Tryd.prog 60 h6 v6).bind fun v => some (v, h6)) h6) fun v7 h7 =>
b2 (gOp v5 true (some (a1, h7)) h7) fun v8 h8 =>
b2 (gOp v5 true ((lkU Tryd.prog 60 h8 v7 v8 false).bind fun v => some (v, h8)) h8) fun v9 h9 =>
b2 (gOp v2 false ((pickV v5 v9 (.bool false)).bind fun v => some (v, h9)) h9) fun v10 h10 =>
(pickV v2 (.bool true) v10).bind fun v11 =>
some (v11, h10) := by kernel_rfl
abbrev f26_T_L0 (s2 s3 s26 s27 s28 : Value) : List Value := [unk, unk, s2, s3, unk, unk, unk, unk, unk, unk, unk, unk, unk, unk, unk, unk, unk, unk, unk, unk, unk, unk, unk, unk, unk, unk, s26, s27, s28, unk, unk, unk, unk, unk, unk, unk, unk, unk, unk, unk, unk, unk, unk, unk, unk, unk, unk]
abbrev f26_X_L0 (s2 s3 s4 : Value) : List Value := [unk, unk, s2, s3, s4, unk, unk, unk, unk, unk, unk, unk, unk, unk, unk, unk, unk, unk, unk, unk, unk, unk, unk, unk, unk, unk, unk, unk, unk, unk, unk, unk, unk, unk, unk, unk, unk, unk, unk, unk, unk, unk, unk, unk, unk, unk, unk]
@[irreducible] def f26_L0 (k : Nat) (s2 s3 s26 s27 s28 : Value) (n : Nat) (H : AH) : Option Out := iterD (fun T H K => evalK Tryd.prog (rn k) k (tbs 26) (codeAt (bodyOf Tryd.f26) [1, 1, 0, 1, 0, 0]) T H K) (cutT (tbs 26) 10) (cutT (tbs 26) 11) n (f26_T_L0 s2 s3 s26 s27 s28) H
@[irreducible] def f26_A0 (k : Nat) (e : EX) (T : List Value) (H : AH) : Option (Value × AH) := resume Tryd.prog (rn k) k (tbs 26) (bodyOf Tryd.f26) [1, 1, 0, 1, 0] e T H (resK Tryd.prog Tryd.f26.results.toList)
theorem f26_L0_succ (k : Nat) (s2 s3 s26 s27 s28 : Value) (n : Nat) (H : AH) : f26_L0 k s2 s3 s26 s27 s28 (n + 1) H =
(bin Tryd.prog .lss 3 s28 s27).bind fun v21 =>
aIf v21
 ((ixA Tryd.prog 91 s26 s28).bind fun v22 =>
 (ld Tryd.prog 67 H v22).bind fun v23 =>
 (ld Tryd.prog 31 H s2).bind fun v24 =>
 b2 (callV (rn k) v23 [] H) fun v25 h25 =>
 aChk (ld Tryd.prog 31 h25 s2 = some v24) <|
 b2 (rn k 43 [v24, v25] h25) fun v26 h26 =>
 (bin Tryd.prog .neq 28 v26 (.int .i64 0)).bind fun v27 =>
 aIf v27
  (some (.ret, (f26_X_L0 s2 s3 v26), h26))
  ((bin Tryd.prog .add 3 s28 (.int .i64 1)).bind fun v28 =>
  f26_L0 k s2 s3 s26 s27 v28 n h26))
 (some ((.exit 0), (f26_X_L0 s2 s3 unk), H)) := by kernel_rfl
theorem f26_A0_x0 (k : Nat) (s2 s3 s4 : Value) (H : AH) : f26_A0 k (.exit 0) (f26_X_L0 s2 s3 s4) H =
(ld Tryd.prog 31 H s2).bind fun v29 =>
(ld Tryd.prog 31 H s2).bind fun v30 =>
(ld Tryd.prog 62 H s3).bind fun v31 =>
(nilChk v29).bind fun v32 =>
(fldA Tryd.prog 65 v32 0).bind fun v33 =>
(st Tryd.prog 62 H v33 v31).bind fun h34 =>
aChk (ld Tryd.prog 31 h34 s2 = some v30) <|
(nilChk v30).bind fun v35 =>
(fldA Tryd.prog 65 v35 2).bind fun v36 =>
(st Tryd.prog 63 h34 v36 (.slice none 0 0)).bind fun h37 =>
some ((.int .i64 0), h37) := by kernel_rfl
theorem f26_A0_ret (k : Nat) (s2 s3 s4 : Value) (H : AH) : f26_A0 k .ret (f26_X_L0 s2 s3 s4) H =
some (s4, H) := by kernel_rfl
theorem f26_eq (k : Nat) (a0 a1 : Value) (H : AH) : rn (k + 1) 26 [a0, a1] H =
b2 (box 31 H a0) fun v1 h1 =>
b2 (box 62 h1 a1) fun v2 h2 =>
(ld Tryd.prog 31 h2 v1).bind fun v3 =>
(nilChk v3).bind fun v4 =>
(fldA Tryd.prog 65 v4 0).bind fun v5 =>
(fldA Tryd.prog 62 v5 0).bind fun v6 =>
(ld Tryd.prog 3 h2 v6).bind fun v7 =>
(bin Tryd.prog .add 3 v7 (.int .i64 1)).bind fun v8 =>
(fldA Tryd.prog 62 v2 0).bind fun v9 =>
(st Tryd.prog 3 h2 v9 v8).bind fun h10 =>
(ld Tryd.prog 31 h10 v1).bind fun v11 =>
(nilChk v11).bind fun v12 =>
(fldA Tryd.prog 65 v12 1).bind fun v13 =>
(ld Tryd.prog 27 h10 v13).bind fun v14 =>
(ld Tryd.prog 31 h10 v1).bind fun v15 =>
(nilChk v15).bind fun v16 =>
(fldA Tryd.prog 65 v16 1).bind fun v17 =>
(ld Tryd.prog 27 h10 v17).bind fun v18 =>
b2 (buildS Tryd.prog 91 h10 3 [(0, (.func (.func 20) #[v14] #[])), (1, (.func (.func 42) #[] #[v2, v1])), (2, (.func (.func 20) #[v18] #[]))]) fun v19 h19 =>
(lenV Tryd.prog 91 v19).bind fun v20 =>
(f26_L0 k v1 v2 v19 v20 (.int .i64 0) k h19).bind fun p => f26_A0 k p.1 p.2.1 p.2.2 := by kernel_rfl
theorem f27_eq (k : Nat) (a0 : Value) (H : AH) : rn (k + 1) 27 [a0] H =
(nilChk a0).bind fun v1 =>
(fldA Tryd.prog 65 v1 0).bind fun v2 =>
(fldA Tryd.prog 62 v2 1).bind fun v3 =>
(ld Tryd.prog 3 H v3).bind fun v4 =>
some (v4, H) := by kernel_rfl
abbrev f28_T_R0 (s4 s5 s6 : Value) : List Value := [unk, unk, unk, unk, s4, s5, s6, unk, unk, unk, unk, unk, unk, unk, unk, unk, unk, unk, unk, unk, unk]
abbrev f28_X_R0 (s4 s5 s6 : Value) : List Value := [unk, unk, unk, unk, s4, s5, s6, unk, unk, unk, unk, unk, unk, unk, unk, unk, unk, unk, unk, unk, unk]
@[irreducible] def f28_B0 (k : Nat) (s4 s5 s6 : Value) (e : EX) (H : AH) : Option (Value × AH) := resume Tryd.prog (rn k) k (tbs 28) (bodyOf Tryd.f28) [1, 1, 0, 1, 0] e (f28_X_R0 s4 s5 s6) H (resK Tryd.prog Tryd.f28.results.toList)
theorem f28_B0_normal (k : Nat) (s4 s5 s6 : Value) (H : AH) : f28_B0 k s4 s5 s6 .normal H =
b2 (rn k 46 [s6] H) fun v5 h5 =>
(st Tryd.prog 9 h5 s4 v5).bind fun h6 =>
(st Tryd.prog 28 h6 s5 (.int .i64 0)).bind fun h7 =>
((ld Tryd.prog 9 h7 s4).bind fun v8 => ((ld Tryd.prog 28 h7 s5).bind fun v9 => some (v9 :: [])).bind fun vs => some (v8 :: vs)).bind fun vs => some (oneOf vs, h7) := by kernel_rfl
theorem f28_Y0_eq (k : Nat) (s4 s5 s6 : Value) (x0 : Value) (b : Nat) (H : AH) (hb : blk H b = some ⟨.int .i64 0 :: f28_T_R0 s4 s5 s6, 4, .loop 28 4⟩) : rn (k + 1) (yOff + b) [x0] H =
b2 (newV Tryd.prog 100 H) fun v12 h12 =>
(st Tryd.prog 100 h12 v12 x0).bind fun h13 =>
(setSt h13 b 0 1).bind fun h0 =>
(fldA Tryd.prog 100 v12 2).bind fun v14 =>
(ld Tryd.prog 28 h0 v14).bind fun v15 =>
(bin Tryd.prog .neq 28 v15 (.int .i64 0)).bind fun v16 =>
aIf v16
 ((fldA Tryd.prog 100 v12 2).bind fun v17 =>
 (ld Tryd.prog 28 h0 v17).bind fun v18 =>
 (st Tryd.prog 9 h0 s4 (.string ⟨#[]⟩)).bind fun h19 =>
 aChk (ld Tryd.prog 28 h19 v17 = some v18) <|
 (st Tryd.prog 28 h19 s5 v18).bind fun h20 =>
 (setSt h20 b 1 2).bind fun h => some (.bool false, h))
 ((fldA Tryd.prog 100 v12 1).bind fun v21 =>
 (ld Tryd.prog 9 h0 v21).bind fun v22 =>
 b2 (rn k 45 [s6, v22] h0) fun v23 h23 =>
 (setSt h23 b 1 0).bind fun h => some (.bool true, h)) := (run_round hb).trans (by kernel_rfl)
theorem f28_eq (k : Nat) (a0 a1 : Value) (H : AH) : rn (k + 1) 28 [a0, a1] H =
b2 (newV Tryd.prog 9 H) fun v1 h1 =>
b2 (newV Tryd.prog 28 h1) fun v2 h2 =>
b2 (newV Tryd.prog 95 h2) fun v3 h3 =>
b2 (rn k 44 [a0, a1] h3) fun v4 h4 =>
b2 (callV (rn k) v4 [(.func (.yield (List.length h4)) #[] #[])] (mkB h4 (.int .i64 0 :: (f28_T_R0 v1 v2 v3)) 4 (.loop 28 4))) fun v h => rgBack (List.length h4) h fun e h => f28_B0 k v1 v2 v3 e h := by kernel_rfl
theorem f29_eq (k : Nat) (a0 : Value) (H : AH) : rn (k + 1) 29 [a0] H =
(bin Tryd.prog .eql 3 a0 (.int .i64 0)).bind fun v1 =>
b2 (gOp v1 false (some (a0, H)) H) fun v2 h2 =>
b2 (gOp v1 false ((bin Tryd.prog .geq 3 v2 (.int .i64 2)).bind fun v => some (v, h2)) h2) fun v3 h3 =>
b2 (gOp v1 false (some (v3, h3)) h3) fun v4 h4 =>
b2 (gOp v4 true (some (a0, h4)) h4) fun v5 h5 =>
b2 (gOp v4 true ((bin Tryd.prog .leq 3 v5 (.int .i64 511)).bind fun v => some (v, h5)) h5) fun v6 h6 =>
b2 (gOp v1 false ((pickV v4 v6 (.bool false)).bind fun v => some (v, h6)) h6) fun v7 h7 =>
(pickV v1 (.bool true) v7).bind fun v8 =>
some (v8, h7) := by kernel_rfl
theorem f30_eq (k : Nat) (a0 : Value) (H : AH) : rn (k + 1) 30 [a0] H =
(bin Tryd.prog .eql 22 a0 (.slice none 0 0)).bind fun v1 =>
aIf v1
 (some ((.slice none 0 0), H))
 (b2 (buildS Tryd.prog 22 H 0 []) fun v2 h2 =>
 b2 (ap Tryd.prog 22 22 h2 v2 a0) fun v3 h3 =>
 some (v3, h3)) := by kernel_rfl
theorem f33_eq (k : Nat) (a0 : Value) (H : AH) : rn (k + 1) 33 [a0] H =
(nilChk a0).bind fun v1 =>
(fldA Tryd.prog 58 v1 0).bind fun v2 =>
(ld Tryd.prog 55 H v2).bind fun v3 =>
(lenV Tryd.prog 55 v3).bind fun v4 =>
(bin Tryd.prog .quo 3 v4 (.int .i64 64)).bind fun v5 =>
some (v5, H) := by kernel_rfl
theorem f34_eq (k : Nat) (a0 a1 a2 a3 : Value) (H : AH) : rn (k + 1) 34 [a0, a1, a2, a3] H =
b2 (rn k 47 [a2, a3] H) fun v1 h1 =>
(ext v1 0).bind fun v2 =>
(ext v1 1).bind fun v3 =>
(bin Tryd.prog .neq 28 v3 (.int .i64 0)).bind fun v4 =>
b2 (gOp v4 false (some (a1, h1)) h1) fun v5 h5 =>
b2 (gOp v4 false ((bin Tryd.prog .lss 3 v5 (.int .i64 0)).bind fun v => some (v, h5)) h5) fun v6 h6 =>
(pickV v4 (.bool true) v6).bind fun v7 =>
b2 (gOp v7 false (some (a1, h6)) h6) fun v8 h8 =>
b2 (gOp v7 false ((bin Tryd.prog .gtr 3 v8 (.int .i64 1048576)).bind fun v => some (v, h8)) h8) fun v9 h9 =>
(pickV v7 (.bool true) v9).bind fun v10 =>
aIf v10
 (some ((.int .i64 1), h9))
 ((bin Tryd.prog .mul 3 (.int .i64 2) a1).bind fun v11 =>
 (slc Tryd.prog 9 v2 none (some (.int .i64 64))).bind fun v12 =>
 b2 (rn k 48 [a0, v11, v12] h9) fun v13 h13 =>
 (bin Tryd.prog .neq 28 v13 (.int .i64 0)).bind fun v14 =>
 aIf v14
  (some (v13, h13))
  ((bin Tryd.prog .mul 3 (.int .i64 2) a1).bind fun v15 =>
  (bin Tryd.prog .add 3 v15 (.int .i64 1)).bind fun v16 =>
  (slc Tryd.prog 9 v2 (some (.int .i64 64)) none).bind fun v17 =>
  b2 (rn k 48 [a0, v16, v17] h13) fun v18 h18 =>
  some (v18, h18))) := by kernel_rfl
abbrev f35_T_L0 (s1 s3 s7 : Value) : List Value := [unk, s1, unk, s3, unk, unk, unk, s7, unk, unk, unk, unk, unk, unk, unk, unk, unk, unk, unk, unk, unk, unk, unk, unk, unk, unk, unk, unk, unk, unk, unk, unk, unk, unk, unk, unk, unk, unk, unk, unk, unk, unk, unk, unk, unk, unk, unk, unk, unk, unk, unk, unk]
abbrev f35_X_L0 (s1 s3 : Value) : List Value := [unk, s1, unk, s3, unk, unk, unk, unk, unk, unk, unk, unk, unk, unk, unk, unk, unk, unk, unk, unk, unk, unk, unk, unk, unk, unk, unk, unk, unk, unk, unk, unk, unk, unk, unk, unk, unk, unk, unk, unk, unk, unk, unk, unk, unk, unk, unk, unk, unk, unk, unk, unk]
@[irreducible] def f35_L0 (k : Nat) (s1 s3 s7 : Value) (n : Nat) (H : AH) : Option Out := iterD (fun T H K => evalK Tryd.prog (rn k) k (tbs 35) (codeAt (bodyOf Tryd.f35) [1, 1, 0, 1, 0, 0]) T H K) (cutT (tbs 35) 10) (cutT (tbs 35) 11) n (f35_T_L0 s1 s3 s7) H
@[irreducible] def f35_A0 (k : Nat) (e : EX) (T : List Value) (H : AH) : Option (Value × AH) := resumeP Tryd.prog (rn k) k (tbs 35) mText (bodyOf Tryd.f35) [1, 1, 0, 1, 0] [1, 1, 1, 1, 0] e T H (resK Tryd.prog Tryd.f35.results.toList)
theorem f35_L0_succ (k : Nat) (s1 s3 s7 : Value) (n : Nat) (H : AH) : f35_L0 k s1 s3 s7 (n + 1) H =
(bin Tryd.prog .lss 3 s7 (.int .i64 6)).bind fun v3 =>
aIf v3
 ((fldA Tryd.prog 62 s1 0).bind fun v4 =>
 (ld Tryd.prog 3 H v4).bind fun v5 =>
 (bin Tryd.prog .sub 3 (.int .i64 5) s7).bind fun v6 =>
 (bin Tryd.prog .mul 3 (.int .i64 8) v6).bind fun v7 =>
 (bin Tryd.prog .shr 3 v5 v7).bind fun v8 =>
 (cv Tryd.prog 3 5 v8).bind fun v9 =>
 (ixA Tryd.prog 55 s3 s7).bind fun v10 =>
 (st Tryd.prog 5 H v10 v9).bind fun h11 =>
 (bin Tryd.prog .add 3 s7 (.int .i64 1)).bind fun v12 =>
 f35_L0 k s1 s3 v12 n h11)
 (some ((.exit 0), (f35_X_L0 s1 s3), H)) := by kernel_rfl
theorem f35_A0_x0 (k : Nat) (s1 s3 : Value) (H : AH) : f35_A0 k (.exit 0) (f35_X_L0 s1 s3) H =
(fldA Tryd.prog 62 s1 1).bind fun v13 =>
(ld Tryd.prog 3 H v13).bind fun v14 =>
(bin Tryd.prog .shr 3 v14 (.int .u64 8)).bind fun v15 =>
(cv Tryd.prog 3 5 v15).bind fun v16 =>
(fldA Tryd.prog 62 s1 1).bind fun v17 =>
(ld Tryd.prog 3 H v17).bind fun v18 =>
(cv Tryd.prog 3 5 v18).bind fun v19 =>
(ixA Tryd.prog 55 s3 (.int .i64 6)).bind fun v20 =>
(st Tryd.prog 5 H v20 v16).bind fun h21 =>
aChk (ld Tryd.prog 3 h21 v17 = some v18) <|
(ixA Tryd.prog 55 s3 (.int .i64 7)).bind fun v22 =>
(st Tryd.prog 5 h21 v22 v19).bind fun h23 =>
(gText [s1, s3] h23).bind fun h24 =>
(cvS Tryd.prog 55 9 h24 s3).bind fun v25 =>
some (v25, h24) := by kernel_rfl
theorem f35_eq (k : Nat) (a0 : Value) (H : AH) : rn (k + 1) 35 [a0] H =
b2 (box 62 H a0) fun v1 h1 =>
b2 (mkS Tryd.prog 55 h1 (.int .i64 72) (.int .i64 72)) fun v2 h2 =>
(f35_L0 k v1 v2 (.int .i64 0) k h2).bind fun p => f35_A0 k p.1 p.2.1 p.2.2 := by kernel_rfl
theorem f36_eq (k : Nat) (a0 a1 : Value) (H : AH) : rn (k + 1) 36 [a0, a1] H =
(nilChk a0).bind fun v1 =>
(fldA Tryd.prog 58 v1 2).bind fun v2 =>
(ld Tryd.prog 3 H v2).bind fun v3 =>
(bin Tryd.prog .eql 3 v3 (.int .i64 0)).bind fun v4 =>
aIf v4
 ((nilChk a0).bind fun v5 =>
 (fldA Tryd.prog 58 v5 3).bind fun v6 =>
 (st Tryd.prog 4 H v6 (.bool true)).bind fun h7 =>
 some ((.int .i64 7), h7))
 ((nilChk a0).bind fun v8 =>
 (fldA Tryd.prog 58 v8 2).bind fun v9 =>
 (ld Tryd.prog 3 H v9).bind fun v10 =>
 (bin Tryd.prog .sub 3 v10 (.int .i64 1)).bind fun v11 =>
 (fold1 maxV [v11, (.int .i64 (-1))]).bind fun v12 =>
 (nilChk a0).bind fun v13 =>
 (fldA Tryd.prog 58 v13 2).bind fun v14 =>
 (st Tryd.prog 3 H v14 v12).bind fun h15 =>
 b2 (callY (rn k) a1 [] h15) fun v16 h16 =>
 some ((.int .i64 0), h16)) := by kernel_rfl
abbrev f37_T_L0 (s0 s6 s7 s8 : Value) : List Value := [s0, unk, unk, unk, unk, unk, s6, s7, s8, unk, unk, unk, unk, unk, unk, unk, unk, unk, unk, unk, unk, unk]
abbrev f37_X_L0 (s0 : Value) : List Value := [s0, unk, unk, unk, unk, unk, unk, unk, unk, unk, unk, unk, unk, unk, unk, unk, unk, unk, unk, unk, unk, unk]
@[irreducible] def f37_L0 (k : Nat) (s0 s6 s7 s8 : Value) (n : Nat) (H : AH) : Option Out := iterD (fun T H K => evalK Tryd.prog (rn k) k (tbs 37) (codeAt (bodyOf Tryd.f37) [0, 1, 0, 0]) T H K) (cutT (tbs 37) 4) (cutT (tbs 37) 5) n (f37_T_L0 s0 s6 s7 s8) H
@[irreducible] def f37_A0 (k : Nat) (e : EX) (T : List Value) (H : AH) : Option (Value × AH) := resume Tryd.prog (rn k) k (tbs 37) (bodyOf Tryd.f37) [0, 1, 0] e T H (resK Tryd.prog Tryd.f37.results.toList)
theorem f37_L0_succ (k : Nat) (s0 s6 s7 s8 : Value) (n : Nat) (H : AH) : f37_L0 k s0 s6 s7 s8 (n + 1) H =
(bin Tryd.prog .lss 3 s8 s7).bind fun v6 =>
aIf v6
 ((ixA Tryd.prog 56 s6 s8).bind fun v7 =>
 (ld Tryd.prog 84 H v7).bind fun v8 =>
 b2 (newV Tryd.prog 84 H) fun v9 h9 =>
 (st Tryd.prog 84 h9 v9 v8).bind fun h10 =>
 (ld Tryd.prog 27 h10 s0).bind fun v11 =>
 (fldA Tryd.prog 84 v9 0).bind fun v12 =>
 (ld Tryd.prog 3 h10 v12).bind fun v13 =>
 (fldA Tryd.prog 84 v9 1).bind fun v14 =>
 (ld Tryd.prog 9 h10 v14).bind fun v15 =>
 b2 (rn k 38 [v11, v13, v15] h10) fun v16 h16 =>
 (bin Tryd.prog .add 3 s8 (.int .i64 1)).bind fun v17 =>
 f37_L0 k s0 s6 s7 v17 n h16)
 (some ((.exit 0), (f37_X_L0 s0), H)) := by kernel_rfl
theorem f37_A0_x0 (k : Nat) (s0 : Value) (H : AH) : f37_A0 k (.exit 0) (f37_X_L0 s0) H =
(ld Tryd.prog 27 H s0).bind fun v18 =>
(nilChk v18).bind fun v19 =>
(fldA Tryd.prog 58 v19 1).bind fun v20 =>
(st Tryd.prog 56 H v20 (.slice none 0 0)).bind fun h21 =>
some ((.tuple #[]), h21) := by kernel_rfl
theorem f37_eq (k : Nat) (a0 : Value) (H : AH) : rn (k + 1) 37 [a0] H =
(ld Tryd.prog 27 H a0).bind fun v1 =>
(nilChk v1).bind fun v2 =>
(fldA Tryd.prog 58 v2 1).bind fun v3 =>
(ld Tryd.prog 56 H v3).bind fun v4 =>
(lenV Tryd.prog 56 v4).bind fun v5 =>
(f37_L0 k a0 v4 v5 (.int .i64 0) k H).bind fun p => f37_A0 k p.1 p.2.1 p.2.2 := by kernel_rfl
theorem f38_eq (k : Nat) (a0 a1 a2 : Value) (H : AH) : rn (k + 1) 38 [a0, a1, a2] H =
(nilChk a0).bind fun v1 =>
(fldA Tryd.prog 58 v1 0).bind fun v2 =>
(ld Tryd.prog 55 H v2).bind fun v3 =>
(bin Tryd.prog .mul 3 a1 (.int .i64 64)).bind fun v4 =>
(slc Tryd.prog 55 v3 (some v4) none).bind fun v5 =>
b2 (cpy Tryd.prog 55 H v5 a2) fun v6 h6 =>
some ((.tuple #[]), h6) := by kernel_rfl
theorem f39_eq (k : Nat) (a0 : Value) (H : AH) : rn (k + 1) 39 [a0] H =
(nilChk a0).bind fun v1 =>
(fldA Tryd.prog 65 v1 2).bind fun v2 =>
(ld Tryd.prog 63 H v2).bind fun v3 =>
b2 (rn k 49 [v3] H) fun v4 h4 =>
some (v4, h4) := by kernel_rfl
abbrev f40_T_L0 (s0 s1 s6 s16 s17 : Value) : List Value := [s0, s1, unk, unk, unk, unk, s6, unk, unk, unk, unk, unk, unk, unk, unk, unk, s16, s17, unk, unk, unk, unk, unk, unk, unk, unk, unk, unk, unk, unk, unk, unk, unk, unk, unk, unk, unk, unk, unk, unk, unk, unk, unk, unk, unk, unk, unk, unk, unk, unk, unk, unk, unk, unk, unk, unk, unk, unk, unk, unk, unk, unk, unk, unk, unk, unk, unk, unk, unk, unk, unk, unk, unk, unk]
abbrev f40_X_L0 (s0 s1 s4 s5 s6 : Value) : List Value := [s0, s1, unk, unk, s4, s5, s6, unk, unk, unk, unk, unk, unk, unk, unk, unk, unk, unk, unk, unk, unk, unk, unk, unk, unk, unk, unk, unk, unk, unk, unk, unk, unk, unk, unk, unk, unk, unk, unk, unk, unk, unk, unk, unk, unk, unk, unk, unk, unk, unk, unk, unk, unk, unk, unk, unk, unk, unk, unk, unk, unk, unk, unk, unk, unk, unk, unk, unk, unk, unk, unk, unk, unk, unk]
abbrev f40_T_L1 (s0 s1 s6 s32 s33 s34 : Value) : List Value := [s0, s1, unk, unk, unk, unk, s6, unk, unk, unk, unk, unk, unk, unk, unk, unk, unk, unk, unk, unk, unk, unk, unk, unk, unk, unk, unk, unk, unk, unk, unk, unk, s32, s33, s34, unk, unk, unk, unk, unk, unk, unk, unk, unk, unk, unk, unk, unk, unk, unk, unk, unk, unk, unk, unk, unk, unk, unk, unk, unk, unk, unk, unk, unk, unk, unk, unk, unk, unk, unk, unk, unk, unk, unk]
abbrev f40_X_L1 (s4 s5 s6 : Value) : List Value := [unk, unk, unk, unk, s4, s5, s6, unk, unk, unk, unk, unk, unk, unk, unk, unk, unk, unk, unk, unk, unk, unk, unk, unk, unk, unk, unk, unk, unk, unk, unk, unk, unk, unk, unk, unk, unk, unk, unk, unk, unk, unk, unk, unk, unk, unk, unk, unk, unk, unk, unk, unk, unk, unk, unk, unk, unk, unk, unk, unk, unk, unk, unk, unk, unk, unk, unk, unk, unk, unk, unk, unk, unk, unk]
abbrev f40_T_J0 (s0 s1 s6 s10 s11 s32 s33 s34 : Value) : List Value := [s0, s1, unk, unk, unk, unk, s6, unk, unk, unk, s10, s11, unk, unk, unk, unk, unk, unk, unk, unk, unk, unk, unk, unk, unk, unk, unk, unk, unk, unk, unk, unk, s32, s33, s34, unk, unk, unk, unk, unk, unk, unk, unk, unk, unk, unk, unk, unk, unk, unk, unk, unk, unk, unk, unk, unk, unk, unk, unk, unk, unk, unk, unk, unk, unk, unk, unk, unk, unk, unk, unk, unk, unk, unk]
@[irreducible] def f40_L0 (k : Nat) (s0 s1 s6 s16 s17 : Value) (n : Nat) (H : AH) : Option Out := iterD (fun T H K => evalK Tryd.prog (rn k) k (tbs 40) (codeAt (bodyOf Tryd.f40) [1, 1, 0, 1, 0, 0]) T H K) (cutT (tbs 40) 10) (cutT (tbs 40) 11) n (f40_T_L0 s0 s1 s6 s16 s17) H
@[irreducible] def f40_A0 (k : Nat) (e : EX) (T : List Value) (H : AH) : Option (Value × AH) := resume Tryd.prog (rn k) k (tbs 40) (bodyOf Tryd.f40) [1, 1, 0, 1, 0] e T H (resK Tryd.prog Tryd.f40.results.toList)
@[irreducible] def f40_L1 (k : Nat) (s0 s1 s6 s32 s33 s34 : Value) (n : Nat) (H : AH) : Option Out := iterD (fun T H K => evalK Tryd.prog (rn k) k (tbs 40) (codeAt (bodyOf Tryd.f40) [1, 1, 1, 0, 1, 0, 0]) T H K) (cutT (tbs 40) 31) (cutT (tbs 40) 32) n (f40_T_L1 s0 s1 s6 s32 s33 s34) H
@[irreducible] def f40_A1 (k : Nat) (e : EX) (T : List Value) (H : AH) : Option (Value × AH) := resume Tryd.prog (rn k) k (tbs 40) (bodyOf Tryd.f40) [1, 1, 1, 0, 1, 0] e T H (resK Tryd.prog Tryd.f40.results.toList)
@[irreducible] def f40_J0 (k : Nat) (n : Nat) (s0 s1 s6 s10 s11 s32 s33 s34 : Value) (H : AH) : Option Out := resume Tryd.prog (rn k) k (tbs 40) (codeAt (bodyOf Tryd.f40) [1, 1, 1, 0, 1, 0, 0]) [1, 1, 0, 0, 1, 1, 0] .normal (f40_T_J0 s0 s1 s6 s10 s11 s32 s33 s34) H (loopK (iterD (fun T H K => evalK Tryd.prog (rn k) k (tbs 40) (codeAt (bodyOf Tryd.f40) [1, 1, 1, 0, 1, 0, 0]) T H K) (cutT (tbs 40) 31) (cutT (tbs 40) 32) n) (cutT (tbs 40) 31) (cutT (tbs 40) 32))
theorem f40_L0_succ (k : Nat) (s0 s1 s6 s16 s17 : Value) (n : Nat) (H : AH) : f40_L0 k s0 s1 s6 s16 s17 (n + 1) H =
(bin Tryd.prog .lss 3 s17 s16).bind fun v3 =>
aIf v3
 (b2 (rn k 51 [s0] H) fun v4 h4 =>
 (ext v4 0).bind fun v5 =>
 (ext v4 1).bind fun v6 =>
 (bin Tryd.prog .neq 28 v6 (.int .i64 0)).bind fun v7 =>
 aIf v7
  (some (.ret, (f40_X_L0 s0 s1 (.slice none 0 0) v6 s6), h4))
  (b2 (buildS Tryd.prog 63 h4 1 [(0, v5)]) fun v8 h8 =>
  b2 (ap Tryd.prog 63 63 h8 s6 v8) fun v9 h9 =>
  (bin Tryd.prog .add 3 s17 (.int .i64 1)).bind fun v10 =>
  f40_L0 k s0 s1 v9 s16 v10 n h9))
 (some ((.exit 0), (f40_X_L0 s0 s1 unk unk s6), H)) := by kernel_rfl
theorem f40_A0_x0 (k : Nat) (s0 s1 s4 s5 s6 : Value) (H : AH) : f40_A0 k (.exit 0) (f40_X_L0 s0 s1 s4 s5 s6) H =
(lenV Tryd.prog 63 s6).bind fun v11 =>
(f40_L1 k s0 s1 s6 s6 v11 (.int .i64 0) k H).bind fun p => f40_A1 k p.1 p.2.1 p.2.2 := by kernel_rfl
theorem f40_A0_ret (k : Nat) (s0 s1 s4 s5 s6 : Value) (H : AH) : f40_A0 k .ret (f40_X_L0 s0 s1 s4 s5 s6) H =
some ((.tuple #[s4, s5]), H) := by kernel_rfl
theorem f40_L1_succ (k : Nat) (s0 s1 s6 s32 s33 s34 : Value) (n : Nat) (H : AH) : f40_L1 k s0 s1 s6 s32 s33 s34 (n + 1) H =
(bin Tryd.prog .lss 3 s34 s33).bind fun v12 =>
aIf v12
 ((ixA Tryd.prog 63 s32 s34).bind fun v13 =>
 (ld Tryd.prog 3 H v13).bind fun v14 =>
 (lenV Tryd.prog 63 s6).bind fun v15 =>
 (bin Tryd.prog .sub 3 v15 (.int .i64 1)).bind fun v16 =>
 (bin Tryd.prog .lss 3 s34 v16).bind fun v17 =>
 aIf v17
  ((bin Tryd.prog .add 3 s34 (.int .i64 1)).bind fun v18 =>
  (ixA Tryd.prog 63 s6 v18).bind fun v19 =>
  (ld Tryd.prog 3 H v19).bind fun v20 =>
  f40_J0 k n s0 s1 s6 v14 v20 s32 s33 s34 H)
  (f40_J0 k n s0 s1 s6 v14 (.int .i64 0) s32 s33 s34 H))
 (some ((.exit 2), (f40_X_L1 unk unk s6), H)) := by kernel_rfl
theorem f40_A1_x2 (k : Nat) (s4 s5 s6 : Value) (H : AH) : f40_A1 k (.exit 2) (f40_X_L1 s4 s5 s6) H =
some ((.tuple #[s6, (.int .i64 0)]), H) := by kernel_rfl
theorem f40_J0_eq (k : Nat) (n : Nat) (s0 s1 s6 s10 s11 s32 s33 s34 : Value) (H : AH) : f40_J0 k n s0 s1 s6 s10 s11 s32 s33 s34 H =
(lenV Tryd.prog 9 s1).bind fun v21 =>
(fold1 minV [v21, (.int .i64 118)]).bind fun v22 =>
(bin Tryd.prog .shr 3 s11 (.int .u64 8)).bind fun v23 =>
(cv Tryd.prog 3 5 v23).bind fun v24 =>
(cv Tryd.prog 3 5 s11).bind fun v25 =>
b2 (buildS Tryd.prog 55 H 2 [(0, v24), (1, v25)]) fun v26 h26 =>
(cvS Tryd.prog 55 9 h26 v26).bind fun v27 =>
(slc Tryd.prog 9 s1 none (some v22)).bind fun v28 =>
(bin Tryd.prog .add 9 v27 v28).bind fun v29 =>
b2 (rn k 52 [s0, s10, (.int .i64 2), v29] h26) fun v30 h30 =>
(bin Tryd.prog .neq 28 v30 (.int .i64 0)).bind fun v31 =>
aIf v31
 (some (.ret, (f40_X_L1 (.slice none 0 0) v30 s6), h30))
 ((slc Tryd.prog 9 s1 (some v22) none).bind fun v32 =>
 (bin Tryd.prog .add 3 s34 (.int .i64 1)).bind fun v33 =>
 f40_L1 k s0 v32 s6 s32 s33 v33 n h30) := by kernel_rfl
theorem f40_eq (k : Nat) (a0 a1 : Value) (H : AH) : rn (k + 1) 40 [a0, a1] H =
(lenV Tryd.prog 9 a1).bind fun v1 =>
b2 (rn k 50 [v1] H) fun v2 h2 =>
(f40_L0 k a0 a1 (.slice none 0 0) v2 (.int .i64 0) k h2).bind fun p => f40_A0 k p.1 p.2.1 p.2.2 := by kernel_rfl
theorem f41_eq (k : Nat) (a0 a1 : Value) (H : AH) : rn (k + 1) 41 [a0, a1] H =
(nilChk a0).bind fun v1 =>
(fldA Tryd.prog 65 v1 2).bind fun v2 =>
(ld Tryd.prog 63 H v2).bind fun v3 =>
(fold1 maxV [a1, (.int .i64 0)]).bind fun v4 =>
(nilChk a0).bind fun v5 =>
(fldA Tryd.prog 65 v5 2).bind fun v6 =>
(ld Tryd.prog 63 H v6).bind fun v7 =>
(lenV Tryd.prog 63 v7).bind fun v8 =>
(fold1 minV [v4, v8]).bind fun v9 =>
(slc Tryd.prog 63 v3 none (some v9)).bind fun v10 =>
(nilChk a0).bind fun v11 =>
(fldA Tryd.prog 65 v11 2).bind fun v12 =>
(st Tryd.prog 63 H v12 v10).bind fun h13 =>
some ((.tuple #[]), h13) := by kernel_rfl
theorem f42_eq (k : Nat) (a0 a1 : Value) (H : AH) : rn (k + 1) 42 [a0, a1] H =
(ld Tryd.prog 62 H a0).bind fun v1 =>
(ld Tryd.prog 31 H a1).bind fun v2 =>
(nilChk v2).bind fun v3 =>
(fldA Tryd.prog 65 v3 1).bind fun v4 =>
(ld Tryd.prog 27 H v4).bind fun v5 =>
b2 (rn k 19 [v1, v5] H) fun v6 h6 =>
some (v6, h6) := by kernel_rfl
theorem f43_eq (k : Nat) (a0 a1 : Value) (H : AH) : rn (k + 1) 43 [a0, a1] H =
(nilChk a0).bind fun v1 =>
(fldA Tryd.prog 65 v1 3).bind fun v2 =>
(ld Tryd.prog 4 H v2).bind fun v3 =>
b2 (gOp v3 false (some (a1, H)) H) fun v4 h4 =>
b2 (gOp v3 false ((bin Tryd.prog .eql 28 v4 (.int .i64 7)).bind fun v => some (v, h4)) h4) fun v5 h5 =>
(pickV v3 (.bool true) v5).bind fun v6 =>
(nilChk a0).bind fun v7 =>
(fldA Tryd.prog 65 v7 3).bind fun v8 =>
(st Tryd.prog 4 h5 v8 v6).bind fun h9 =>
some (a1, h9) := by kernel_rfl
theorem f44_eq (k : Nat) (a0 a1 : Value) (H : AH) : rn (k + 1) 44 [a0, a1] H =
b2 (box 31 H a0) fun v1 h1 =>
b2 (box 3 h1 a1) fun v2 h2 =>
some ((.func (.func 53) #[] #[v2, v1]), h2) := by kernel_rfl
theorem f45_eq (k : Nat) (a0 a1 : Value) (H : AH) : rn (k + 1) 45 [a0, a1] H =
b2 (rn k 57 [a0] H) fun v1 h1 =>
(nilChk a0).bind fun v2 =>
(fldA Tryd.prog 95 v2 1).bind fun v3 =>
(ld Tryd.prog 55 h1 v3).bind fun v4 =>
b2 (ap Tryd.prog 55 9 h1 v4 a1) fun v5 h5 =>
(nilChk a0).bind fun v6 =>
(fldA Tryd.prog 95 v6 1).bind fun v7 =>
(st Tryd.prog 55 h5 v7 v5).bind fun h8 =>
(lenV Tryd.prog 9 a1).bind fun v9 =>
some ((.tuple #[v9, .nilIface]), h8) := by kernel_rfl
theorem f46_eq (k : Nat) (a0 : Value) (H : AH) : rn (k + 1) 46 [a0] H =
(nilChk a0).bind fun v1 =>
(fldA Tryd.prog 95 v1 1).bind fun v2 =>
(ld Tryd.prog 55 H v2).bind fun v3 =>
(sdV v3).bind fun v4 =>
(nilChk a0).bind fun v5 =>
(fldA Tryd.prog 95 v5 1).bind fun v6 =>
(ld Tryd.prog 55 H v6).bind fun v7 =>
(lenV Tryd.prog 55 v7).bind fun v8 =>
b2 (usV Tryd.prog 115 H v4 v8) fun v9 h9 =>
some (v9, h9) := by kernel_rfl
theorem f47_eq (k : Nat) (a0 a1 : Value) (H : AH) : rn (k + 1) 47 [a0, a1] H =
(bin Tryd.prog .lss 3 a0 (.int .i64 1)).bind fun v1 =>
b2 (gOp v1 false (some (a0, H)) H) fun v2 h2 =>
b2 (gOp v1 false ((bin Tryd.prog .gtr 3 v2 (.int .i64 9)).bind fun v => some (v, h2)) h2) fun v3 h3 =>
(pickV v1 (.bool true) v3).bind fun v4 =>
b2 (gOp v4 false (some (a1, h3)) h3) fun v5 h5 =>
b2 (gOp v4 false ((lenV Tryd.prog 9 v5).bind fun v => some (v, h5)) h5) fun v6 h6 =>
b2 (gOp v4 false ((bin Tryd.prog .gtr 3 v6 (.int .i64 120)).bind fun v => some (v, h6)) h6) fun v7 h7 =>
(pickV v4 (.bool true) v7).bind fun v8 =>
aIf v8
 (some ((.tuple #[(.string ⟨#[]⟩), (.int .i64 1)]), h7))
 ((cv Tryd.prog 3 117 a0).bind fun v9 =>
 (lenV Tryd.prog 9 a1).bind fun v10 =>
 (cv Tryd.prog 3 117 v10).bind fun v11 =>
 b2 (buildS Tryd.prog 124 h7 2 [(0, v9), (1, v11)]) fun v12 h12 =>
 b2 (rn k 58 [v12] h12) fun v13 h13 =>
 (bin Tryd.prog .add 9 (.string ⟨#[65, 83]⟩) v13).bind fun v14 =>
 (bin Tryd.prog .add 9 v14 a1).bind fun v15 =>
 (lenV Tryd.prog 9 v15).bind fun v16 =>
 (bin Tryd.prog .sub 3 (.int .i64 124) v16).bind fun v17 =>
 b2 (rn k 59 [(.string ⟨#[0]⟩), v17] h13) fun v18 h18 =>
 (bin Tryd.prog .add 9 v15 v18).bind fun v19 =>
 b2 (rn k 60 [v19] h18) fun v20 h20 =>
 (bin Tryd.prog .add 9 v19 v20).bind fun v21 =>
 some ((.tuple #[v21, (.int .i64 0)]), h20)) := by kernel_rfl
theorem f48_eq (k : Nat) (a0 a1 a2 : Value) (H : AH) : rn (k + 1) 48 [a0, a1, a2] H =
b2 (box 27 H a0) fun v1 h1 =>
b2 (box 3 h1 a1) fun v2 h2 =>
b2 (box 9 h2 a2) fun v3 h3 =>
(ld Tryd.prog 27 h3 v1).bind fun v4 =>
(nilChk v4).bind fun v5 =>
(fldA Tryd.prog 58 v5 3).bind fun v6 =>
(ld Tryd.prog 4 h3 v6).bind fun v7 =>
aIf v7
 (some ((.int .i64 7), h3))
 ((ld Tryd.prog 3 h3 v2).bind fun v8 =>
 (bin Tryd.prog .lss 3 v8 (.int .i64 0)).bind fun v9 =>
 b2 (gOp v9 false ((ld Tryd.prog 3 h3 v2).bind fun v => some (v, h3)) h3) fun v10 h10 =>
 b2 (gOp v9 false ((ld Tryd.prog 27 h3 v1).bind fun v => some (v, h3)) h3) fun v11 h11 =>
 b2 (gOp v9 false (b2 (rn k 33 [v11] h3) fun v h => some (v, h)) h3) fun v12 h12 =>
 aChk (v9 = .bool false → ld Tryd.prog 3 h12 v2 = some v10) <|
 b2 (gOp v9 false ((bin Tryd.prog .geq 3 v10 v12).bind fun v => some (v, h12)) h12) fun v13 h13 =>
 (pickV v9 (.bool true) v13).bind fun v14 =>
 b2 (gOp v14 false ((ld Tryd.prog 9 h13 v3).bind fun v => some (v, h13)) h13) fun v15 h15 =>
 b2 (gOp v14 false ((lenV Tryd.prog 9 v15).bind fun v => some (v, h13)) h13) fun v16 h16 =>
 b2 (gOp v14 false ((bin Tryd.prog .neq 3 v16 (.int .i64 64)).bind fun v => some (v, h16)) h16) fun v17 h17 =>
 (pickV v14 (.bool true) v17).bind fun v18 =>
 aIf v18
  (some ((.int .i64 1), h17))
  ((ld Tryd.prog 27 h17 v1).bind fun v19 =>
  b2 (rn k 36 [v19, (.func (.func 61) #[] #[v1, v2, v3])] h17) fun v20 h20 =>
  some (v20, h20))) := by kernel_rfl
theorem f49_eq (k : Nat) (a0 : Value) (H : AH) : rn (k + 1) 49 [a0] H =
(bin Tryd.prog .eql 63 a0 (.slice none 0 0)).bind fun v1 =>
aIf v1
 (some ((.slice none 0 0), H))
 (b2 (buildS Tryd.prog 63 H 0 []) fun v2 h2 =>
 b2 (ap Tryd.prog 63 63 h2 v2 a0) fun v3 h3 =>
 some (v3, h3)) := by kernel_rfl
theorem f50_eq (k : Nat) (a0 : Value) (H : AH) : rn (k + 1) 50 [a0] H =
(fold1 maxV [a0, (.int .i64 0)]).bind fun v1 =>
(fold1 minV [v1, (.int .i64 1048576)]).bind fun v2 =>
(bin Tryd.prog .eql 3 v2 (.int .i64 0)).bind fun v3 =>
aIf v3
 (some ((.int .i64 1), H))
 ((bin Tryd.prog .add 3 v2 (.int .i64 118)).bind fun v4 =>
 (bin Tryd.prog .sub 3 v4 (.int .i64 1)).bind fun v5 =>
 (bin Tryd.prog .quo 3 v5 (.int .i64 118)).bind fun v6 =>
 some (v6, H)) := by kernel_rfl
abbrev f51_T_L0 (s0 s10 s11 : Value) : List Value := [s0, unk, unk, unk, unk, unk, unk, unk, unk, unk, s10, s11, unk, unk, unk, unk, unk, unk, unk, unk, unk, unk, unk, unk, unk, unk, unk, unk, unk, unk, unk, unk, unk, unk, unk, unk, unk, unk, unk, unk, unk, unk, unk]
abbrev f51_X_L0 (s2 s3 : Value) : List Value := [unk, unk, s2, s3, unk, unk, unk, unk, unk, unk, unk, unk, unk, unk, unk, unk, unk, unk, unk, unk, unk, unk, unk, unk, unk, unk, unk, unk, unk, unk, unk, unk, unk, unk, unk, unk, unk, unk, unk, unk, unk, unk, unk]
@[irreducible] def f51_L0 (k : Nat) (s0 s10 s11 : Value) (n : Nat) (H : AH) : Option Out := iterD (fun T H K => evalK Tryd.prog (rn k) k (tbs 51) (codeAt (bodyOf Tryd.f51) [1, 1, 0, 1, 0, 0]) T H K) (cutT (tbs 51) 13) (cutT (tbs 51) 14) n (f51_T_L0 s0 s10 s11) H
@[irreducible] def f51_A0 (k : Nat) (e : EX) (T : List Value) (H : AH) : Option (Value × AH) := resume Tryd.prog (rn k) k (tbs 51) (bodyOf Tryd.f51) [1, 1, 0, 1, 0] e T H (resK Tryd.prog Tryd.f51.results.toList)
theorem f51_L0_succ (k : Nat) (s0 s10 s11 : Value) (n : Nat) (H : AH) : f51_L0 k s0 s10 s11 (n + 1) H =
(bin Tryd.prog .lss 3 s11 s10).bind fun v5 =>
aIf v5
 ((nilChk s0).bind fun v6 =>
 (fldA Tryd.prog 65 v6 0).bind fun v7 =>
 (fldA Tryd.prog 62 v7 2).bind fun v8 =>
 (ld Tryd.prog 60 H v8).bind fun v9 =>
 (lkU Tryd.prog 60 H v9 s11 false).bind fun v10 =>
 (un Tryd.prog .not v10).bind fun v11 =>
 b2 (gOp v11 true (some (s0, H)) H) fun v12 h12 =>
 b2 (gOp v11 true ((nilChk v12).bind fun v => some (v, h12)) h12) fun v13 h13 =>
 b2 (gOp v11 true ((fldA Tryd.prog 65 v13 2).bind fun v => some (v, h13)) h13) fun v14 h14 =>
 b2 (gOp v11 true ((ld Tryd.prog 63 h14 v14).bind fun v => some (v, h14)) h14) fun v15 h15 =>
 b2 (gOp v11 true (some (s11, h15)) h15) fun v16 h16 =>
 b2 (gOp v11 true (b2 (rn k 56 [v15, v16] h16) fun v h => some (v, h)) h16) fun v17 h17 =>
 b2 (gOp v11 true ((un Tryd.prog .not v17).bind fun v => some (v, h17)) h17) fun v18 h18 =>
 (pickV v11 v18 (.bool false)).bind fun v19 =>
 aIf v19
  ((nilChk s0).bind fun v20 =>
  (fldA Tryd.prog 65 v20 2).bind fun v21 =>
  (ld Tryd.prog 63 h18 v21).bind fun v22 =>
  b2 (buildS Tryd.prog 63 h18 1 [(0, s11)]) fun v23 h23 =>
  b2 (ap Tryd.prog 63 63 h23 v22 v23) fun v24 h24 =>
  (nilChk s0).bind fun v25 =>
  (fldA Tryd.prog 65 v25 2).bind fun v26 =>
  (st Tryd.prog 63 h24 v26 v24).bind fun h27 =>
  some (.ret, (f51_X_L0 s11 (.int .i64 0)), h27))
  ((bin Tryd.prog .add 3 s11 (.int .i64 1)).bind fun v28 =>
  f51_L0 k s0 s10 v28 n h18))
 (some ((.exit 0), (f51_X_L0 unk unk), H)) := by kernel_rfl
theorem f51_A0_x0 (k : Nat) (s2 s3 : Value) (H : AH) : f51_A0 k (.exit 0) (f51_X_L0 s2 s3) H =
some ((.tuple #[(.int .i64 0), (.int .i64 6)]), H) := by kernel_rfl
theorem f51_A0_ret (k : Nat) (s2 s3 : Value) (H : AH) : f51_A0 k .ret (f51_X_L0 s2 s3) H =
some ((.tuple #[s2, s3]), H) := by kernel_rfl
theorem f51_eq (k : Nat) (a0 : Value) (H : AH) : rn (k + 1) 51 [a0] H =
(nilChk a0).bind fun v1 =>
(fldA Tryd.prog 65 v1 3).bind fun v2 =>
(ld Tryd.prog 4 H v2).bind fun v3 =>
aIf v3
 (some ((.tuple #[(.int .i64 0), (.int .i64 7)]), H))
 (b2 (rn k 55 [a0] H) fun v4 h4 =>
 (f51_L0 k a0 v4 (.int .i64 0) k h4).bind fun p => f51_A0 k p.1 p.2.1 p.2.2) := by kernel_rfl
theorem f52_eq (k : Nat) (a0 a1 a2 a3 : Value) (H : AH) : rn (k + 1) 52 [a0, a1, a2, a3] H =
(nilChk a0).bind fun v1 =>
(fldA Tryd.prog 65 v1 3).bind fun v2 =>
(ld Tryd.prog 4 H v2).bind fun v3 =>
aIf v3
 (some ((.int .i64 7), H))
 ((nilChk a0).bind fun v4 =>
 (fldA Tryd.prog 65 v4 2).bind fun v5 =>
 (ld Tryd.prog 63 H v5).bind fun v6 =>
 b2 (rn k 56 [v6, a1] H) fun v7 h7 =>
 (un Tryd.prog .not v7).bind fun v8 =>
 aIf v8
  (some ((.int .i64 8), h7))
  ((nilChk a0).bind fun v9 =>
  (fldA Tryd.prog 65 v9 1).bind fun v10 =>
  (ld Tryd.prog 27 h7 v10).bind fun v11 =>
  b2 (rn k 34 [v11, a1, a2, a3] h7) fun v12 h12 =>
  b2 (rn k 43 [a0, v12] h12) fun v13 h13 =>
  some (v13, h13))) := by kernel_rfl
abbrev f53_T_L0 (s0 s2 s4 s5 : Value) : List Value := [s0, unk, s2, unk, s4, s5, unk, unk, unk, unk, unk, unk, unk, unk, unk, unk, unk, unk, unk, unk, unk, unk, unk, unk, unk, unk, unk, unk, unk, unk, unk, unk, unk, unk, unk, unk, unk, unk, unk, unk, unk, unk, unk, unk, unk, unk, unk, unk, unk, unk, unk, unk, unk, unk, unk, unk, unk, unk, unk, unk, unk, unk, unk, unk, unk, unk, unk, unk, unk, unk, unk, unk, unk, unk, unk, unk, unk, unk, unk, unk, unk, unk, unk, unk, unk]
abbrev f53_X_L0 : List Value := [unk, unk, unk, unk, unk, unk, unk, unk, unk, unk, unk, unk, unk, unk, unk, unk, unk, unk, unk, unk, unk, unk, unk, unk, unk, unk, unk, unk, unk, unk, unk, unk, unk, unk, unk, unk, unk, unk, unk, unk, unk, unk, unk, unk, unk, unk, unk, unk, unk, unk, unk, unk, unk, unk, unk, unk, unk, unk, unk, unk, unk, unk, unk, unk, unk, unk, unk, unk, unk, unk, unk, unk, unk, unk, unk, unk, unk, unk, unk, unk, unk, unk, unk, unk, unk]
@[irreducible] def f53_L0 (k : Nat) (s0 s2 s4 s5 : Value) (n : Nat) (H : AH) : Option Out := iterD (fun T H K => evalK Tryd.prog (rn k) k (tbs 53) (codeAt (bodyOf Tryd.f53) [1, 1, 0, 0]) T H K) (cutT (tbs 53) 7) (cutT (tbs 53) 8) n (f53_T_L0 s0 s2 s4 s5) H
@[irreducible] def f53_A0 (k : Nat) (e : EX) (T : List Value) (H : AH) : Option (Value × AH) := resume Tryd.prog (rn k) k (tbs 53) (bodyOf Tryd.f53) [1, 1, 0] e T H (resK Tryd.prog Tryd.f53.results.toList)
theorem f53_L0_succ (k : Nat) (s0 s2 s4 s5 : Value) (n : Nat) (H : AH) : f53_L0 k s0 s2 s4 s5 (n + 1) H =
(ld Tryd.prog 31 H s2).bind fun v2 =>
b2 (rn k 54 [v2, s5] H) fun v3 h3 =>
(ext v3 0).bind fun v4 =>
(ext v3 1).bind fun v5 =>
(ext v3 2).bind fun v6 =>
(bin Tryd.prog .neq 28 v6 (.int .i64 0)).bind fun v7 =>
aIf v7
 ((build Tryd.prog 100 [(2, v6)]).bind fun v8 =>
 b2 (callY (rn k) s0 [v8] h3) fun v9 h9 =>
 some (.ret, f53_X_L0, h9))
 ((bin Tryd.prog .neq 3 v4 (.int .i64 2)).bind fun v10 =>
 b2 (gOp v10 false (some (v5, h3)) h3) fun v11 h11 =>
 b2 (gOp v10 false ((lenV Tryd.prog 9 v11).bind fun v => some (v, h11)) h11) fun v12 h12 =>
 b2 (gOp v10 false ((bin Tryd.prog .lss 3 v12 (.int .i64 2)).bind fun v => some (v, h12)) h12) fun v13 h13 =>
 (pickV v10 (.bool true) v13).bind fun v14 =>
 b2 (gOp v14 false (some (s4, h13)) h13) fun v15 h15 =>
 b2 (gOp v14 false ((lenV Tryd.prog 63 v15).bind fun v => some (v, h15)) h15) fun v16 h16 =>
 b2 (gOp v14 false ((bin Tryd.prog .geq 3 v16 (.int .i64 512)).bind fun v => some (v, h16)) h16) fun v17 h17 =>
 (pickV v14 (.bool true) v17).bind fun v18 =>
 aIf v18
  ((build Tryd.prog 100 [(2, (.int .i64 2))]).bind fun v19 =>
  b2 (callY (rn k) s0 [v19] h17) fun v20 h20 =>
  some (.ret, f53_X_L0, h20))
  (b2 (buildS Tryd.prog 63 h17 1 [(0, s5)]) fun v21 h21 =>
  b2 (ap Tryd.prog 63 63 h21 s4 v21) fun v22 h22 =>
  (ix Tryd.prog 9 v5 (.int .i64 0)).bind fun v23 =>
  (cv Tryd.prog 5 3 v23).bind fun v24 =>
  (bin Tryd.prog .shl 3 v24 (.int .u64 8)).bind fun v25 =>
  (ix Tryd.prog 9 v5 (.int .i64 1)).bind fun v26 =>
  (cv Tryd.prog 5 3 v26).bind fun v27 =>
  (bin Tryd.prog .or 3 v25 v27).bind fun v28 =>
  (bin Tryd.prog .eql 3 v28 (.int .i64 1)).bind fun v29 =>
  b2 (gOp v29 false (some (v28, h22)) h22) fun v30 h30 =>
  b2 (gOp v29 false ((ld Tryd.prog 31 h30 s2).bind fun v => some (v, h30)) h30) fun v31 h31 =>
  b2 (gOp v29 false (b2 (rn k 55 [v31] h31) fun v h => some (v, h)) h31) fun v32 h32 =>
  b2 (gOp v29 false ((bin Tryd.prog .geq 3 v30 v32).bind fun v => some (v, h32)) h32) fun v33 h33 =>
  (pickV v29 (.bool true) v33).bind fun v34 =>
  b2 (gOp v34 false (some (v28, h33)) h33) fun v35 h35 =>
  b2 (gOp v34 false ((bin Tryd.prog .neq 3 v35 (.int .i64 0)).bind fun v => some (v, h35)) h35) fun v36 h36 =>
  b2 (gOp v34 false (some (v36, h36)) h36) fun v37 h37 =>
  b2 (gOp v37 true (some (v22, h37)) h37) fun v38 h38 =>
  b2 (gOp v37 true (some (v28, h38)) h38) fun v39 h39 =>
  b2 (gOp v37 true (b2 (rn k 56 [v38, v39] h39) fun v h => some (v, h)) h39) fun v40 h40 =>
  b2 (gOp v34 false ((pickV v37 v40 (.bool false)).bind fun v => some (v, h40)) h40) fun v41 h41 =>
  (pickV v34 (.bool true) v41).bind fun v42 =>
  aIf v42
   ((build Tryd.prog 100 [(2, (.int .i64 2))]).bind fun v43 =>
   b2 (callY (rn k) s0 [v43] h41) fun v44 h44 =>
   some (.ret, f53_X_L0, h44))
   ((slc Tryd.prog 9 v5 (some (.int .i64 2)) none).bind fun v45 =>
   (build Tryd.prog 100 [(0, s5), (1, v45)]).bind fun v46 =>
   b2 (callY (rn k) s0 [v46] h41) fun v47 h47 =>
   (un Tryd.prog .not v47).bind fun v48 =>
   b2 (gOp v48 false (some (v28, h47)) h47) fun v49 h49 =>
   b2 (gOp v48 false ((bin Tryd.prog .eql 3 v49 (.int .i64 0)).bind fun v => some (v, h49)) h49) fun v50 h50 =>
   (pickV v48 (.bool true) v50).bind fun v51 =>
   aIf v51
    (some (.ret, f53_X_L0, h50))
    (f53_L0 k s0 s2 v22 v28 n h50)))) := by kernel_rfl
theorem f53_A0_ret (k : Nat) (H : AH) : f53_A0 k .ret f53_X_L0 H =
some ((.tuple #[]), H) := by kernel_rfl
theorem f53_eq (k : Nat) (a0 a1 a2 : Value) (H : AH) : rn (k + 1) 53 [a0, a1, a2] H =
(ld Tryd.prog 3 H a1).bind fun v1 =>
(f53_L0 k a0 a2 (.slice none 0 0) v1 k H).bind fun p => f53_A0 k p.1 p.2.1 p.2.2 := by kernel_rfl
theorem f54_eq (k : Nat) (a0 a1 : Value) (H : AH) : rn (k + 1) 54 [a0, a1] H =
(nilChk a0).bind fun v1 =>
(fldA Tryd.prog 65 v1 3).bind fun v2 =>
(ld Tryd.prog 4 H v2).bind fun v3 =>
aIf v3
 (some ((.tuple #[(.int .i64 0), (.string ⟨#[]⟩), (.int .i64 7)]), H))
 ((bin Tryd.prog .lss 3 a1 (.int .i64 0)).bind fun v4 =>
 b2 (gOp v4 false (some (a1, H)) H) fun v5 h5 =>
 b2 (gOp v4 false (some (a0, h5)) h5) fun v6 h6 =>
 b2 (gOp v4 false (b2 (rn k 55 [v6] h6) fun v h => some (v, h)) h6) fun v7 h7 =>
 b2 (gOp v4 false ((bin Tryd.prog .geq 3 v5 v7).bind fun v => some (v, h7)) h7) fun v8 h8 =>
 (pickV v4 (.bool true) v8).bind fun v9 =>
 aIf v9
  (some ((.tuple #[(.int .i64 0), (.string ⟨#[]⟩), (.int .i64 1)]), h8))
  ((nilChk a0).bind fun v10 =>
  (fldA Tryd.prog 65 v10 1).bind fun v11 =>
  (ld Tryd.prog 27 h8 v11).bind fun v12 =>
  b2 (rn k 62 [v12, a1] h8) fun v13 h13 =>
  (ext v13 0).bind fun v14 =>
  (ext v13 1).bind fun v15 =>
  (ext v13 2).bind fun v16 =>
  b2 (rn k 43 [a0, v16] h13) fun v17 h17 =>
  some ((.tuple #[v14, v15, v17]), h17))) := by kernel_rfl
theorem f55_eq (k : Nat) (a0 : Value) (H : AH) : rn (k + 1) 55 [a0] H =
(nilChk a0).bind fun v1 =>
(fldA Tryd.prog 65 v1 1).bind fun v2 =>
(ld Tryd.prog 27 H v2).bind fun v3 =>
b2 (rn k 18 [v3] H) fun v4 h4 =>
some (v4, h4) := by kernel_rfl
theorem f56_eq (k : Nat) (a0 a1 : Value) (H : AH) : rn (k + 1) 56 [a0, a1] H =
b2 (rn k 63 [a0, a1] H) fun v1 h1 =>
(bin Tryd.prog .geq 3 v1 (.int .i64 0)).bind fun v2 =>
some (v2, h1) := by kernel_rfl
abbrev f58_T_L0 (s3 s6 s7 s8 : Value) : List Value := [unk, unk, unk, s3, unk, unk, s6, s7, s8, unk, unk, unk, unk, unk, unk, unk, unk]
abbrev f58_X_L0 (s3 : Value) : List Value := [unk, unk, unk, s3, unk, unk, unk, unk, unk, unk, unk, unk, unk, unk, unk, unk, unk]
@[irreducible] def f58_L0 (k : Nat) (s3 s6 s7 s8 : Value) (n : Nat) (H : AH) : Option Out := iterD (fun T H K => evalK Tryd.prog (rn k) k (tbs 58) (codeAt (bodyOf Tryd.f58) [1, 1, 0, 1, 0, 0]) T H K) (cutT (tbs 58) 10) (cutT (tbs 58) 11) n (f58_T_L0 s3 s6 s7 s8) H
@[irreducible] def f58_A0 (k : Nat) (e : EX) (T : List Value) (H : AH) : Option (Value × AH) := resume Tryd.prog (rn k) k (tbs 58) (bodyOf Tryd.f58) [1, 1, 0, 1, 0] e T H (resK Tryd.prog Tryd.f58.results.toList)
theorem f58_L0_succ (k : Nat) (s3 s6 s7 s8 : Value) (n : Nat) (H : AH) : f58_L0 k s3 s6 s7 s8 (n + 1) H =
(bin Tryd.prog .lss 3 s8 s7).bind fun v3 =>
aIf v3
 ((ixA Tryd.prog 124 s6 s8).bind fun v4 =>
 (ld Tryd.prog 117 H v4).bind fun v5 =>
 (cv Tryd.prog 117 5 v5).bind fun v6 =>
 b2 (rn k 65 [s3, v6] H) fun v7 h7 =>
 (bin Tryd.prog .add 3 s8 (.int .i64 1)).bind fun v8 =>
 f58_L0 k s3 s6 s7 v8 n h7)
 (some ((.exit 0), (f58_X_L0 s3), H)) := by kernel_rfl
theorem f58_A0_x0 (k : Nat) (s3 : Value) (H : AH) : f58_A0 k (.exit 0) (f58_X_L0 s3) H =
b2 (rn k 46 [s3] H) fun v9 h9 =>
some (v9, h9) := by kernel_rfl
theorem f58_eq (k : Nat) (a0 : Value) (H : AH) : rn (k + 1) 58 [a0] H =
b2 (newV Tryd.prog 95 H) fun v1 h1 =>
(lenV Tryd.prog 124 a0).bind fun v2 =>
(f58_L0 k v1 a0 v2 (.int .i64 0) k h1).bind fun p => f58_A0 k p.1 p.2.1 p.2.2 := by kernel_rfl
abbrev f59_T_J0 (s0 s1 : Value) : List Value := [s0, s1, unk, unk, unk, unk, unk, unk, unk, unk, unk, unk, unk, unk, unk, unk, unk, unk, unk, unk, unk, unk, unk, unk, unk, unk, unk, unk, unk, unk, unk, unk, unk, unk, unk, unk, unk, unk, unk, unk, unk, unk, unk, unk, unk, unk, unk, unk, unk, unk, unk, unk, unk, unk, unk, unk, unk, unk, unk, unk, unk, unk, unk, unk, unk, unk, unk, unk, unk, unk, unk, unk, unk, unk, unk, unk, unk, unk, unk, unk, unk, unk, unk, unk, unk, unk, unk, unk, unk, unk, unk, unk, unk, unk, unk, unk, unk, unk, unk, unk, unk, unk, unk, unk, unk, unk, unk, unk, unk, unk, unk, unk, unk, unk, unk, unk, unk, unk, unk, unk, unk, unk, unk, unk, unk]
abbrev f59_T_J1 (s0 s6 : Value) : List Value := [s0, unk, unk, unk, unk, unk, s6, unk, unk, unk, unk, unk, unk, unk, unk, unk, unk, unk, unk, unk, unk, unk, unk, unk, unk, unk, unk, unk, unk, unk, unk, unk, unk, unk, unk, unk, unk, unk, unk, unk, unk, unk, unk, unk, unk, unk, unk, unk, unk, unk, unk, unk, unk, unk, unk, unk, unk, unk, unk, unk, unk, unk, unk, unk, unk, unk, unk, unk, unk, unk, unk, unk, unk, unk, unk, unk, unk, unk, unk, unk, unk, unk, unk, unk, unk, unk, unk, unk, unk, unk, unk, unk, unk, unk, unk, unk, unk, unk, unk, unk, unk, unk, unk, unk, unk, unk, unk, unk, unk, unk, unk, unk, unk, unk, unk, unk, unk, unk, unk, unk, unk, unk, unk, unk, unk]
abbrev f59_T_J2 (s0 s7 : Value) : List Value := [s0, unk, unk, unk, unk, unk, unk, s7, unk, unk, unk, unk, unk, unk, unk, unk, unk, unk, unk, unk, unk, unk, unk, unk, unk, unk, unk, unk, unk, unk, unk, unk, unk, unk, unk, unk, unk, unk, unk, unk, unk, unk, unk, unk, unk, unk, unk, unk, unk, unk, unk, unk, unk, unk, unk, unk, unk, unk, unk, unk, unk, unk, unk, unk, unk, unk, unk, unk, unk, unk, unk, unk, unk, unk, unk, unk, unk, unk, unk, unk, unk, unk, unk, unk, unk, unk, unk, unk, unk, unk, unk, unk, unk, unk, unk, unk, unk, unk, unk, unk, unk, unk, unk, unk, unk, unk, unk, unk, unk, unk, unk, unk, unk, unk, unk, unk, unk, unk, unk, unk, unk, unk, unk, unk, unk]
abbrev f59_T_J3 (s0 s7 s8 : Value) : List Value := [s0, unk, unk, unk, unk, unk, unk, s7, s8, unk, unk, unk, unk, unk, unk, unk, unk, unk, unk, unk, unk, unk, unk, unk, unk, unk, unk, unk, unk, unk, unk, unk, unk, unk, unk, unk, unk, unk, unk, unk, unk, unk, unk, unk, unk, unk, unk, unk, unk, unk, unk, unk, unk, unk, unk, unk, unk, unk, unk, unk, unk, unk, unk, unk, unk, unk, unk, unk, unk, unk, unk, unk, unk, unk, unk, unk, unk, unk, unk, unk, unk, unk, unk, unk, unk, unk, unk, unk, unk, unk, unk, unk, unk, unk, unk, unk, unk, unk, unk, unk, unk, unk, unk, unk, unk, unk, unk, unk, unk, unk, unk, unk, unk, unk, unk, unk, unk, unk, unk, unk, unk, unk, unk, unk, unk]
abbrev f59_T_L0 (s7 s8 s9 : Value) : List Value := [unk, unk, unk, unk, unk, unk, unk, s7, s8, s9, unk, unk, unk, unk, unk, unk, unk, unk, unk, unk, unk, unk, unk, unk, unk, unk, unk, unk, unk, unk, unk, unk, unk, unk, unk, unk, unk, unk, unk, unk, unk, unk, unk, unk, unk, unk, unk, unk, unk, unk, unk, unk, unk, unk, unk, unk, unk, unk, unk, unk, unk, unk, unk, unk, unk, unk, unk, unk, unk, unk, unk, unk, unk, unk, unk, unk, unk, unk, unk, unk, unk, unk, unk, unk, unk, unk, unk, unk, unk, unk, unk, unk, unk, unk, unk, unk, unk, unk, unk, unk, unk, unk, unk, unk, unk, unk, unk, unk, unk, unk, unk, unk, unk, unk, unk, unk, unk, unk, unk, unk, unk, unk, unk, unk, unk]
abbrev f59_X_L0 (s9 : Value) : List Value := [unk, unk, unk, unk, unk, unk, unk, unk, unk, s9, unk, unk, unk, unk, unk, unk, unk, unk, unk, unk, unk, unk, unk, unk, unk, unk, unk, unk, unk, unk, unk, unk, unk, unk, unk, unk, unk, unk, unk, unk, unk, unk, unk, unk, unk, unk, unk, unk, unk, unk, unk, unk, unk, unk, unk, unk, unk, unk, unk, unk, unk, unk, unk, unk, unk, unk, unk, unk, unk, unk, unk, unk, unk, unk, unk, unk, unk, unk, unk, unk, unk, unk, unk, unk, unk, unk, unk, unk, unk, unk, unk, unk, unk, unk, unk, unk, unk, unk, unk, unk, unk, unk, unk, unk, unk, unk, unk, unk, unk, unk, unk, unk, unk, unk, unk, unk, unk, unk, unk, unk, unk, unk, unk, unk, unk]
@[irreducible] def f59_J0 (k : Nat) (s0 s1 : Value) (H : AH) : Option (Value × AH) := resume Tryd.prog (rn k) k (tbs 59) (bodyOf Tryd.f59) [1, 1, 0] .normal (f59_T_J0 s0 s1) H (resK Tryd.prog Tryd.f59.results.toList)
@[irreducible] def f59_J1 (k : Nat) (s0 s6 : Value) (H : AH) : Option (Value × AH) := resume Tryd.prog (rn k) k (tbs 59) (bodyOf Tryd.f59) [1, 1, 1, 1, 0] .normal (f59_T_J1 s0 s6) H (resK Tryd.prog Tryd.f59.results.toList)
@[irreducible] def f59_J2 (k : Nat) (s0 s7 : Value) (H : AH) : Option (Value × AH) := resume Tryd.prog (rn k) k (tbs 59) (bodyOf Tryd.f59) [1, 1, 1, 1, 1, 1, 1, 0] .normal (f59_T_J2 s0 s7) H (resK Tryd.prog Tryd.f59.results.toList)
@[irreducible] def f59_J3 (k : Nat) (s0 s7 s8 : Value) (H : AH) : Option (Value × AH) := resume Tryd.prog (rn k) k (tbs 59) (bodyOf Tryd.f59) [1, 1, 1, 1, 1, 1, 1, 1, 1, 0] .normal (f59_T_J3 s0 s7 s8) H (resK Tryd.prog Tryd.f59.results.toList)
@[irreducible] def f59_L0 (k : Nat) (s7 s8 s9 : Value) (n : Nat) (H : AH) : Option Out := iterD (fun T H K => evalK Tryd.prog (rn k) k (tbs 59) (codeAt (bodyOf Tryd.f59) [1, 1, 1, 1, 1, 1, 1, 1, 1, 1, 1, 1, 1, 0, 0, 0]) T H K) (cutT (tbs 59) 115) (cutT (tbs 59) 116) n (f59_T_L0 s7 s8 s9) H
@[irreducible] def f59_A0 (k : Nat) (e : EX) (T : List Value) (H : AH) : Option (Value × AH) := resume Tryd.prog (rn k) k (tbs 59) (bodyOf Tryd.f59) [1, 1, 1, 1, 1, 1, 1, 1, 1, 1, 1, 1, 1, 0, 0] e T H (resK Tryd.prog Tryd.f59.results.toList)
theorem f59_J0_eq (k : Nat) (s0 s1 : Value) (H : AH) : f59_J0 k s0 s1 H =
(lenV Tryd.prog 9 s0).bind fun v4 =>
(cv Tryd.prog 3 86 v4).bind fun v5 =>
(cv Tryd.prog 3 86 s1).bind fun v6 =>
b2 (rn k 66 [v5, v6] H) fun v7 h7 =>
(ext v7 0).bind fun v8 =>
(ext v7 1).bind fun v9 =>
(bin Tryd.prog .gtr 86 v8 (.int .u64 0)).bind fun v10 =>
b2 (gOp v10 false (some (v9, h7)) h7) fun v11 h11 =>
b2 (gOp v10 false ((bin Tryd.prog .gtr 86 v11 (.int .u64 9223372036854775807)).bind fun v => some (v, h11)) h11) fun v12 h12 =>
(pickV v10 (.bool true) v12).bind fun v13 =>
aIf v13
 (none)
 (f59_J1 k s0 v9 h12) := by kernel_rfl
theorem f59_J1_eq (k : Nat) (s0 s6 : Value) (H : AH) : f59_J1 k s0 s6 H =
(cv Tryd.prog 86 3 s6).bind fun v14 =>
(lenV Tryd.prog 9 s0).bind fun v15 =>
(bin Tryd.prog .eql 3 v15 (.int .i64 0)).bind fun v16 =>
aIf v16
 (some ((.string ⟨#[]⟩), H))
 ((ix Tryd.prog 9 s0 (.int .i64 0)).bind fun v17 =>
 (bin Tryd.prog .eql 5 v17 (.int .u8 32)).bind fun v18 =>
 aIf v18
  (aIf v18
   ((bin Tryd.prog .leq 3 v14 (.int .i64 128)).bind fun v19 =>
   b2 (gOp v19 true (some (s0, H)) H) fun v20 h20 =>
   b2 (gOp v19 true (b2 (rn k 67 [(.string long0), v20] h20) fun v h => some (v, h)) h20) fun v21 h21 =>
   (pickV v19 v21 (.bool false)).bind fun v22 =>
   aIf v22
    ((slc Tryd.prog 9 (.string long0) none (some v14)).bind fun v23 =>
    some (v23, h21))
    ((bin Tryd.prog .leq 3 v14 (.int .i64 128)).bind fun v24 =>
    b2 (gOp v24 true (some (s0, h21)) h21) fun v25 h25 =>
    b2 (gOp v24 true (b2 (rn k 67 [(.string long1), v25] h25) fun v h => some (v, h)) h25) fun v26 h26 =>
    (pickV v24 v26 (.bool false)).bind fun v27 =>
    aIf v27
     ((slc Tryd.prog 9 (.string long1) none (some v14)).bind fun v28 =>
     some (v28, h26))
     ((bin Tryd.prog .leq 3 v14 (.int .i64 64)).bind fun v29 =>
     b2 (gOp v29 true (some (s0, h26)) h26) fun v30 h30 =>
     b2 (gOp v29 true (b2 (rn k 67 [(.string long2), v30] h30) fun v h => some (v, h)) h30) fun v31 h31 =>
     (pickV v29 v31 (.bool false)).bind fun v32 =>
     aIf v32
      ((slc Tryd.prog 9 (.string long2) none (some v14)).bind fun v33 =>
      some (v33, h31))
      ((bin Tryd.prog .leq 3 v14 (.int .i64 128)).bind fun v34 =>
      b2 (gOp v34 true (some (s0, h31)) h31) fun v35 h35 =>
      b2 (gOp v34 true (b2 (rn k 67 [(.string long3), v35] h35) fun v h => some (v, h)) h35) fun v36 h36 =>
      (pickV v34 v36 (.bool false)).bind fun v37 =>
      aIf v37
       ((slc Tryd.prog 9 (.string long3) none (some v14)).bind fun v38 =>
       some (v38, h36))
       ((bin Tryd.prog .leq 3 v14 (.int .i64 64)).bind fun v39 =>
       b2 (gOp v39 true (some (s0, h36)) h36) fun v40 h40 =>
       b2 (gOp v39 true (b2 (rn k 67 [(.string ⟨#[9, 9, 9, 9, 9, 9, 9, 9, 9, 9, 9, 9, 9, 9, 9, 9, 9, 9, 9, 9, 9, 9, 9, 9, 9, 9, 9, 9, 9, 9, 9, 9, 9, 9, 9, 9, 9, 9, 9, 9, 9, 9, 9, 9, 9, 9, 9, 9, 9, 9, 9, 9, 9, 9, 9, 9, 9, 9, 9, 9, 9, 9, 9, 9]⟩), v40] h40) fun v h => some (v, h)) h40) fun v41 h41 =>
       (pickV v39 v41 (.bool false)).bind fun v42 =>
       aIf v42
        ((slc Tryd.prog 9 (.string ⟨#[9, 9, 9, 9, 9, 9, 9, 9, 9, 9, 9, 9, 9, 9, 9, 9, 9, 9, 9, 9, 9, 9, 9, 9, 9, 9, 9, 9, 9, 9, 9, 9, 9, 9, 9, 9, 9, 9, 9, 9, 9, 9, 9, 9, 9, 9, 9, 9, 9, 9, 9, 9, 9, 9, 9, 9, 9, 9, 9, 9, 9, 9, 9, 9]⟩) none (some v14)).bind fun v43 =>
        some (v43, h41))
        (f59_J2 k s0 v14 h41))))))
   (f59_J2 k s0 v14 H))
  ((bin Tryd.prog .eql 5 v17 (.int .u8 45)).bind fun v44 =>
  aIf v44
   (aIf v44
    ((bin Tryd.prog .leq 3 v14 (.int .i64 128)).bind fun v45 =>
    b2 (gOp v45 true (some (s0, H)) H) fun v46 h46 =>
    b2 (gOp v45 true (b2 (rn k 67 [(.string long0), v46] h46) fun v h => some (v, h)) h46) fun v47 h47 =>
    (pickV v45 v47 (.bool false)).bind fun v48 =>
    aIf v48
     ((slc Tryd.prog 9 (.string long0) none (some v14)).bind fun v49 =>
     some (v49, h47))
     ((bin Tryd.prog .leq 3 v14 (.int .i64 128)).bind fun v50 =>
     b2 (gOp v50 true (some (s0, h47)) h47) fun v51 h51 =>
     b2 (gOp v50 true (b2 (rn k 67 [(.string long1), v51] h51) fun v h => some (v, h)) h51) fun v52 h52 =>
     (pickV v50 v52 (.bool false)).bind fun v53 =>
     aIf v53
      ((slc Tryd.prog 9 (.string long1) none (some v14)).bind fun v54 =>
      some (v54, h52))
      ((bin Tryd.prog .leq 3 v14 (.int .i64 64)).bind fun v55 =>
      b2 (gOp v55 true (some (s0, h52)) h52) fun v56 h56 =>
      b2 (gOp v55 true (b2 (rn k 67 [(.string long2), v56] h56) fun v h => some (v, h)) h56) fun v57 h57 =>
      (pickV v55 v57 (.bool false)).bind fun v58 =>
      aIf v58
       ((slc Tryd.prog 9 (.string long2) none (some v14)).bind fun v59 =>
       some (v59, h57))
       ((bin Tryd.prog .leq 3 v14 (.int .i64 128)).bind fun v60 =>
       b2 (gOp v60 true (some (s0, h57)) h57) fun v61 h61 =>
       b2 (gOp v60 true (b2 (rn k 67 [(.string long3), v61] h61) fun v h => some (v, h)) h61) fun v62 h62 =>
       (pickV v60 v62 (.bool false)).bind fun v63 =>
       aIf v63
        ((slc Tryd.prog 9 (.string long3) none (some v14)).bind fun v64 =>
        some (v64, h62))
        ((bin Tryd.prog .leq 3 v14 (.int .i64 64)).bind fun v65 =>
        b2 (gOp v65 true (some (s0, h62)) h62) fun v66 h66 =>
        b2 (gOp v65 true (b2 (rn k 67 [(.string ⟨#[9, 9, 9, 9, 9, 9, 9, 9, 9, 9, 9, 9, 9, 9, 9, 9, 9, 9, 9, 9, 9, 9, 9, 9, 9, 9, 9, 9, 9, 9, 9, 9, 9, 9, 9, 9, 9, 9, 9, 9, 9, 9, 9, 9, 9, 9, 9, 9, 9, 9, 9, 9, 9, 9, 9, 9, 9, 9, 9, 9, 9, 9, 9, 9]⟩), v66] h66) fun v h => some (v, h)) h66) fun v67 h67 =>
        (pickV v65 v67 (.bool false)).bind fun v68 =>
        aIf v68
         ((slc Tryd.prog 9 (.string ⟨#[9, 9, 9, 9, 9, 9, 9, 9, 9, 9, 9, 9, 9, 9, 9, 9, 9, 9, 9, 9, 9, 9, 9, 9, 9, 9, 9, 9, 9, 9, 9, 9, 9, 9, 9, 9, 9, 9, 9, 9, 9, 9, 9, 9, 9, 9, 9, 9, 9, 9, 9, 9, 9, 9, 9, 9, 9, 9, 9, 9, 9, 9, 9, 9]⟩) none (some v14)).bind fun v69 =>
         some (v69, h67))
         (f59_J2 k s0 v14 h67))))))
    (f59_J2 k s0 v14 H))
   ((bin Tryd.prog .eql 5 v17 (.int .u8 48)).bind fun v70 =>
   aIf v70
    (aIf v70
     ((bin Tryd.prog .leq 3 v14 (.int .i64 128)).bind fun v71 =>
     b2 (gOp v71 true (some (s0, H)) H) fun v72 h72 =>
     b2 (gOp v71 true (b2 (rn k 67 [(.string long0), v72] h72) fun v h => some (v, h)) h72) fun v73 h73 =>
     (pickV v71 v73 (.bool false)).bind fun v74 =>
     aIf v74
      ((slc Tryd.prog 9 (.string long0) none (some v14)).bind fun v75 =>
      some (v75, h73))
      ((bin Tryd.prog .leq 3 v14 (.int .i64 128)).bind fun v76 =>
      b2 (gOp v76 true (some (s0, h73)) h73) fun v77 h77 =>
      b2 (gOp v76 true (b2 (rn k 67 [(.string long1), v77] h77) fun v h => some (v, h)) h77) fun v78 h78 =>
      (pickV v76 v78 (.bool false)).bind fun v79 =>
      aIf v79
       ((slc Tryd.prog 9 (.string long1) none (some v14)).bind fun v80 =>
       some (v80, h78))
       ((bin Tryd.prog .leq 3 v14 (.int .i64 64)).bind fun v81 =>
       b2 (gOp v81 true (some (s0, h78)) h78) fun v82 h82 =>
       b2 (gOp v81 true (b2 (rn k 67 [(.string long2), v82] h82) fun v h => some (v, h)) h82) fun v83 h83 =>
       (pickV v81 v83 (.bool false)).bind fun v84 =>
       aIf v84
        ((slc Tryd.prog 9 (.string long2) none (some v14)).bind fun v85 =>
        some (v85, h83))
        ((bin Tryd.prog .leq 3 v14 (.int .i64 128)).bind fun v86 =>
        b2 (gOp v86 true (some (s0, h83)) h83) fun v87 h87 =>
        b2 (gOp v86 true (b2 (rn k 67 [(.string long3), v87] h87) fun v h => some (v, h)) h87) fun v88 h88 =>
        (pickV v86 v88 (.bool false)).bind fun v89 =>
        aIf v89
         ((slc Tryd.prog 9 (.string long3) none (some v14)).bind fun v90 =>
         some (v90, h88))
         ((bin Tryd.prog .leq 3 v14 (.int .i64 64)).bind fun v91 =>
         b2 (gOp v91 true (some (s0, h88)) h88) fun v92 h92 =>
         b2 (gOp v91 true (b2 (rn k 67 [(.string ⟨#[9, 9, 9, 9, 9, 9, 9, 9, 9, 9, 9, 9, 9, 9, 9, 9, 9, 9, 9, 9, 9, 9, 9, 9, 9, 9, 9, 9, 9, 9, 9, 9, 9, 9, 9, 9, 9, 9, 9, 9, 9, 9, 9, 9, 9, 9, 9, 9, 9, 9, 9, 9, 9, 9, 9, 9, 9, 9, 9, 9, 9, 9, 9, 9]⟩), v92] h92) fun v h => some (v, h)) h92) fun v93 h93 =>
         (pickV v91 v93 (.bool false)).bind fun v94 =>
         aIf v94
          ((slc Tryd.prog 9 (.string ⟨#[9, 9, 9, 9, 9, 9, 9, 9, 9, 9, 9, 9, 9, 9, 9, 9, 9, 9, 9, 9, 9, 9, 9, 9, 9, 9, 9, 9, 9, 9, 9, 9, 9, 9, 9, 9, 9, 9, 9, 9, 9, 9, 9, 9, 9, 9, 9, 9, 9, 9, 9, 9, 9, 9, 9, 9, 9, 9, 9, 9, 9, 9, 9, 9]⟩) none (some v14)).bind fun v95 =>
          some (v95, h93))
          (f59_J2 k s0 v14 h93))))))
     (f59_J2 k s0 v14 H))
    ((bin Tryd.prog .eql 5 v17 (.int .u8 61)).bind fun v96 =>
    aIf v96
     (aIf v96
      ((bin Tryd.prog .leq 3 v14 (.int .i64 128)).bind fun v97 =>
      b2 (gOp v97 true (some (s0, H)) H) fun v98 h98 =>
      b2 (gOp v97 true (b2 (rn k 67 [(.string long0), v98] h98) fun v h => some (v, h)) h98) fun v99 h99 =>
      (pickV v97 v99 (.bool false)).bind fun v100 =>
      aIf v100
       ((slc Tryd.prog 9 (.string long0) none (some v14)).bind fun v101 =>
       some (v101, h99))
       ((bin Tryd.prog .leq 3 v14 (.int .i64 128)).bind fun v102 =>
       b2 (gOp v102 true (some (s0, h99)) h99) fun v103 h103 =>
       b2 (gOp v102 true (b2 (rn k 67 [(.string long1), v103] h103) fun v h => some (v, h)) h103) fun v104 h104 =>
       (pickV v102 v104 (.bool false)).bind fun v105 =>
       aIf v105
        ((slc Tryd.prog 9 (.string long1) none (some v14)).bind fun v106 =>
        some (v106, h104))
        ((bin Tryd.prog .leq 3 v14 (.int .i64 64)).bind fun v107 =>
        b2 (gOp v107 true (some (s0, h104)) h104) fun v108 h108 =>
        b2 (gOp v107 true (b2 (rn k 67 [(.string long2), v108] h108) fun v h => some (v, h)) h108) fun v109 h109 =>
        (pickV v107 v109 (.bool false)).bind fun v110 =>
        aIf v110
         ((slc Tryd.prog 9 (.string long2) none (some v14)).bind fun v111 =>
         some (v111, h109))
         ((bin Tryd.prog .leq 3 v14 (.int .i64 128)).bind fun v112 =>
         b2 (gOp v112 true (some (s0, h109)) h109) fun v113 h113 =>
         b2 (gOp v112 true (b2 (rn k 67 [(.string long3), v113] h113) fun v h => some (v, h)) h113) fun v114 h114 =>
         (pickV v112 v114 (.bool false)).bind fun v115 =>
         aIf v115
          ((slc Tryd.prog 9 (.string long3) none (some v14)).bind fun v116 =>
          some (v116, h114))
          ((bin Tryd.prog .leq 3 v14 (.int .i64 64)).bind fun v117 =>
          b2 (gOp v117 true (some (s0, h114)) h114) fun v118 h118 =>
          b2 (gOp v117 true (b2 (rn k 67 [(.string ⟨#[9, 9, 9, 9, 9, 9, 9, 9, 9, 9, 9, 9, 9, 9, 9, 9, 9, 9, 9, 9, 9, 9, 9, 9, 9, 9, 9, 9, 9, 9, 9, 9, 9, 9, 9, 9, 9, 9, 9, 9, 9, 9, 9, 9, 9, 9, 9, 9, 9, 9, 9, 9, 9, 9, 9, 9, 9, 9, 9, 9, 9, 9, 9, 9]⟩), v118] h118) fun v h => some (v, h)) h118) fun v119 h119 =>
          (pickV v117 v119 (.bool false)).bind fun v120 =>
          aIf v120
           ((slc Tryd.prog 9 (.string ⟨#[9, 9, 9, 9, 9, 9, 9, 9, 9, 9, 9, 9, 9, 9, 9, 9, 9, 9, 9, 9, 9, 9, 9, 9, 9, 9, 9, 9, 9, 9, 9, 9, 9, 9, 9, 9, 9, 9, 9, 9, 9, 9, 9, 9, 9, 9, 9, 9, 9, 9, 9, 9, 9, 9, 9, 9, 9, 9, 9, 9, 9, 9, 9, 9]⟩) none (some v14)).bind fun v121 =>
           some (v121, h119))
           (f59_J2 k s0 v14 h119))))))
      (f59_J2 k s0 v14 H))
     ((bin Tryd.prog .eql 5 v17 (.int .u8 9)).bind fun v122 =>
     aIf v122
      ((bin Tryd.prog .leq 3 v14 (.int .i64 128)).bind fun v123 =>
      b2 (gOp v123 true (some (s0, H)) H) fun v124 h124 =>
      b2 (gOp v123 true (b2 (rn k 67 [(.string long0), v124] h124) fun v h => some (v, h)) h124) fun v125 h125 =>
      (pickV v123 v125 (.bool false)).bind fun v126 =>
      aIf v126
       ((slc Tryd.prog 9 (.string long0) none (some v14)).bind fun v127 =>
       some (v127, h125))
       ((bin Tryd.prog .leq 3 v14 (.int .i64 128)).bind fun v128 =>
       b2 (gOp v128 true (some (s0, h125)) h125) fun v129 h129 =>
       b2 (gOp v128 true (b2 (rn k 67 [(.string long1), v129] h129) fun v h => some (v, h)) h129) fun v130 h130 =>
       (pickV v128 v130 (.bool false)).bind fun v131 =>
       aIf v131
        ((slc Tryd.prog 9 (.string long1) none (some v14)).bind fun v132 =>
        some (v132, h130))
        ((bin Tryd.prog .leq 3 v14 (.int .i64 64)).bind fun v133 =>
        b2 (gOp v133 true (some (s0, h130)) h130) fun v134 h134 =>
        b2 (gOp v133 true (b2 (rn k 67 [(.string long2), v134] h134) fun v h => some (v, h)) h134) fun v135 h135 =>
        (pickV v133 v135 (.bool false)).bind fun v136 =>
        aIf v136
         ((slc Tryd.prog 9 (.string long2) none (some v14)).bind fun v137 =>
         some (v137, h135))
         ((bin Tryd.prog .leq 3 v14 (.int .i64 128)).bind fun v138 =>
         b2 (gOp v138 true (some (s0, h135)) h135) fun v139 h139 =>
         b2 (gOp v138 true (b2 (rn k 67 [(.string long3), v139] h139) fun v h => some (v, h)) h139) fun v140 h140 =>
         (pickV v138 v140 (.bool false)).bind fun v141 =>
         aIf v141
          ((slc Tryd.prog 9 (.string long3) none (some v14)).bind fun v142 =>
          some (v142, h140))
          ((bin Tryd.prog .leq 3 v14 (.int .i64 64)).bind fun v143 =>
          b2 (gOp v143 true (some (s0, h140)) h140) fun v144 h144 =>
          b2 (gOp v143 true (b2 (rn k 67 [(.string ⟨#[9, 9, 9, 9, 9, 9, 9, 9, 9, 9, 9, 9, 9, 9, 9, 9, 9, 9, 9, 9, 9, 9, 9, 9, 9, 9, 9, 9, 9, 9, 9, 9, 9, 9, 9, 9, 9, 9, 9, 9, 9, 9, 9, 9, 9, 9, 9, 9, 9, 9, 9, 9, 9, 9, 9, 9, 9, 9, 9, 9, 9, 9, 9, 9]⟩), v144] h144) fun v h => some (v, h)) h144) fun v145 h145 =>
          (pickV v143 v145 (.bool false)).bind fun v146 =>
          aIf v146
           ((slc Tryd.prog 9 (.string ⟨#[9, 9, 9, 9, 9, 9, 9, 9, 9, 9, 9, 9, 9, 9, 9, 9, 9, 9, 9, 9, 9, 9, 9, 9, 9, 9, 9, 9, 9, 9, 9, 9, 9, 9, 9, 9, 9, 9, 9, 9, 9, 9, 9, 9, 9, 9, 9, 9, 9, 9, 9, 9, 9, 9, 9, 9, 9, 9, 9, 9, 9, 9, 9, 9]⟩) none (some v14)).bind fun v147 =>
           some (v147, h145))
           (f59_J2 k s0 v14 h145))))))
      (f59_J2 k s0 v14 H)))))) := by kernel_rfl
theorem f59_J2_eq (k : Nat) (s0 s7 : Value) (H : AH) : f59_J2 k s0 s7 H =
(bin Tryd.prog .gtr 3 s7 (.int .i64 8192)).bind fun v148 =>
aIf v148
 ((lenV Tryd.prog 9 s0).bind fun v149 =>
 (bin Tryd.prog .quo 3 (.int .i64 8192) v149).bind fun v150 =>
 (lenV Tryd.prog 9 s0).bind fun v151 =>
 (bin Tryd.prog .mul 3 v150 v151).bind fun v152 =>
 (bin Tryd.prog .eql 3 v152 (.int .i64 0)).bind fun v153 =>
 aIf v153
  ((lenV Tryd.prog 9 s0).bind fun v154 =>
  f59_J3 k s0 s7 v154 H)
  (f59_J3 k s0 s7 v152 H))
 (f59_J3 k s0 s7 s7 H) := by kernel_rfl
theorem f59_J3_eq (k : Nat) (s0 s7 s8 : Value) (H : AH) : f59_J3 k s0 s7 s8 H =
b2 (newV Tryd.prog 95 H) fun v155 h155 =>
b2 (rn k 68 [v155, s7] h155) fun v156 h156 =>
b2 (rn k 45 [v155, s0] h156) fun v157 h157 =>
(f59_L0 k s7 s8 v155 k h157).bind fun p => f59_A0 k p.1 p.2.1 p.2.2 := by kernel_rfl
theorem f59_L0_succ (k : Nat) (s7 s8 s9 : Value) (n : Nat) (H : AH) : f59_L0 k s7 s8 s9 (n + 1) H =
b2 (rn k 69 [s9] H) fun v158 h158 =>
(bin Tryd.prog .lss 3 v158 s7).bind fun v159 =>
aIf v159
 (b2 (rn k 69 [s9] h158) fun v160 h160 =>
 (bin Tryd.prog .sub 3 s7 v160).bind fun v161 =>
 b2 (rn k 69 [s9] h160) fun v162 h162 =>
 (fold1 minV [v161, v162, s8]).bind fun v163 =>
 b2 (rn k 46 [s9] h162) fun v164 h164 =>
 (slc Tryd.prog 9 v164 none (some v163)).bind fun v165 =>
 b2 (rn k 45 [s9, v165] h164) fun v166 h166 =>
 f59_L0 k s7 s8 s9 n h166)
 (some ((.exit 3), (f59_X_L0 s9), h158)) := by kernel_rfl
theorem f59_A0_x3 (k : Nat) (s9 : Value) (H : AH) : f59_A0 k (.exit 3) (f59_X_L0 s9) H =
b2 (rn k 46 [s9] H) fun v167 h167 =>
some (v167, h167) := by kernel_rfl
theorem f59_eq (k : Nat) (a0 a1 : Value) (H : AH) : rn (k + 1) 59 [a0, a1] H =
(bin Tryd.prog .eql 3 a1 (.int .i64 0)).bind fun v1 =>
aIf v1
 (some ((.string ⟨#[]⟩), H))
 ((bin Tryd.prog .eql 3 a1 (.int .i64 1)).bind fun v2 =>
 aIf v2
  (some (a0, H))
  ((bin Tryd.prog .lss 3 a1 (.int .i64 0)).bind fun v3 =>
  aIf v3
   (none)
   (f59_J0 k a0 a1 H))) := by kernel_rfl
theorem f60_eq (k : Nat) (a0 : Value) (H : AH) : rn (k + 1) 60 [a0] H =
b2 (rn k 70 [a0] H) fun v1 h1 =>
(bin Tryd.prog .shr 117 v1 (.int .u64 8)).bind fun v2 =>
(bin Tryd.prog .shr 117 v1 (.int .u64 16)).bind fun v3 =>
(bin Tryd.prog .shr 117 v1 (.int .u64 24)).bind fun v4 =>
b2 (buildS Tryd.prog 124 h1 4 [(0, v1), (1, v2), (2, v3), (3, v4)]) fun v5 h5 =>
b2 (rn k 58 [v5] h5) fun v6 h6 =>
some (v6, h6) := by kernel_rfl
theorem f61_eq (k : Nat) (a0 a1 a2 : Value) (H : AH) : rn (k + 1) 61 [a0, a1, a2] H =
(ld Tryd.prog 27 H a0).bind fun v1 =>
(ld Tryd.prog 27 H a0).bind fun v2 =>
(nilChk v2).bind fun v3 =>
(fldA Tryd.prog 58 v3 1).bind fun v4 =>
(ld Tryd.prog 56 H v4).bind fun v5 =>
(ld Tryd.prog 3 H a1).bind fun v6 =>
(ld Tryd.prog 9 H a2).bind fun v7 =>
(build Tryd.prog 84 [(0, v6), (1, v7)]).bind fun v8 =>
b2 (buildS Tryd.prog 56 H 1 [(0, v8)]) fun v9 h9 =>
b2 (ap Tryd.prog 56 56 h9 v5 v9) fun v10 h10 =>
aChk (ld Tryd.prog 27 h10 a0 = some v1) <|
(nilChk v1).bind fun v11 =>
(fldA Tryd.prog 58 v11 1).bind fun v12 =>
(st Tryd.prog 56 h10 v12 v10).bind fun h13 =>
some ((.tuple #[]), h13) := by kernel_rfl
abbrev f62_T_L0 (s0 s1 s7 s17 : Value) : List Value := [s0, s1, unk, unk, unk, unk, unk, s7, unk, unk, unk, unk, unk, unk, unk, unk, unk, s17, unk, unk, unk, unk, unk, unk, unk, unk, unk, unk, unk, unk, unk, unk, unk, unk, unk, unk, unk, unk, unk, unk, unk]
abbrev f62_X_L0 (s4 s5 s6 s7 : Value) : List Value := [unk, unk, unk, unk, s4, s5, s6, s7, unk, unk, unk, unk, unk, unk, unk, unk, unk, unk, unk, unk, unk, unk, unk, unk, unk, unk, unk, unk, unk, unk, unk, unk, unk, unk, unk, unk, unk, unk, unk, unk, unk]
@[irreducible] def f62_L0 (k : Nat) (s0 s1 s7 s17 : Value) (n : Nat) (H : AH) : Option Out := iterD (fun T H K => evalK Tryd.prog (rn k) k (tbs 62) (codeAt (bodyOf Tryd.f62) [1, 1, 1, 0, 1, 0, 0]) T H K) (cutT (tbs 62) 16) (cutT (tbs 62) 17) n (f62_T_L0 s0 s1 s7 s17) H
@[irreducible] def f62_A0 (k : Nat) (e : EX) (T : List Value) (H : AH) : Option (Value × AH) := resume Tryd.prog (rn k) k (tbs 62) (bodyOf Tryd.f62) [1, 1, 1, 0, 1, 0] e T H (resK Tryd.prog Tryd.f62.results.toList)
theorem f62_L0_succ (k : Nat) (s0 s1 s7 s17 : Value) (n : Nat) (H : AH) : f62_L0 k s0 s1 s7 s17 (n + 1) H =
(bin Tryd.prog .lss 3 s17 (.int .i64 2)).bind fun v5 =>
aIf v5
 ((bin Tryd.prog .mul 3 (.int .i64 2) s1).bind fun v6 =>
 (bin Tryd.prog .add 3 v6 s17).bind fun v7 =>
 b2 (rn k 71 [s0, v7] H) fun v8 h8 =>
 (ext v8 0).bind fun v9 =>
 (ext v8 1).bind fun v10 =>
 (bin Tryd.prog .neq 28 v10 (.int .i64 0)).bind fun v11 =>
 aIf v11
  (some (.ret, (f62_X_L0 (.int .i64 0) (.string ⟨#[]⟩) v10 s7), h8))
  ((bin Tryd.prog .add 9 s7 v9).bind fun v12 =>
  (bin Tryd.prog .add 3 s17 (.int .i64 1)).bind fun v13 =>
  f62_L0 k s0 s1 v12 v13 n h8))
 (some ((.exit 0), (f62_X_L0 unk unk unk s7), H)) := by kernel_rfl
theorem f62_A0_x0 (k : Nat) (s4 s5 s6 s7 : Value) (H : AH) : f62_A0 k (.exit 0) (f62_X_L0 s4 s5 s6 s7) H =
b2 (rn k 72 [s7] H) fun v14 h14 =>
(ext v14 0).bind fun v15 =>
(ext v14 1).bind fun v16 =>
(ext v14 2).bind fun v17 =>
some ((.tuple #[v15, v16, v17]), h14) := by kernel_rfl
theorem f62_A0_ret (k : Nat) (s4 s5 s6 s7 : Value) (H : AH) : f62_A0 k .ret (f62_X_L0 s4 s5 s6 s7) H =
some ((.tuple #[s4, s5, s6]), H) := by kernel_rfl
theorem f62_eq (k : Nat) (a0 a1 : Value) (H : AH) : rn (k + 1) 62 [a0, a1] H =
(bin Tryd.prog .lss 3 a1 (.int .i64 0)).bind fun v1 =>
b2 (gOp v1 false (some (a1, H)) H) fun v2 h2 =>
b2 (gOp v1 false ((bin Tryd.prog .gtr 3 v2 (.int .i64 1048576)).bind fun v => some (v, h2)) h2) fun v3 h3 =>
(pickV v1 (.bool true) v3).bind fun v4 =>
aIf v4
 (some ((.tuple #[(.int .i64 0), (.string ⟨#[]⟩), (.int .i64 1)]), h3))
 ((f62_L0 k a0 a1 (.string ⟨#[]⟩) (.int .i64 0) k h3).bind fun p => f62_A0 k p.1 p.2.1 p.2.2) := by kernel_rfl
abbrev f63_T_L0 (s0 s1 s7 s8 : Value) : List Value := [s0, s1, unk, unk, unk, unk, unk, s7, s8, unk, unk, unk, unk, unk, unk, unk, unk, unk, unk]
abbrev f63_X_L0 (s4 : Value) : List Value := [unk, unk, unk, unk, s4, unk, unk, unk, unk, unk, unk, unk, unk, unk, unk, unk, unk, unk, unk]
@[irreducible] def f63_L0 (k : Nat) (s0 s1 s7 s8 : Value) (n : Nat) (H : AH) : Option Out := iterD (fun T H K => evalK Tryd.prog (rn k) k (tbs 63) (codeAt (bodyOf Tryd.f63) [1, 0, 1, 0, 0]) T H K) (cutT (tbs 63) 7) (cutT (tbs 63) 8) n (f63_T_L0 s0 s1 s7 s8) H
@[irreducible] def f63_A0 (k : Nat) (e : EX) (T : List Value) (H : AH) : Option (Value × AH) := resume Tryd.prog (rn k) k (tbs 63) (bodyOf Tryd.f63) [1, 0, 1, 0] e T H (resK Tryd.prog Tryd.f63.results.toList)
theorem f63_L0_succ (k : Nat) (s0 s1 s7 s8 : Value) (n : Nat) (H : AH) : f63_L0 k s0 s1 s7 s8 (n + 1) H =
(bin Tryd.prog .lss 3 s8 s7).bind fun v2 =>
aIf v2
 ((ixA Tryd.prog 63 s0 s8).bind fun v3 =>
 (ld Tryd.prog 3 H v3).bind fun v4 =>
 (bin Tryd.prog .eql 3 s1 v4).bind fun v5 =>
 aIf v5
  (some (.ret, (f63_X_L0 s8), H))
  ((bin Tryd.prog .add 3 s8 (.int .i64 1)).bind fun v6 =>
  f63_L0 k s0 s1 s7 v6 n H))
 (some ((.exit 0), (f63_X_L0 unk), H)) := by kernel_rfl
theorem f63_A0_x0 (k : Nat) (s4 : Value) (H : AH) : f63_A0 k (.exit 0) (f63_X_L0 s4) H =
some ((.int .i64 (-1)), H) := by kernel_rfl
theorem f63_A0_ret (k : Nat) (s4 : Value) (H : AH) : f63_A0 k .ret (f63_X_L0 s4) H =
some (s4, H) := by kernel_rfl
theorem f63_eq (k : Nat) (a0 a1 : Value) (H : AH) : rn (k + 1) 63 [a0, a1] H =
(lenV Tryd.prog 63 a0).bind fun v1 =>
(f63_L0 k a0 a1 v1 (.int .i64 0) k H).bind fun p => f63_A0 k p.1 p.2.1 p.2.2 := by kernel_rfl
theorem f65_eq (k : Nat) (a0 a1 : Value) (H : AH) : rn (k + 1) 65 [a0, a1] H =
b2 (rn k 57 [a0] H) fun v1 h1 =>
(nilChk a0).bind fun v2 =>
(fldA Tryd.prog 95 v2 1).bind fun v3 =>
(ld Tryd.prog 55 h1 v3).bind fun v4 =>
b2 (buildS Tryd.prog 55 h1 1 [(0, a1)]) fun v5 h5 =>
b2 (ap Tryd.prog 55 55 h5 v4 v5) fun v6 h6 =>
(nilChk a0).bind fun v7 =>
(fldA Tryd.prog 95 v7 1).bind fun v8 =>
(st Tryd.prog 55 h6 v8 v6).bind fun h9 =>
some (.nilIface, h9) := by kernel_rfl
theorem f66_eq (k : Nat) (a0 a1 : Value) (H : AH) : rn (k + 1) 66 [a0, a1] H =
b2 (rn k 74 [a0, a1] H) fun v1 h1 =>
(ext v1 0).bind fun v2 =>
(ext v1 1).bind fun v3 =>
some ((.tuple #[v2, v3]), h1) := by kernel_rfl
theorem f67_eq (k : Nat) (a0 a1 : Value) (H : AH) : rn (k + 1) 67 [a0, a1] H =
b2 (rn k 75 [a0, a1] H) fun v1 h1 =>
some (v1, h1) := by kernel_rfl
theorem f69_eq (k : Nat) (a0 : Value) (H : AH) : rn (k + 1) 69 [a0] H =
(nilChk a0).bind fun v1 =>
(fldA Tryd.prog 95 v1 1).bind fun v2 =>
(ld Tryd.prog 55 H v2).bind fun v3 =>
(lenV Tryd.prog 55 v3).bind fun v4 =>
some (v4, H) := by kernel_rfl
abbrev f70_T_L0 (s0 s3 s6 s7 : Value) : List Value := [s0, unk, unk, s3, unk, unk, s6, s7, unk, unk, unk, unk, unk, unk, unk, unk, unk, unk, unk, unk, unk, unk, unk, unk, unk, unk, unk, unk]
abbrev f70_X_L0 (s3 : Value) : List Value := [unk, unk, unk, s3, unk, unk, unk, unk, unk, unk, unk, unk, unk, unk, unk, unk, unk, unk, unk, unk, unk, unk, unk, unk, unk, unk, unk, unk]
abbrev f70_T_L1 (s0 s3 s6 s7 s16 : Value) : List Value := [s0, unk, unk, s3, unk, unk, s6, s7, unk, unk, unk, unk, unk, unk, unk, unk, s16, unk, unk, unk, unk, unk, unk, unk, unk, unk, unk, unk]
abbrev f70_X_L1 (s0 s3 s6 s7 : Value) : List Value := [s0, unk, unk, s3, unk, unk, s6, s7, unk, unk, unk, unk, unk, unk, unk, unk, unk, unk, unk, unk, unk, unk, unk, unk, unk, unk, unk, unk]
@[irreducible] def f70_L0 (k : Nat) (s0 s3 s6 s7 : Value) (n : Nat) (H : AH) : Option Out := iterD (fun T H K => evalK Tryd.prog (rn k) k (tbs 70) (codeAt (bodyOf Tryd.f70) [1, 1, 0, 1, 0, 0]) T H K) (cutT (tbs 70) 10) (cutT (tbs 70) 11) n (f70_T_L0 s0 s3 s6 s7) H
@[irreducible] def f70_A0 (k : Nat) (e : EX) (T : List Value) (H : AH) : Option (Value × AH) := resume Tryd.prog (rn k) k (tbs 70) (bodyOf Tryd.f70) [1, 1, 0, 1, 0] e T H (resK Tryd.prog Tryd.f70.results.toList)
@[irreducible] def f70_L1 (k : Nat) (s0 s3 s6 s7 s16 : Value) (n : Nat) (H : AH) : Option Out := iterD (fun T H K => evalK Tryd.prog (rn k) k (tbs 70) (codeAt (bodyOf Tryd.f70) [1, 1, 0, 1, 0, 0, 1, 1, 0, 0, 1, 1, 1, 0, 0]) T H K) (cutT (tbs 70) 22) (cutT (tbs 70) 23) n (f70_T_L1 s0 s3 s6 s7 s16) H
@[irreducible] def f70_A1 (k : Nat) (n : Nat) (e : EX) (T : List Value) (H : AH) : Option Out := resume Tryd.prog (rn k) k (tbs 70) (codeAt (bodyOf Tryd.f70) [1, 1, 0, 1, 0, 0]) [1, 1, 0, 0, 1, 1, 1, 0] e T H (loopK (iterD (fun T H K => evalK Tryd.prog (rn k) k (tbs 70) (codeAt (bodyOf Tryd.f70) [1, 1, 0, 1, 0, 0]) T H K) (cutT (tbs 70) 10) (cutT (tbs 70) 11) n) (cutT (tbs 70) 10) (cutT (tbs 70) 11))
theorem f70_L0_succ (k : Nat) (s0 s3 s6 s7 : Value) (n : Nat) (H : AH) : f70_L0 k s0 s3 s6 s7 (n + 1) H =
(bin Tryd.prog .lss 3 s7 s6).bind fun v2 =>
aIf v2
 ((ix Tryd.prog 9 s0 s7).bind fun v3 =>
 (cv Tryd.prog 5 117 v3).bind fun v4 =>
 (bin Tryd.prog .xor 117 s3 v4).bind fun v5 =>
 (f70_L1 k s0 v5 s6 s7 (.int .i64 0) k H).bind fun p => f70_A1 k n p.1 p.2.1 p.2.2)
 (some ((.exit 0), (f70_X_L0 s3), H)) := by kernel_rfl
theorem f70_A0_x0 (k : Nat) (s3 : Value) (H : AH) : f70_A0 k (.exit 0) (f70_X_L0 s3) H =
(un Tryd.prog .xor s3).bind fun v6 =>
some (v6, H) := by kernel_rfl
theorem f70_L1_succ (k : Nat) (s0 s3 s6 s7 s16 : Value) (n : Nat) (H : AH) : f70_L1 k s0 s3 s6 s7 s16 (n + 1) H =
(bin Tryd.prog .lss 3 s16 (.int .i64 8)).bind fun v7 =>
aIf v7
 ((bin Tryd.prog .shr 117 s3 (.int .u64 1)).bind fun v8 =>
 (bin Tryd.prog .and 117 s3 (.int .u32 1)).bind fun v9 =>
 (bin Tryd.prog .mul 117 (.int .u32 3988292384) v9).bind fun v10 =>
 (bin Tryd.prog .xor 117 v8 v10).bind fun v11 =>
 (bin Tryd.prog .add 3 s16 (.int .i64 1)).bind fun v12 =>
 f70_L1 k s0 v11 s6 s7 v12 n H)
 (some ((.exit 2), (f70_X_L1 s0 s3 s6 s7), H)) := by kernel_rfl
theorem f70_A1_x2 (k : Nat) (n : Nat) (s0 s3 s6 s7 : Value) (H : AH) : f70_A1 k n (.exit 2) (f70_X_L1 s0 s3 s6 s7) H =
(bin Tryd.prog .add 3 s7 (.int .i64 1)).bind fun v13 =>
f70_L0 k s0 s3 s6 v13 n H := by kernel_rfl
theorem f70_eq (k : Nat) (a0 : Value) (H : AH) : rn (k + 1) 70 [a0] H =
(lenV Tryd.prog 9 a0).bind fun v1 =>
(f70_L0 k a0 (.int .u32 4294967295) v1 (.int .i64 0) k H).bind fun p => f70_A0 k p.1 p.2.1 p.2.2 := by kernel_rfl
abbrev f71_T_R0 (s3 s4 s5 : Value) : List Value := [unk, unk, unk, s3, s4, s5, unk, unk, unk, unk, unk, unk, unk, unk, unk, unk, unk, unk, unk, unk, unk, unk, unk, unk, unk, unk, unk, unk, unk, unk, unk, unk, unk, unk, unk, unk, unk, unk, unk, unk, unk, unk, unk, unk, unk, unk]
abbrev f71_X_R0 (s0 s3 s4 s5 : Value) : List Value := [s0, unk, unk, s3, s4, s5, unk, unk, unk, unk, unk, unk, unk, unk, unk, unk, unk, unk, unk, unk, unk, unk, unk, unk, unk, unk, unk, unk, unk, unk, unk, unk, unk, unk, unk, unk, unk, unk, unk, unk, unk, unk, unk, unk, unk, unk]
@[irreducible] def f71_B0 (k : Nat) (s0 s3 s4 s5 : Value) (e : EX) (H : AH) : Option (Value × AH) := resume Tryd.prog (rn k) k (tbs 71) (bodyOf Tryd.f71) [1, 1, 0, 1, 0] e (f71_X_R0 s0 s3 s4 s5) H (resK Tryd.prog Tryd.f71.results.toList)
theorem f71_B0_normal (k : Nat) (s0 s3 s4 s5 : Value) (H : AH) : f71_B0 k s0 s3 s4 s5 .normal H =
(nilChk s0).bind fun v26 =>
(fldA Tryd.prog 58 v26 0).bind fun v27 =>
(ld Tryd.prog 55 H v27).bind fun v28 =>
(ld Tryd.prog 3 H s3).bind fun v29 =>
(bin Tryd.prog .mul 3 v29 (.int .i64 64)).bind fun v30 =>
(ld Tryd.prog 3 H s3).bind fun v31 =>
(bin Tryd.prog .add 3 v31 (.int .i64 1)).bind fun v32 =>
(bin Tryd.prog .mul 3 v32 (.int .i64 64)).bind fun v33 =>
(slc Tryd.prog 55 v28 (some v30) (some v33)).bind fun v34 =>
(cvS Tryd.prog 55 9 H v34).bind fun v35 =>
(st Tryd.prog 9 H s4 v35).bind fun h36 =>
(st Tryd.prog 28 h36 s5 (.int .i64 0)).bind fun h37 =>
((ld Tryd.prog 9 h37 s4).bind fun v38 => ((ld Tryd.prog 28 h37 s5).bind fun v39 => some (v39 :: [])).bind fun vs => some (v38 :: vs)).bind fun vs => some (oneOf vs, h37) := by kernel_rfl
theorem f71_B0_ret (k : Nat) (s0 s3 s4 s5 : Value) (H : AH) : f71_B0 k s0 s3 s4 s5 .ret H =
((ld Tryd.prog 9 H s4).bind fun v40 => ((ld Tryd.prog 28 H s5).bind fun v41 => some (v41 :: [])).bind fun vs => some (v40 :: vs)).bind fun vs => some (oneOf vs, H) := by kernel_rfl
theorem f71_Y0_eq (k : Nat) (s3 s4 s5 : Value) (x0 x1 : Value) (b : Nat) (H : AH) (hb : blk H b = some ⟨.int .i64 0 :: f71_T_R0 s3 s4 s5, 7, .loop 71 7⟩) : rn (k + 1) (yOff + b) [x0, x1] H =
b2 (newV Tryd.prog 84 H) fun v42 h42 =>
(st Tryd.prog 84 h42 v42 x1).bind fun h43 =>
(setSt h43 b 0 1).bind fun h0 =>
(fldA Tryd.prog 84 v42 0).bind fun v44 =>
(ld Tryd.prog 3 h0 v44).bind fun v45 =>
(ld Tryd.prog 3 h0 s3).bind fun v46 =>
(bin Tryd.prog .eql 3 v45 v46).bind fun v47 =>
aIf v47
 ((fldA Tryd.prog 84 v42 1).bind fun v48 =>
 (ld Tryd.prog 9 h0 v48).bind fun v49 =>
 (st Tryd.prog 9 h0 s4 v49).bind fun h50 =>
 (st Tryd.prog 28 h50 s5 (.int .i64 0)).bind fun h51 =>
 (setSt h51 b 1 2).bind fun h => some (.bool false, h))
 ((setSt h0 b 1 0).bind fun h => some (.bool true, h)) := (run_round hb).trans (by kernel_rfl)
theorem f71_eq (k : Nat) (a0 a1 : Value) (H : AH) : rn (k + 1) 71 [a0, a1] H =
b2 (box 3 H a1) fun v1 h1 =>
b2 (newV Tryd.prog 9 h1) fun v2 h2 =>
b2 (newV Tryd.prog 28 h2) fun v3 h3 =>
(nilChk a0).bind fun v4 =>
(fldA Tryd.prog 58 v4 3).bind fun v5 =>
(ld Tryd.prog 4 h3 v5).bind fun v6 =>
aIf v6
 ((st Tryd.prog 9 h3 v2 (.string ⟨#[]⟩)).bind fun h7 =>
 (st Tryd.prog 28 h7 v3 (.int .i64 7)).bind fun h8 =>
 ((ld Tryd.prog 9 h8 v2).bind fun v9 => ((ld Tryd.prog 28 h8 v3).bind fun v10 => some (v10 :: [])).bind fun vs => some (v9 :: vs)).bind fun vs => some (oneOf vs, h8))
 ((ld Tryd.prog 3 h3 v1).bind fun v11 =>
 (bin Tryd.prog .lss 3 v11 (.int .i64 0)).bind fun v12 =>
 b2 (gOp v12 false ((ld Tryd.prog 3 h3 v1).bind fun v => some (v, h3)) h3) fun v13 h13 =>
 b2 (gOp v12 false (some (a0, h3)) h3) fun v14 h14 =>
 b2 (gOp v12 false (b2 (rn k 33 [v14] h14) fun v h => some (v, h)) h14) fun v15 h15 =>
 aChk (v12 = .bool false → ld Tryd.prog 3 h15 v1 = some v13) <|
 b2 (gOp v12 false ((bin Tryd.prog .geq 3 v13 v15).bind fun v => some (v, h15)) h15) fun v16 h16 =>
 (pickV v12 (.bool true) v16).bind fun v17 =>
 aIf v17
  ((st Tryd.prog 9 h16 v2 (.string ⟨#[]⟩)).bind fun h18 =>
  (st Tryd.prog 28 h18 v3 (.int .i64 1)).bind fun h19 =>
  ((ld Tryd.prog 9 h19 v2).bind fun v20 => ((ld Tryd.prog 28 h19 v3).bind fun v21 => some (v21 :: [])).bind fun vs => some (v20 :: vs)).bind fun vs => some (oneOf vs, h19))
  ((nilChk a0).bind fun v22 =>
  (fldA Tryd.prog 58 v22 1).bind fun v23 =>
  (ld Tryd.prog 56 h16 v23).bind fun v24 =>
  b2 (rn k 77 [v24] h16) fun v25 h25 =>
  b2 (callV (rn k) v25 [(.func (.yield (List.length h25)) #[] #[])] (mkB h25 (.int .i64 0 :: (f71_T_R0 v1 v2 v3)) 7 (.loop 71 7))) fun v h => rgBack (List.length h25) h fun e h => f71_B0 k a0 v1 v2 v3 e h)) := by kernel_rfl
theorem f72_eq (k : Nat) (a0 : Value) (H : AH) : rn (k + 1) 72 [a0] H =
(lenV Tryd.prog 9 a0).bind fun v1 =>
(bin Tryd.prog .neq 3 v1 (.int .i64 128)).bind fun v2 =>
aIf v2
 (some ((.tuple #[(.int .i64 0), (.string ⟨#[]⟩), (.int .i64 2)]), H))
 ((slc Tryd.prog 9 a0 none (some (.int .i64 124))).bind fun v3 =>
 (ix Tryd.prog 9 a0 (.int .i64 3)).bind fun v4 =>
 (cv Tryd.prog 5 3 v4).bind fun v5 =>
 b2 (rn k 60 [v3] H) fun v6 h6 =>
 (slc Tryd.prog 9 a0 (some (.int .i64 124)) none).bind fun v7 =>
 (bin Tryd.prog .neq 9 v6 v7).bind fun v8 =>
 aIf v8
  (some ((.tuple #[(.int .i64 0), (.string ⟨#[]⟩), (.int .i64 10)]), h6))
  (b2 (rn k 67 [a0, (.string ⟨#[65, 83]⟩)] h6) fun v9 h9 =>
  (un Tryd.prog .not v9).bind fun v10 =>
  b2 (gOp v10 false (some (a0, h9)) h9) fun v11 h11 =>
  b2 (gOp v10 false ((ix Tryd.prog 9 v11 (.int .i64 2)).bind fun v => some (v, h11)) h11) fun v12 h12 =>
  b2 (gOp v10 false ((bin Tryd.prog .lss 5 v12 (.int .u8 1)).bind fun v => some (v, h12)) h12) fun v13 h13 =>
  (pickV v10 (.bool true) v13).bind fun v14 =>
  b2 (gOp v14 false (some (a0, h13)) h13) fun v15 h15 =>
  b2 (gOp v14 false ((ix Tryd.prog 9 v15 (.int .i64 2)).bind fun v => some (v, h15)) h15) fun v16 h16 =>
  b2 (gOp v14 false ((bin Tryd.prog .gtr 5 v16 (.int .u8 9)).bind fun v => some (v, h16)) h16) fun v17 h17 =>
  (pickV v14 (.bool true) v17).bind fun v18 =>
  b2 (gOp v18 false (some (v5, h17)) h17) fun v19 h19 =>
  b2 (gOp v18 false ((bin Tryd.prog .gtr 3 v19 (.int .i64 120)).bind fun v => some (v, h19)) h19) fun v20 h20 =>
  (pickV v18 (.bool true) v20).bind fun v21 =>
  b2 (gOp v21 false (some (v3, h20)) h20) fun v22 h22 =>
  b2 (gOp v21 false (some (v5, h22)) h22) fun v23 h23 =>
  b2 (gOp v21 false ((bin Tryd.prog .add 3 (.int .i64 4) v23).bind fun v => some (v, h23)) h23) fun v24 h24 =>
  b2 (gOp v21 false ((slc Tryd.prog 9 v22 (some v24) none).bind fun v => some (v, h24)) h24) fun v25 h25 =>
  b2 (gOp v21 false (b2 (rn k 78 [v25, (.string ⟨#[0]⟩)] h25) fun v h => some (v, h)) h25) fun v26 h26 =>
  b2 (gOp v21 false ((bin Tryd.prog .neq 9 v26 (.string ⟨#[]⟩)).bind fun v => some (v, h26)) h26) fun v27 h27 =>
  (pickV v21 (.bool true) v27).bind fun v28 =>
  aIf v28
   (some ((.tuple #[(.int .i64 0), (.string ⟨#[]⟩), (.int .i64 2)]), h27))
   ((ix Tryd.prog 9 a0 (.int .i64 2)).bind fun v29 =>
   (cv Tryd.prog 5 3 v29).bind fun v30 =>
   (bin Tryd.prog .add 3 (.int .i64 4) v5).bind fun v31 =>
   (slc Tryd.prog 9 v3 (some (.int .i64 4)) (some v31)).bind fun v32 =>
   some ((.tuple #[v30, v32, (.int .i64 0)]), h27)))) := by kernel_rfl
theorem f74_eq (k : Nat) (a0 a1 : Value) (H : AH) : rn (k + 1) 74 [a0, a1] H =
(bin Tryd.prog .and 134 a0 (.int .u64 4294967295)).bind fun v1 =>
(bin Tryd.prog .shr 134 a0 (.int .u64 32)).bind fun v2 =>
(bin Tryd.prog .and 134 a1 (.int .u64 4294967295)).bind fun v3 =>
(bin Tryd.prog .shr 134 a1 (.int .u64 32)).bind fun v4 =>
(bin Tryd.prog .mul 134 v1 v3).bind fun v5 =>
(bin Tryd.prog .mul 134 v2 v3).bind fun v6 =>
(bin Tryd.prog .shr 134 v5 (.int .u64 32)).bind fun v7 =>
(bin Tryd.prog .add 134 v6 v7).bind fun v8 =>
(bin Tryd.prog .and 134 v8 (.int .u64 4294967295)).bind fun v9 =>
(bin Tryd.prog .shr 134 v8 (.int .u64 32)).bind fun v10 =>
(bin Tryd.prog .mul 134 v1 v4).bind fun v11 =>
(bin Tryd.prog .add 134 v9 v11).bind fun v12 =>
(bin Tryd.prog .mul 134 v2 v4).bind fun v13 =>
(bin Tryd.prog .add 134 v13 v10).bind fun v14 =>
(bin Tryd.prog .shr 134 v12 (.int .u64 32)).bind fun v15 =>
(bin Tryd.prog .add 134 v14 v15).bind fun v16 =>
(bin Tryd.prog .mul 134 a0 a1).bind fun v17 =>
some ((.tuple #[v16, v17]), H) := by kernel_rfl
theorem f75_eq (k : Nat) (a0 a1 : Value) (H : AH) : rn (k + 1) 75 [a0, a1] H =
(lenV Tryd.prog 9 a0).bind fun v1 =>
(lenV Tryd.prog 9 a1).bind fun v2 =>
(bin Tryd.prog .geq 3 v1 v2).bind fun v3 =>
b2 (gOp v3 true (some (a0, H)) H) fun v4 h4 =>
b2 (gOp v3 true (some (a1, h4)) h4) fun v5 h5 =>
b2 (gOp v3 true ((lenV Tryd.prog 9 v5).bind fun v => some (v, h5)) h5) fun v6 h6 =>
b2 (gOp v3 true ((slc Tryd.prog 9 v4 none (some v6)).bind fun v => some (v, h6)) h6) fun v7 h7 =>
b2 (gOp v3 true (some (a1, h7)) h7) fun v8 h8 =>
b2 (gOp v3 true ((bin Tryd.prog .eql 9 v7 v8).bind fun v => some (v, h8)) h8) fun v9 h9 =>
(pickV v3 v9 (.bool false)).bind fun v10 =>
some (v10, h9) := by kernel_rfl
theorem f77_eq (k : Nat) (a0 : Value) (H : AH) : rn (k + 1) 77 [a0] H =
b2 (box 56 H a0) fun v1 h1 =>
some ((.func (.func 80) #[] #[v1]), h1) := by kernel_rfl
theorem f78_eq (k : Nat) (a0 a1 : Value) (H : AH) : rn (k + 1) 78 [a0, a1] H =
(bin Tryd.prog .eql 9 a0 (.string ⟨#[]⟩)).bind fun v1 =>
b2 (gOp v1 false (some (a1, H)) H) fun v2 h2 =>
b2 (gOp v1 false ((bin Tryd.prog .eql 9 v2 (.string ⟨#[]⟩)).bind fun v => some (v, h2)) h2) fun v3 h3 =>
(pickV v1 (.bool true) v3).bind fun v4 =>
aIf v4
 (some (a0, h3))
 ((lenV Tryd.prog 9 a1).bind fun v5 =>
 (bin Tryd.prog .eql 3 v5 (.int .i64 1)).bind fun v6 =>
 b2 (gOp v6 true (some (a1, h3)) h3) fun v7 h7 =>
 b2 (gOp v6 true ((ix Tryd.prog 9 v7 (.int .i64 0)).bind fun v => some (v, h7)) h7) fun v8 h8 =>
 b2 (gOp v6 true ((bin Tryd.prog .lss 5 v8 (.int .u8 128)).bind fun v => some (v, h8)) h8) fun v9 h9 =>
 (pickV v6 v9 (.bool false)).bind fun v10 =>
 aIf v10
  ((ix Tryd.prog 9 a1 (.int .i64 0)).bind fun v11 =>
  b2 (rn k 82 [a0, v11] h9) fun v12 h12 =>
  (ix Tryd.prog 9 a1 (.int .i64 0)).bind fun v13 =>
  b2 (rn k 81 [v12, v13] h12) fun v14 h14 =>
  some (v14, h14))
  (b2 (rn k 83 [a1] h9) fun v15 h15 =>
  (ext v15 0).bind fun v16 =>
  (ext v15 1).bind fun v17 =>
  b2 (newV Tryd.prog 145 h15) fun v18 h18 =>
  (st Tryd.prog 145 h18 v18 v16).bind fun h19 =>
  aIf v17
   (b2 (rn k 85 [a0, v18] h19) fun v20 h20 =>
   b2 (rn k 84 [v20, v18] h20) fun v21 h21 =>
   some (v21, h21))
   (b2 (rn k 87 [a0, a1] h19) fun v22 h22 =>
   b2 (rn k 86 [v22, a1] h22) fun v23 h23 =>
   some (v23, h23)))) := by kernel_rfl
abbrev f80_T_L0 (s0 s1 s3 : Value) : List Value := [s0, s1, unk, s3, unk, unk, unk, unk, unk, unk, unk, unk, unk, unk, unk, unk, unk, unk, unk]
abbrev f80_X_L0 : List Value := [unk, unk, unk, unk, unk, unk, unk, unk, unk, unk, unk, unk, unk, unk, unk, unk, unk, unk, unk]
@[irreducible] def f80_L0 (k : Nat) (s0 s1 s3 : Value) (n : Nat) (H : AH) : Option Out := iterD (fun T H K => evalK Tryd.prog (rn k) k (tbs 80) (codeAt (bodyOf Tryd.f80) [1, 0, 0]) T H K) (cutT (tbs 80) 4) (cutT (tbs 80) 5) n (f80_T_L0 s0 s1 s3) H
@[irreducible] def f80_A0 (k : Nat) (e : EX) (T : List Value) (H : AH) : Option (Value × AH) := resume Tryd.prog (rn k) k (tbs 80) (bodyOf Tryd.f80) [1, 0] e T H (resK Tryd.prog Tryd.f80.results.toList)
theorem f80_L0_succ (k : Nat) (s0 s1 s3 : Value) (n : Nat) (H : AH) : f80_L0 k s0 s1 s3 (n + 1) H =
(bin Tryd.prog .geq 3 s3 (.int .i64 0)).bind fun v4 =>
aIf v4
 ((ld Tryd.prog 56 H s1).bind fun v5 =>
 (ixA Tryd.prog 56 v5 s3).bind fun v6 =>
 (ld Tryd.prog 84 H v6).bind fun v7 =>
 b2 (callY (rn k) s0 [s3, v7] H) fun v8 h8 =>
 (un Tryd.prog .not v8).bind fun v9 =>
 aIf v9
  (some (.ret, f80_X_L0, h8))
  ((bin Tryd.prog .sub 3 s3 (.int .i64 1)).bind fun v10 =>
  f80_L0 k s0 s1 v10 n h8))
 (some ((.exit 0), f80_X_L0, H)) := by kernel_rfl
theorem f80_A0_x0 (k : Nat) (H : AH) : f80_A0 k (.exit 0) f80_X_L0 H =
some ((.tuple #[]), H) := by kernel_rfl
theorem f80_A0_ret (k : Nat) (H : AH) : f80_A0 k .ret f80_X_L0 H =
some ((.tuple #[]), H) := by kernel_rfl
theorem f80_eq (k : Nat) (a0 a1 : Value) (H : AH) : rn (k + 1) 80 [a0, a1] H =
(ld Tryd.prog 56 H a1).bind fun v1 =>
(lenV Tryd.prog 56 v1).bind fun v2 =>
(bin Tryd.prog .sub 3 v2 (.int .i64 1)).bind fun v3 =>
(f80_L0 k a0 a1 v3 k H).bind fun p => f80_A0 k p.1 p.2.1 p.2.2 := by kernel_rfl
abbrev f81_T_L0 (s0 s1 : Value) : List Value := [s0, s1, unk, unk, unk, unk, unk, unk, unk, unk, unk, unk, unk, unk, unk, unk, unk]
abbrev f81_X_L0 (s0 : Value) : List Value := [s0, unk, unk, unk, unk, unk, unk, unk, unk, unk, unk, unk, unk, unk, unk, unk, unk]
@[irreducible] def f81_L0 (k : Nat) (s0 s1 : Value) (n : Nat) (H : AH) : Option Out := iterD (fun T H K => evalK Tryd.prog (rn k) k (tbs 81) (codeAt (bodyOf Tryd.f81) [1, 0, 0, 0]) T H K) (cutT (tbs 81) 4) (cutT (tbs 81) 5) n (f81_T_L0 s0 s1) H
@[irreducible] def f81_A0 (k : Nat) (e : EX) (T : List Value) (H : AH) : Option (Value × AH) := resume Tryd.prog (rn k) k (tbs 81) (bodyOf Tryd.f81) [1, 0, 0] e T H (resK Tryd.prog Tryd.f81.results.toList)
theorem f81_L0_succ (k : Nat) (s0 s1 : Value) (n : Nat) (H : AH) : f81_L0 k s0 s1 (n + 1) H =
(lenV Tryd.prog 9 s0).bind fun v1 =>
(bin Tryd.prog .gtr 3 v1 (.int .i64 0)).bind fun v2 =>
b2 (gOp v2 true (some (s0, H)) H) fun v3 h3 =>
b2 (gOp v2 true ((ix Tryd.prog 9 v3 (.int .i64 0)).bind fun v => some (v, h3)) h3) fun v4 h4 =>
b2 (gOp v2 true (some (s1, h4)) h4) fun v5 h5 =>
b2 (gOp v2 true ((bin Tryd.prog .eql 5 v4 v5).bind fun v => some (v, h5)) h5) fun v6 h6 =>
(pickV v2 v6 (.bool false)).bind fun v7 =>
aIf v7
 ((slc Tryd.prog 9 s0 (some (.int .i64 1)) none).bind fun v8 =>
 f81_L0 k v8 s1 n h6)
 (some ((.exit 0), (f81_X_L0 s0), h6)) := by kernel_rfl
theorem f81_A0_x0 (k : Nat) (s0 : Value) (H : AH) : f81_A0 k (.exit 0) (f81_X_L0 s0) H =
some (s0, H) := by kernel_rfl
theorem f81_eq (k : Nat) (a0 a1 : Value) (H : AH) : rn (k + 1) 81 [a0, a1] H =
(f81_L0 k a0 a1 k H).bind fun p => f81_A0 k p.1 p.2.1 p.2.2 := by kernel_rfl
abbrev f82_T_L0 (s0 s1 : Value) : List Value := [s0, s1, unk, unk, unk, unk, unk, unk, unk, unk, unk, unk, unk, unk, unk, unk, unk, unk, unk, unk, unk, unk, unk]
abbrev f82_X_L0 (s0 : Value) : List Value := [s0, unk, unk, unk, unk, unk, unk, unk, unk, unk, unk, unk, unk, unk, unk, unk, unk, unk, unk, unk, unk, unk, unk]
@[irreducible] def f82_L0 (k : Nat) (s0 s1 : Value) (n : Nat) (H : AH) : Option Out := iterD (fun T H K => evalK Tryd.prog (rn k) k (tbs 82) (codeAt (bodyOf Tryd.f82) [1, 0, 0, 0]) T H K) (cutT (tbs 82) 4) (cutT (tbs 82) 5) n (f82_T_L0 s0 s1) H
@[irreducible] def f82_A0 (k : Nat) (e : EX) (T : List Value) (H : AH) : Option (Value × AH) := resume Tryd.prog (rn k) k (tbs 82) (bodyOf Tryd.f82) [1, 0, 0] e T H (resK Tryd.prog Tryd.f82.results.toList)
theorem f82_L0_succ (k : Nat) (s0 s1 : Value) (n : Nat) (H : AH) : f82_L0 k s0 s1 (n + 1) H =
(lenV Tryd.prog 9 s0).bind fun v1 =>
(bin Tryd.prog .gtr 3 v1 (.int .i64 0)).bind fun v2 =>
b2 (gOp v2 true (some (s0, H)) H) fun v3 h3 =>
b2 (gOp v2 true (some (s0, h3)) h3) fun v4 h4 =>
b2 (gOp v2 true ((lenV Tryd.prog 9 v4).bind fun v => some (v, h4)) h4) fun v5 h5 =>
b2 (gOp v2 true ((bin Tryd.prog .sub 3 v5 (.int .i64 1)).bind fun v => some (v, h5)) h5) fun v6 h6 =>
b2 (gOp v2 true ((ix Tryd.prog 9 v3 v6).bind fun v => some (v, h6)) h6) fun v7 h7 =>
b2 (gOp v2 true (some (s1, h7)) h7) fun v8 h8 =>
b2 (gOp v2 true ((bin Tryd.prog .eql 5 v7 v8).bind fun v => some (v, h8)) h8) fun v9 h9 =>
(pickV v2 v9 (.bool false)).bind fun v10 =>
aIf v10
 ((lenV Tryd.prog 9 s0).bind fun v11 =>
 (bin Tryd.prog .sub 3 v11 (.int .i64 1)).bind fun v12 =>
 (slc Tryd.prog 9 s0 none (some v12)).bind fun v13 =>
 f82_L0 k v13 s1 n h9)
 (some ((.exit 0), (f82_X_L0 s0), h9)) := by kernel_rfl
theorem f82_A0_x0 (k : Nat) (s0 : Value) (H : AH) : f82_A0 k (.exit 0) (f82_X_L0 s0) H =
some (s0, H) := by kernel_rfl
theorem f82_eq (k : Nat) (a0 a1 : Value) (H : AH) : rn (k + 1) 82 [a0, a1] H =
(f82_L0 k a0 a1 k H).bind fun p => f82_A0 k p.1 p.2.1 p.2.2 := by kernel_rfl
end
end Go.AM.C
