/-
  Facts of the abstract evaluator and of the functions that the law reaches, part 4. Conditions: none.
-/
import Derived.Shelf.Strings.BuilderX
import Derived.Shelf.RegionOpenPlain
import Derived.Lib.Strings
import Derived.Lib.Walk
import Derived.Lib.Builder
import Derived.Lib.MakeNoZero
import Derived.WalkKit
import Derived.Laws.Externs
import Derived.Laws.IdiomCopy
import Derived.Laws.PanicsMore
import Derived.Test.YtmoonbjbllkdoaaGreatDoorG3CatSaves
set_option linter.unusedVariables false
set_option linter.unusedSimpArgs false
set_option linter.unnecessarySimpa false
set_option exponentiation.threshold 200000
set_option maxRecDepth 100000
namespace Go.AM.E
open Go Go.AM Go.Proofs
attribute [local irreducible] run bin un ld st box newV mkS fldA fld ixA ix slc slc3 build buildS cv cvS ap cpy lenV gOp pickV b2 aIf aChk evalK resume iterD Option.bind

theorem scn_at2 {t e : TypeId} {z : List Value} {by_ : Nat} {k : IntKind} [hE : EltS Tryz.prog t e z 2 by_] {H : AH} {v : Value} {n i : Nat} {cs : List Value} (h : ScN H v n 2 cs) (hi : i < n) :
    ∃ b o, ixA Tryz.prog t v (.int k (i : Int)) = some (ptr b o) ∧ ∀ (ft : TypeId) (j : Nat) (x : Value), aggT Tryz.prog ft = some false → j < 2 → cs[i * 2 + j]? = some x → ld Tryz.prog ft H (ptr b (o + j)) = some x := by
  obtain ⟨b, o, h1, K, h2, h3, h4⟩ := h.ix (k := k) hE.U hE.I hE.S hi
  refine ⟨b, o, h1, fun ft j x ha hj hx => ?_⟩
  rw [ld_blk h2]
  unfold ldK
  rw [ha]
  dsimp only
  have h5 : ((K.cells.drop o).take 2)[j]? = (nth 2 cs i)[j]? := by rw [h4]
  unfold nth at h5
  rw [List.getElem?_take_of_lt hj, List.getElem?_drop, List.getElem?_take_of_lt hj, List.getElem?_drop] at h5
  rw [h5]; exact hx
theorem verC_fst {l : Vers} {i : Nat} {v : Int × Int} (h : l[i]? = some v) : (verC l)[i * 2 + 0]? = some (.int .i64 v.1) ∧ (verC l)[i * 2 + 1]? = some (.int .i64 v.2) := by
  have := verC_at h
  have h0 : ((verC l).drop (i * 2)).take 2 = [.int .i64 v.1, .int .i64 v.2] := this
  constructor
  · have : (((verC l).drop (i * 2)).take 2)[0]? = some (.int .i64 v.1) := by rw [h0]; rfl
    rwa [List.getElem?_take_of_lt (by decide), List.getElem?_drop] at this
  · have : (((verC l).drop (i * 2)).take 2)[1]? = some (.int .i64 v.2) := by rw [h0]; rfl
    rwa [List.getElem?_take_of_lt (by decide), List.getElem?_drop] at this
theorem cbin_eql_agg {t : TypeId} {xs ys : List Value} {c : Bool} (h : aggEq Tryz.prog t xs ys = some c) : bin Tryz.prog .eql t (.agg xs.toArray) (.agg ys.toArray) = some (.bool c) := by
  unfold bin
  rw [if_neg (fun hh => by cases hh.1)]
  show (aggEq Tryz.prog t xs ys).map _ = _
  rw [h]; rfl
theorem cbin_neq_agg {t : TypeId} {xs ys : List Value} {c : Bool} (h : aggEq Tryz.prog t xs ys = some c) : bin Tryz.prog .neq t (.agg xs.toArray) (.agg ys.toArray) = some (.bool !c) := by
  unfold bin
  rw [if_neg (fun hh => by cases hh.1)]
  show (aggEq Tryz.prog t xs ys).map _ = _
  rw [h]; rfl
theorem ceqV (a b c d : Int) : aggEq Tryz.prog 71 [.int .i64 a, .int .i64 b] [.int .i64 c, .int .i64 d] = some (decide (a = c) && (decide (b = d) && true)) := by kernel_rfl
theorem ceqW (a b c d : Int) : aggEq Tryz.prog 94 [.int .i64 a, .int .i64 b] [.int .i64 c, .int .i64 d] = some (decide (a = c) && (decide (b = d) && true)) := by kernel_rfl
section
variable {B B0 H0 H : AH} {L : List (Nat × Blk)}
theorem cfew_spec {next : Int} {sv : Value} {l : Vers} (hv : ScN B sv l.length 2 (verC l)) (hl : l.length < 9223372036854775808) (hS : St H0 B0 B L H) :
    Ev (fun k _ => rn k 5 [.agg #[.int .i64 next, sv]] H) (fun r => ∃ v B', r.1 = .agg #[.int .i64 next, v] ∧ MoC B B' ∧ ScN B' v (l.take 15).length 2 (verC (l.take 15)) ∧ St H0 B0 B' L r.2) := by
  refine Ev.fn (fun k => f5_eq k _ H) ?_
  have hcell := hv.cell
  have hlen := hv.len (Und.eq (P := Tryz.prog) (t := 22))
  repeat (first|refine zA ?_|refine zB fun _ _ _=>?_|refine zC fun _ _ _=>?_|refine zD fun _ _=>?_|refine zE ?_|refine zF ?_)
  rename_i c H1 hS1 a H2 hS2
  clear hS hS1
  refine Ev.prim hlen ?_
  repeat (first|refine zA ?_|refine zB fun _ _ _=>?_|refine zC fun _ _ _=>?_|refine zD fun _ _=>?_|refine zE ?_|refine zF ?_)
  rw [show (if (15 : Int) < (l.length : Int) then (15 : Int) else (l.length : Int)) = ((min l.length 15 : Nat) : Int) by split <;> omega]
  have hlt : (l.take 15).length = min l.length 15 := by rw [List.length_take]; omega
  have hE : EltS Tryz.prog 22 71 _ 2 _ := inferInstance
  obtain ⟨v', q1, q2⟩ := (ScN.mono hS2.le hv).slc (P := Tryz.prog) (t := 22) (lo := none) (hi := some (i64 (min l.length 15))) (i := 0) (j := min l.length 15) hE.U hE.I hE.S rfl rfl (Nat.zero_le _) (Nat.min_le_left _ _)
  refine Ev.prim q1 ?_
  rw [Nat.zero_mul, List.drop_zero, Nat.sub_zero, verC_take] at q2
  rw [show l.take (min l.length 15) = l.take 15 by rcases Nat.le_total l.length 15 with h | h <;> simp [h, List.take_of_length_le]] at q2
  refine GAcc.more (t := 22) (Und.eq (P := Tryz.prog) (t := 22)) (GAcc.nil hS2) q2 (verC_cell _) (by omega) fun w B3 H3 hm3 hA3 => ?_
  clear hS2
  have hc3 := hA3.cell
  repeat (first|refine zA ?_|refine zB fun _ _ _=>?_|refine zC fun _ _ _=>?_|refine zD fun _ _=>?_|refine zE ?_|refine zF ?_)
  refine GAcc.stC hA3 fun H4 hA4 => ?_
  rw [Nat.zero_add, List.nil_append, ← hlt] at hA4
  obtain ⟨B5, hm5, hN5, hS5⟩ := hA4.freeze
  repeat (first|refine zA ?_|refine zB fun _ _ _=>?_|refine zC fun _ _ _=>?_|refine zD fun _ _=>?_|refine zE ?_|refine zF ?_)
  rename_i H6 hS6
  exact Ev.ret ⟨w, B5, rfl, ⟨hm3.mo.trans hm5.mo⟩, hN5, hS6.drop1.drop1⟩
theorem cref_loop {a c d : Nat} {next : Int} {sv : Value} {l : Vers} {Bl : AH} (hv : ScN Bl sv l.length 2 (verC l)) (hl : l.length ≤ 1000000) : ∀ (m i : Nat) (B H : AH) (v : Value), i + m = l.length → Mo Bl B →
    GAcc 94 2 H0 B0 B ((d, ⟨[.int .i64 next, v], 41, .fix⟩) :: (a, ⟨[.int .i64 0, .slice none 0 0], 41, .fix⟩) :: (c, ⟨[.int .i64 next, sv], 24, .fix⟩) :: L) H v i (verC (l.take i)) →
    Ev (fun K K2 => f12_L0 K (ptr c 0) (ptr a 0) (ptr d 0) (i64 i) K2 H) (fun o => ∃ B' H' v', o = (.exit 0, f12_X_L0 (ptr a 0) (ptr d 0), H') ∧ MoC B B' ∧
      GAcc 94 2 H0 B0 B' ((d, ⟨[.int .i64 next, v'], 41, .fix⟩) :: (a, ⟨[.int .i64 0, .slice none 0 0], 41, .fix⟩) :: (c, ⟨[.int .i64 next, sv], 24, .fix⟩) :: L) H' v' l.length (verC l)) := by
  intro m
  have hcell := hv.cell
  have hlen := hv.len (Und.eq (P := Tryz.prog) (t := 22))
  induction m with
  | zero =>
    intro i B H v hi hB hA
    refine Ev.succ (fun K K2 => f12_L0_succ K _ _ _ _ K2 H) ?_
    have : i = l.length := by omega
    subst this
    obtain ⟨Lx, hS, back, hsub⟩ := hA.split
    have hg : blk H c = some ⟨[.int .i64 next, sv], 24, .fix⟩ := hS.get (hsub _ (.tail _ (.tail _ (.head _))))
    have hld : ld Tryz.prog 22 H (ptr c 1) = some sv := by rw [ld_blk hg]; exact PrimEq.eq
    repeat (first|refine zA ?_|refine zB fun _ _ _=>?_|refine zC fun _ _ _=>?_|refine zD fun _ _=>?_|refine zE ?_|refine zF ?_)
    refine Ev.prim hld ?_
    refine Ev.prim hlen ?_
    repeat (first | (first|refine zA ?_|refine zB fun _ _ _=>?_|refine zC fun _ _ _=>?_|refine zD fun _ _=>?_|refine zE ?_|refine zF ?_) | rw [decide_eq_true (by omega)] | rw [decide_eq_false (by omega)])
    rw [List.take_length] at hA
    exact Ev.ret ⟨B, H, v, rfl, ⟨Mo.refl B⟩, hA⟩
  | succ m ih =>
    intro i B H v hi hB hA
    refine Ev.succ (fun K K2 => f12_L0_succ K _ _ _ _ K2 H) ?_
    obtain ⟨Lx, hS, back, hsub⟩ := hA.split
    have hg : blk H c = some ⟨[.int .i64 next, sv], 24, .fix⟩ := hS.get (hsub _ (.tail _ (.tail _ (.head _))))
    have hld : ld Tryz.prog 22 H (ptr c 1) = some sv := by rw [ld_blk hg]; exact PrimEq.eq
    have hgd : blk H d = some ⟨[.int .i64 next, v], 41, .fix⟩ := hS.get (hsub _ (.head _))
    have hcv := hA.cell
    have hldd : ld Tryz.prog 39 H (ptr d 1) = some v := by rw [ld_blk hgd]; exact PrimEq.eq
    obtain ⟨x, hxi⟩ : ∃ x, l[i]? = some x := ⟨_, List.getElem?_eq_getElem (by omega)⟩
    have hN := ScN.mono (hB.trans hS.le) hv
    obtain ⟨bp, o, q1, q2⟩ := scn_at2 (t := 22) (k := .i64) (i := i) hN (by omega)
    obtain ⟨e1, e2⟩ := verC_fst hxi
    have q3 := q2 3 0 _ (AggOf.eq (P := Tryz.prog) (t := 3)) (by decide) e1
    have q4 := q2 3 1 _ (AggOf.eq (P := Tryz.prog) (t := 3)) (by decide) e2
    rw [Nat.add_zero] at q3
    repeat (first|refine zA ?_|refine zB fun _ _ _=>?_|refine zC fun _ _ _=>?_|refine zD fun _ _=>?_|refine zE ?_|refine zF ?_)
    refine Ev.prim hld ?_
    refine Ev.prim hlen ?_
    repeat (first | (first|refine zA ?_|refine zB fun _ _ _=>?_|refine zC fun _ _ _=>?_|refine zD fun _ _=>?_|refine zE ?_|refine zF ?_) | rw [decide_eq_true (by omega)] | rw [decide_eq_false (by omega)])
    refine Ev.prim hldd ?_
    repeat (first|refine zA ?_|refine zB fun _ _ _=>?_|refine zC fun _ _ _=>?_|refine zD fun _ _=>?_|refine zE ?_|refine zF ?_)
    refine Ev.prim hld ?_
    refine Ev.prim q1 ?_
    repeat (first|refine zA ?_|refine zB fun _ _ _=>?_|refine zC fun _ _ _=>?_|refine zD fun _ _=>?_|refine zE ?_|refine zF ?_)
    refine Ev.prim q3 ?_
    repeat (first|refine zA ?_|refine zB fun _ _ _=>?_|refine zC fun _ _ _=>?_|refine zD fun _ _=>?_|refine zE ?_|refine zF ?_)
    refine Ev.prim hld ?_
    refine Ev.prim q1 ?_
    repeat (first|refine zA ?_|refine zB fun _ _ _=>?_|refine zC fun _ _ _=>?_|refine zD fun _ _=>?_|refine zE ?_|refine zF ?_)
    refine Ev.prim q4 ?_
    repeat (first|refine zA ?_|refine zB fun _ _ _=>?_|refine zC fun _ _ _=>?_|refine zD fun _ _=>?_|refine zE ?_|refine zF ?_)
    refine GAcc.push (t := 39) (ds := [.int .i64 x.1, .int .i64 x.2]) hA rfl rfl rfl rfl (by decide) (by omega) fun v' B4 H4 hm4 hA4 => ?_
    have hcell4 := hA4.cell
    repeat (first|refine zA ?_|refine zB fun _ _ _=>?_|refine zC fun _ _ _=>?_|refine zD fun _ _=>?_|refine zE ?_|refine zF ?_)
    refine GAcc.stC hA4 fun H5 hA5 => ?_
    repeat (first | (first|refine zA ?_|refine zB fun _ _ _=>?_|refine zC fun _ _ _=>?_|refine zD fun _ _=>?_|refine zE ?_|refine zF ?_) | rw [decide_eq_true (by omega)] | rw [decide_eq_false (by omega)])
    have e : verC (l.take i) ++ [.int .i64 x.1, .int .i64 x.2] = verC (l.take (i + 1)) := by rw [List.take_add_one, hxi, ← verC_snoc]; rfl
    rw [e] at hA5
    refine (ih (i + 1) B4 H5 v' (by omega) (hB.trans hm4.mo) hA5).mono ?_
    rintro o ⟨B', H', v2, h1, h2, h3⟩
    exact ⟨B', H', v2, h1, ⟨hm4.mo.trans h2.mo⟩, h3⟩
theorem cref_spec {next : Int} {sv : Value} {l : Vers} (hv : ScN B sv l.length 2 (verC l)) (hl : l.length ≤ 1000000) (hS : St H0 B0 B L H) :
    Ev (fun k _ => rn k 12 [.agg #[.int .i64 next, sv]] H) (fun r => ∃ v B', r.1 = .agg #[.int .i64 next, v] ∧ MoC B B' ∧ ScN B' v l.length 2 (verC l) ∧ St H0 B0 B' L r.2) := by
  refine Ev.fn (fun k => f12_eq k _ H) ?_
  have hcell := hv.cell
  repeat (first|refine zA ?_|refine zB fun _ _ _=>?_|refine zC fun _ _ _=>?_|refine zD fun _ _=>?_|refine zE ?_|refine zF ?_)
  rename_i c H1 hS1 a H2 hS2 d H3 hS3 H4 hS4
  clear hS hS1 hS2 hS3
  refine Ev.bind (Ev.loop (cref_loop hv hl l.length 0 B H4 (.slice none 0 0) (by omega) (Mo.refl B) (GAcc.nil hS4))) ?_
  rintro _ ⟨B5, H5, v, rfl, hm5, hA5⟩
  refine Ev.eq (fun k _ => f12_A0_x0 k _ _ H5) ?_
  have hc := hA5.cell
  obtain ⟨B6, hm6, hN6, hS6⟩ := hA5.freeze
  clear hS4
  repeat (first|refine zA ?_|refine zB fun _ _ _=>?_|refine zC fun _ _ _=>?_|refine zD fun _ _=>?_|refine zE ?_|refine zF ?_)
  rename_i H7 hS7
  exact Ev.ret ⟨v, B6, rfl, ⟨hm5.mo.trans hm6.mo⟩, hN6, hS7.drop1.drop1.drop1⟩
theorem csame_loop {a b : Nat} {n m : Int} {av bv : Value} {l k : Vers} (ha : ScN B av l.length 2 (verC l)) (hb : ScN B bv k.length 2 (verC k)) (hlk : l.length = k.length) (hl : l.length ≤ 1000000)
    (hS : St H0 B0 B ((b, ⟨[.int .i64 m, bv], 41, .fix⟩) :: (a, ⟨[.int .i64 n, av], 41, .fix⟩) :: L) H) : ∀ (q i : Nat), i + q = l.length →
    Ev (fun K K2 => f33_L0 K (ptr a 0) (ptr b 0) (i64 i) K2 H) (fun o => (l.drop i = k.drop i ∧ o = (.exit 0, f33_X_L0 unk, H)) ∨ (l.drop i ≠ k.drop i ∧ o = (.ret, f33_X_L0 (.bool false), H))) := by
  intro q
  have hca := ha.cell
  have hcb := hb.cell
  have hla := ha.len (Und.eq (P := Tryz.prog) (t := 39))
  induction q with
  | zero =>
    intro i hi
    refine Ev.succ (fun K K2 => f33_L0_succ K _ _ _ K2 H) ?_
    repeat (first|refine zA ?_|refine zB fun _ _ _=>?_|refine zC fun _ _ _=>?_|refine zD fun _ _=>?_|refine zE ?_|refine zF ?_)
    refine Ev.prim hla ?_
    repeat (first | (first|refine zA ?_|refine zB fun _ _ _=>?_|refine zC fun _ _ _=>?_|refine zD fun _ _=>?_|refine zE ?_|refine zF ?_) | rw [decide_eq_true (by omega)] | rw [decide_eq_false (by omega)])
    exact Ev.ret (.inl ⟨by rw [List.drop_of_length_le (by omega), List.drop_of_length_le (by omega)], rfl⟩)
  | succ q ih =>
    intro i hi
    refine Ev.succ (fun K K2 => f33_L0_succ K _ _ _ K2 H) ?_
    repeat (first|refine zA ?_|refine zB fun _ _ _=>?_|refine zC fun _ _ _=>?_|refine zD fun _ _=>?_|refine zE ?_|refine zF ?_)
    refine Ev.prim hla ?_
    repeat (first | (first|refine zA ?_|refine zB fun _ _ _=>?_|refine zC fun _ _ _=>?_|refine zD fun _ _=>?_|refine zE ?_|refine zF ?_) | rw [decide_eq_true (by omega)] | rw [decide_eq_false (by omega)])
    obtain ⟨x, hx⟩ : ∃ x, l[i]? = some x := ⟨_, List.getElem?_eq_getElem (by omega)⟩
    obtain ⟨y, hy⟩ : ∃ x, k[i]? = some x := ⟨_, List.getElem?_eq_getElem (by omega)⟩
    have hdx : l.drop i = x :: l.drop (i + 1) := by
      have h1 := List.getElem?_eq_some_iff.1 hx
      rw [← h1.2]; exact List.drop_eq_getElem_cons h1.1
    have hdy : k.drop i = y :: k.drop (i + 1) := by
      have h1 := List.getElem?_eq_some_iff.1 hy
      rw [← h1.2]; exact List.drop_eq_getElem_cons h1.1
    obtain ⟨p, q1, q2⟩ := (ScN.mono hS.le ha).ldAt (P := Tryz.prog) (t := 39) (k := .i64) (i := i) (by omega) (AggOf.eq (P := Tryz.prog) (t := 94))
    obtain ⟨p2, q3, q4⟩ := (ScN.mono hS.le hb).ldAt (P := Tryz.prog) (t := 39) (k := .i64) (i := i) (by omega) (AggOf.eq (P := Tryz.prog) (t := 94))
    rw [verC_at hx] at q2
    rw [verC_at hy] at q4
    refine Ev.prim q1 ?_
    refine Ev.prim q2 ?_
    repeat (first|refine zA ?_|refine zB fun _ _ _=>?_|refine zC fun _ _ _=>?_|refine zD fun _ _=>?_|refine zE ?_|refine zF ?_)
    refine Ev.prim q3 ?_
    refine Ev.prim q4 ?_
    refine Ev.prim (cbin_neq_agg (ceqW x.1 x.2 y.1 y.2)) ?_
    rw [hdx, hdy]
    by_cases hxy : x = y
    · subst hxy
      rw [decide_eq_true (rfl : x.1 = x.1), decide_eq_true (rfl : x.2 = x.2), show (true && (true && true)) = true from rfl]
      repeat (first | (first|refine zA ?_|refine zB fun _ _ _=>?_|refine zC fun _ _ _=>?_|refine zD fun _ _=>?_|refine zE ?_|refine zF ?_) | rw [decide_eq_true (by omega)] | rw [decide_eq_false (by omega)])
      refine (ih (i + 1) (by omega)).mono ?_
      rintro o (⟨h, e⟩ | ⟨h, e⟩)
      · exact .inl ⟨by rw [h], e⟩
      · exact .inr ⟨by simpa using h, e⟩
    · have hf : (decide (x.1 = y.1) && (decide (x.2 = y.2) && true)) = false := by
        by_cases h1 : x.1 = y.1
        · by_cases h2 : x.2 = y.2
          · exact absurd (Prod.ext h1 h2) hxy
          · simp [h2]
        · simp [h1]
      rw [hf]
      repeat (first|refine zA ?_|refine zB fun _ _ _=>?_|refine zC fun _ _ _=>?_|refine zD fun _ _=>?_|refine zE ?_|refine zF ?_)
      exact Ev.ret (.inr ⟨by simp [hxy], rfl⟩)
theorem cSame_spec {n m : Int} {av bv : Value} {l k : Vers} (ha : ScN B av l.length 2 (verC l)) (hb : ScN B bv k.length 2 (verC k)) (hl : l.length ≤ 1000000) (hk : k.length ≤ 1000000) (hS : St H0 B0 B L H) :
    Ev (fun K _ => rn K 33 [.agg #[.int .i64 n, av], .agg #[.int .i64 m, bv]] H) (fun r => r.1 = .bool (decide (n = m ∧ l = k)) ∧ St H0 B0 B L r.2) := by
  refine Ev.fn (fun K => f33_eq K _ _ H) ?_
  have hca := ha.cell
  have hcb := hb.cell
  have hla := ha.len (Und.eq (P := Tryz.prog) (t := 39))
  have hlb := hb.len (Und.eq (P := Tryz.prog) (t := 39))
  repeat (first|refine zA ?_|refine zB fun _ _ _=>?_|refine zC fun _ _ _=>?_|refine zD fun _ _=>?_|refine zE ?_|refine zF ?_)
  rename_i a H1 hS1 b H2 hS2
  clear hS hS1
  by_cases hnm : n = m
  case neg =>
    rw [decide_eq_true hnm]
    repeat (first|refine zA ?_|refine zB fun _ _ _=>?_|refine zC fun _ _ _=>?_|refine zD fun _ _=>?_|refine zE ?_|refine zF ?_)
    rw [decide_eq_false (fun h => hnm h.1)]
    exact Ev.ret ⟨rfl, hS2.drop1.drop1⟩
  rw [decide_eq_false (fun h => h hnm)]
  repeat (first|refine zA ?_|refine zB fun _ _ _=>?_|refine zC fun _ _ _=>?_|refine zD fun _ _=>?_|refine zE ?_|refine zF ?_)
  rw [hla, Option.bind_some]
  repeat (first|refine zA ?_|refine zB fun _ _ _=>?_|refine zC fun _ _ _=>?_|refine zD fun _ _=>?_|refine zE ?_|refine zF ?_)
  rw [hlb, Option.bind_some]
  repeat (first|refine zA ?_|refine zB fun _ _ _=>?_|refine zC fun _ _ _=>?_|refine zD fun _ _=>?_|refine zE ?_|refine zF ?_)
  by_cases hlk : l.length = k.length
  case neg =>
    rw [decide_eq_true hlk]
    repeat (first|refine zA ?_|refine zB fun _ _ _=>?_|refine zC fun _ _ _=>?_|refine zD fun _ _=>?_|refine zE ?_|refine zF ?_)
    rw [decide_eq_false (fun h => hlk (by rw [h.2]))]
    exact Ev.ret ⟨rfl, hS2.drop1.drop1⟩
  rw [decide_eq_false (fun h => h hlk)]
  repeat (first|refine zA ?_|refine zB fun _ _ _=>?_|refine zC fun _ _ _=>?_|refine zD fun _ _=>?_|refine zE ?_|refine zF ?_)
  refine Ev.bind (Ev.loop (csame_loop ha hb hlk hl hS2 l.length 0 (by omega))) ?_
  rintro _ (⟨h, rfl⟩ | ⟨h, rfl⟩)
  · rw [List.drop_zero, List.drop_zero] at h
    refine Ev.eq (fun K _ => f33_A0_x0 K _ H2) ?_
    rw [decide_eq_true ⟨hnm, h⟩]
    exact Ev.ret ⟨rfl, hS2.drop1.drop1⟩
  · rw [List.drop_zero, List.drop_zero] at h
    refine Ev.eq (fun K _ => f33_A0_ret K _ H2) ?_
    rw [decide_eq_false (fun h2 => h h2.2)]
    exact Ev.ret ⟨rfl, hS2.drop1.drop1⟩
theorem clists_spec {n m : Int} {av bv : Value} {l k : Vers} (ha : ScN B av l.length 2 (verC l)) (hb : ScN B bv k.length 2 (verC k)) (hl : l.length ≤ 1000000) (hk : k.length ≤ 1000000) (hS : St H0 B0 B L H) :
    Ev (fun K _ => rn K 9 [.agg #[.int .i64 n, av], .agg #[.int .i64 m, bv]] H) (fun r => r.1 = .bool (decide (n = m ∧ l = k)) ∧ ∃ B', MoC B B' ∧ St H0 B0 B' L r.2) := by
  refine Ev.fn (fun K => f9_eq K _ _ H) ?_
  have hca := ha.cell
  have hcb := hb.cell
  repeat (first|refine zA ?_|refine zB fun _ _ _=>?_|refine zC fun _ _ _=>?_|refine zD fun _ _=>?_|refine zE ?_|refine zF ?_)
  rename_i a H1 hS1 b H2 hS2
  clear hS hS1
  refine Ev.b2 (cref_spec ha hl hS2) ?_
  rintro _ H3 ⟨v, B3, rfl, hm3, hN3, hS3⟩
  dsimp only at hS3
  have hld : ld Tryz.prog 41 H2 (ptr b 0) = some (.agg #[.int .i64 m, bv]) := by rw [ld_blk (hS2.get (.head _))]; exact PrimEq.eq
  clear hS2
  repeat (first|refine zA ?_|refine zB fun _ _ _=>?_|refine zC fun _ _ _=>?_|refine zD fun _ _=>?_|refine zE ?_|refine zF ?_)
  refine Ev.chk hld ?_
  refine Ev.b2 (cSame_spec hN3 (ScN.mono hm3.mo hb) hl hk hS3) ?_
  rintro _ H4 ⟨rfl, hS4⟩
  exact Ev.ret ⟨rfl, B3, hm3, hS4.drop1.drop1⟩
theorem cWith_ex (hS : St H0 B0 B L H) : Ev (fun k _ => rn k 22 [.agg #[.int .i64 5, .slice none 0 0], .int .i64 9] H) (fun r => ∃ v B', r.1 = .tuple #[.agg #[.int .i64 6, v], .bool true] ∧ MoC B B' ∧ ScN B' v 1 2 (verC [(5, 9)]) ∧ St H0 B0 B' L r.2) := by
  refine Ev.fn (fun k => f22_eq k _ _ H) ?_
  repeat (first|refine zA ?_|refine zB fun _ _ _=>?_|refine zC fun _ _ _=>?_|refine zD fun _ _=>?_|refine zE ?_|refine zF ?_)
  rename_i c H1 hS1 a H2 hS2
  clear hS hS1
  refine Ev.b2 (cRight_spec (next := 5) (l := []) (sv := .slice none 0 0) ScN.nil (by decide) hS2) ?_
  rintro _ H3 ⟨rfl, hS3⟩
  dsimp only at hS3
  clear hS2
  rw [show rightC 5 [] = true from rfl]
  repeat (first | (first|refine zA ?_|refine zB fun _ _ _=>?_|refine zC fun _ _ _=>?_|refine zD fun _ _=>?_|refine zE ?_|refine zF ?_) | rw [decide_eq_true (by omega)] | rw [decide_eq_false (by omega)])
  refine Ev.b2 (croot_spec (n := 9)) ?_
  rintro _ _ h
  cases h
  rw [show rootV 9 = true from rfl]
  repeat (first | (first|refine zA ?_|refine zB fun _ _ _=>?_|refine zC fun _ _ _=>?_|refine zD fun _ _=>?_|refine zE ?_|refine zF ?_) | rw [decide_eq_true (by omega)] | rw [decide_eq_false (by omega)])
  refine Ev.b2 (Q1 := fun r => r = (.slice none 0 0, H3)) (Ev.fn (fun k => f56_eq k _ H3) ?_) ?_
  · refine Ev.prim (show bin Tryz.prog .eql 22 (.slice none 0 0) (.slice none 0 0) = some (.bool true) by kernel_rfl) ?_
    repeat (first|refine zA ?_|refine zB fun _ _ _=>?_|refine zC fun _ _ _=>?_|refine zD fun _ _=>?_|refine zE ?_|refine zF ?_)
    exact Ev.ret rfl
  rintro _ _ h
  cases h
  repeat (first|refine zA ?_|refine zB fun _ _ _=>?_|refine zC fun _ _ _=>?_|refine zD fun _ _=>?_|refine zE ?_|refine zF ?_)
  refine GAcc.push (t := 22) (ds := [.int .i64 5, .int .i64 9]) (GAcc.nil hS3) rfl rfl rfl rfl (by decide) (by decide) fun v B4 H4 hm4 hA4 => ?_
  have hc := hA4.cell
  obtain ⟨B5, hm5, hN5, hS5⟩ := hA4.freeze
  clear hS3
  repeat (first|refine zA ?_|refine zB fun _ _ _=>?_|refine zC fun _ _ _=>?_|refine zD fun _ _=>?_|refine zE ?_|refine zF ?_)
  rename_i H6 hS6
  exact Ev.ret ⟨v, B5, rfl, ⟨hm4.mo.trans hm5.mo⟩, hN5, hS6.drop1.drop1⟩
theorem cFind_ex {n : Int} {v : Value} (hv : ScN B v 1 2 (verC [(5, 9)])) (hS : St H0 B0 B L H) : Ev (fun k _ => rn k 23 [.agg #[.int .i64 n, v], .int .i64 0] H) (fun r => r.1 = .tuple #[.int .i64 0, .bool true] ∧ St H0 B0 B L r.2) := by
  refine Ev.fn (fun k => f23_eq k _ _ H) ?_
  have hcell := hv.cell
  have hlen := hv.len (Und.eq (P := Tryz.prog) (t := 22))
  repeat (first|refine zA ?_|refine zB fun _ _ _=>?_|refine zC fun _ _ _=>?_|refine zD fun _ _=>?_|refine zE ?_|refine zF ?_)
  rename_i c H1 hS1 a H2 hS2
  clear hS hS1
  try rw [decide_eq_true (rfl : (0 : Int) = 0)]
  repeat (first|refine zA ?_|refine zB fun _ _ _=>?_|refine zC fun _ _ _=>?_|refine zD fun _ _=>?_|refine zE ?_|refine zF ?_)
  refine Ev.prim hlen ?_
  repeat (first | (first|refine zA ?_|refine zB fun _ _ _=>?_|refine zC fun _ _ _=>?_|refine zD fun _ _=>?_|refine zE ?_|refine zF ?_) | rw [decide_eq_true (by omega)] | rw [decide_eq_false (by omega)])
  refine Ev.prim hlen ?_
  repeat (first | (first|refine zA ?_|refine zB fun _ _ _=>?_|refine zC fun _ _ _=>?_|refine zD fun _ _=>?_|refine zE ?_|refine zF ?_) | rw [decide_eq_true (by omega)] | rw [decide_eq_false (by omega)])
  exact Ev.ret ⟨rfl, hS2.drop1.drop1⟩
theorem examples23_spec (hS : St H0 B0 B L H) : Ev (fun k _ => rn k 4 [] H) (fun r => r.1 = .bool true ∧ ∃ B', MoC B B' ∧ St H0 B0 B' L r.2) := by
  refine Ev.fn (fun k => f4_eq k H) ?_
  repeat (first|refine zA ?_|refine zB fun _ _ _=>?_|refine zC fun _ _ _=>?_|refine zD fun _ _=>?_|refine zE ?_|refine zF ?_)
  refine Ev.b2 (cEncode_spec (next := 1) (l := []) (sv := .slice none 0 0) ScN.nil (by decide) hS) ?_
  rintro _ H1 ⟨h, B1, hm1, hS1⟩
  dsimp only at h hS1
  rw [if_pos (show rightC 1 [] = true from rfl), show encC 1 [] = [0, 0, 0, 1] by decide] at h
  subst h
  clear hS
  repeat (first|refine zA ?_|refine zB fun _ _ _=>?_|refine zC fun _ _ _=>?_|refine zD fun _ _=>?_|refine zE ?_|refine zF ?_)
  refine Ev.b2 (cWith_ex hS1) ?_
  rintro _ H2 ⟨v, B2, rfl, hm2, hN2, hS2⟩
  dsimp only at hS2
  clear hS1
  have hc := hN2.cell
  have hlen := hN2.len (Und.eq (P := Tryz.prog) (t := 22))
  repeat (first|refine zA ?_|refine zB fun _ _ _=>?_|refine zC fun _ _ _=>?_|refine zD fun _ _=>?_|refine zE ?_|refine zF ?_)
  rename_i c H3 hS3 H4 hS4
  clear hS2 hS3
  refine Ev.b2 (cFind_ex hN2 hS4) ?_
  rintro _ H5 ⟨rfl, hS5⟩
  dsimp only at hS5
  clear hS4
  repeat (first|refine zA ?_|refine zB fun _ _ _=>?_|refine zC fun _ _ _=>?_|refine zD fun _ _=>?_|refine zE ?_|refine zF ?_)
  refine Ev.b2 (cDecode_spec (s := []) (by decide) hS5) ?_
  rintro _ H6 ⟨B6, hd, hm6, hS6⟩
  dsimp only at hS6 hd
  clear hS5
  have hd2 : decC [] = none := by decide
  rcases hd with ⟨_, rfl⟩ | ⟨_, _, _, h, _⟩
  case inr => rw [hd2] at h; cases h
  repeat (first|refine zA ?_|refine zB fun _ _ _=>?_|refine zC fun _ _ _=>?_|refine zD fun _ _=>?_|refine zE ?_|refine zF ?_)
  rename_i b H7 hS7 H8 hS8
  clear hS6 hS7
  rw [hlen, Option.bind_some]
  repeat (first | (first|refine zA ?_|refine zB fun _ _ _=>?_|refine zC fun _ _ _=>?_|refine zD fun _ _=>?_|refine zE ?_|refine zF ?_) | rw [decide_eq_true (by omega)] | rw [decide_eq_false (by omega)])
  obtain ⟨p, q1, q2⟩ := (ScN.mono (hm6.mo.trans hS8.le) hN2).ldAt (P := Tryz.prog) (t := 22) (k := .i64) (i := 0) (by decide) (AggOf.eq (P := Tryz.prog) (t := 71))
  rw [show ((verC [(5, 9)]).drop (0 * 2)).take 2 = [.int .i64 5, .int .i64 9] from rfl] at q2
  rw [show (.int .i64 0 : Value) = .int .i64 ((0 : Nat) : Int) from rfl, q1, Option.bind_some]
  repeat (first|refine zA ?_|refine zB fun _ _ _=>?_|refine zC fun _ _ _=>?_|refine zD fun _ _=>?_|refine zE ?_|refine zF ?_)
  rw [q2, Option.bind_some]
  repeat (first|refine zA ?_|refine zB fun _ _ _=>?_|refine zC fun _ _ _=>?_|refine zD fun _ _=>?_|refine zE ?_|refine zF ?_)
  rw [cbin_eql_agg (xs := [.int .i64 5, .int .i64 9]) (ys := [.int .i64 5, .int .i64 9]) (ceqV 5 9 5 9), Option.bind_some]
  try rw [show (decide ((5 : Int) = 5) && (decide ((9 : Int) = 9) && true)) = true from rfl]
  repeat (first | (first|refine zA ?_|refine zB fun _ _ _=>?_|refine zC fun _ _ _=>?_|refine zD fun _ _=>?_|refine zE ?_|refine zF ?_) | rw [decide_eq_true (by omega)] | rw [decide_eq_false (by omega)])
  exact Ev.ret ⟨rfl, B6, ⟨hm1.mo.trans (hm2.mo.trans hm6.mo)⟩, hS8.drop1.drop1⟩
end
end Go.AM.E
namespace Go.AM.E
open Go Go.AM Go.Proofs
attribute [local irreducible] run bin un ld st box newV mkS fldA fld ixA ix slc slc3 build buildS cv cvS ap cpy lenV gOp pickV b2 aIf aChk evalK resume iterD Option.bind

section
variable {H : AH}
theorem sum_bits {s : Value} {a b : Value} : ∀ (m i v : Nat), i + m = 8 → v < 4294967296 →
    Ev (fun k n => f114_L1 k s (u32 v) a b (i64 i) n H) (fun o => o = (.exit 2, f114_X_L1 s (u32 (crcBits m v)) a b, H)) := by
  intro m
  induction m with
  | zero =>
    intro i v hi hv
    refine Ev.succ (fun k n => f114_L1_succ k _ _ _ _ _ n H) ?_
    repeat (first|refine zA ?_|refine zB fun _ _ _=>?_|refine zC fun _ _ _=>?_|refine zD fun _ _=>?_|refine zE ?_|refine zF ?_)
    rw [decide_eq_false (by omega)]
    repeat (first|refine zA ?_|refine zB fun _ _ _=>?_|refine zC fun _ _ _=>?_|refine zD fun _ _=>?_|refine zE ?_|refine zF ?_)
    exact Ev.ret rfl
  | succ m ih =>
    intro i v hi hv
    have hb := crcBit_lt hv
    refine Ev.succ (fun k n => f114_L1_succ k _ _ _ _ _ n H) ?_
    repeat (first|refine zA ?_|refine zB fun _ _ _=>?_|refine zC fun _ _ _=>?_|refine zD fun _ _=>?_|refine zE ?_|refine zF ?_)
    rw [decide_eq_true (by omega)]
    repeat (first|refine zA ?_|refine zB fun _ _ _=>?_|refine zC fun _ _ _=>?_|refine zD fun _ _=>?_|refine zE ?_|refine zF ?_)
    refine crc_step hv ?_
    repeat (first|refine zA ?_|refine zB fun _ _ _=>?_|refine zC fun _ _ _=>?_|refine zD fun _ _=>?_|refine zE ?_|refine zF ?_)
    exact ih (i + 1) (crcBit v) (by omega) hb
theorem sum_loop {s : List UInt8} (hl : s.length < 9223372036854775808) : ∀ (m i v : Nat), i + m = s.length → v < 4294967296 →
    Ev (fun k n => f114_L0 k (str s) (u32 v) (i64 s.length) (i64 i) n H) (fun o => o = (.exit 0, f114_X_L0 (u32 (crcGo v (s.drop i))), H)) := by
  intro m
  induction m with
  | zero =>
    intro i v hi hv
    refine Ev.succ (fun k n => f114_L0_succ k _ _ _ _ n H) ?_
    repeat (first|refine zA ?_|refine zB fun _ _ _=>?_|refine zC fun _ _ _=>?_|refine zD fun _ _=>?_|refine zE ?_|refine zF ?_)
    rw [decide_eq_false (by omega)]
    repeat (first|refine zA ?_|refine zB fun _ _ _=>?_|refine zC fun _ _ _=>?_|refine zD fun _ _=>?_|refine zE ?_|refine zF ?_)
    rw [List.drop_of_length_le (by omega)]
    exact Ev.ret rfl
  | succ m ih =>
    intro i v hi hv
    have hx := xorb_lt hv (s.getD i 0)
    have hd := drop_getD (s := s) (i := i) (by omega)
    refine Ev.succ (fun k n => f114_L0_succ k _ _ _ _ n H) ?_
    repeat (first|refine zA ?_|refine zB fun _ _ _=>?_|refine zC fun _ _ _=>?_|refine zD fun _ _=>?_|refine zE ?_|refine zF ?_)
    rw [decide_eq_true (by omega)]
    repeat (first|refine zA ?_|refine zB fun _ _ _=>?_|refine zC fun _ _ _=>?_|refine zD fun _ _=>?_|refine zE ?_|refine zF ?_)
    refine Ev.prim (ix_str i rfl (by omega)) ?_
    repeat (first|refine zA ?_|refine zB fun _ _ _=>?_|refine zC fun _ _ _=>?_|refine zD fun _ _=>?_|refine zE ?_|refine zF ?_)
    rw [mod_two32]
    refine Ev.prim (xorW ⟨hv, Nat.lt_trans (u8_lt _) (by decide)⟩) ?_
    refine Ev.bind (Ev.loop (sum_bits 8 0 _ rfl hx)) ?_
    rintro _ rfl
    refine Ev.eq (fun k n => f114_A1_x2 k n _ _ _ _ H) ?_
    repeat (first|refine zA ?_|refine zB fun _ _ _=>?_|refine zC fun _ _ _=>?_|refine zD fun _ _=>?_|refine zE ?_|refine zF ?_)
    rw [hd]
    exact ih (i + 1) _ (by omega) (crcBits_lt 8 hx)
theorem Sum_spec {s : List UInt8} (hl : s.length < 9223372036854775808) : Ev (fun k _ => rn k 114 [str s] H) (fun r => r = (u32 (crc s), H)) := by
  refine Ev.fn (fun k => f114_eq k _ H) ?_
  repeat (first|refine zA ?_|refine zB fun _ _ _=>?_|refine zC fun _ _ _=>?_|refine zD fun _ _=>?_|refine zE ?_|refine zF ?_)
  refine Ev.bind (Ev.loop (sum_loop hl s.length 0 4294967295 (Nat.zero_add _) (by decide))) ?_
  rintro _ rfl
  refine Ev.eq (fun k _ => f114_A0_x0 k _ H) ?_
  rw [List.drop_zero]
  refine Ev.prim (notW (crcGo_lt s (by decide))) ?_
  exact Ev.ret rfl
theorem crcBit_ref {v : Nat} : crcBit v = if v % 2 = 1 then v / 2 ^^^ 3988292384 else v / 2 := by
  unfold crcBit
  rcases Nat.mod_two_eq_zero_or_one v with e | e
  · rw [e, if_neg (by decide)]; simp
  · rw [e, if_pos rfl]
theorem rsum_bits {s : Value} {b : Value} : ∀ (m i v : Nat), i + m = 8 → v < 4294967296 →
    Ev (fun k n => f104_L1 k s (u32 v) b (i64 i) n H) (fun o => o = (.exit 2, f104_X_L1 s (u32 (crcBits m v)) b, H)) := by
  intro m
  induction m with
  | zero =>
    intro i v hi hv
    refine Ev.succ (fun k n => f104_L1_succ k _ _ _ _ n H) ?_
    repeat (first|refine zA ?_|refine zB fun _ _ _=>?_|refine zC fun _ _ _=>?_|refine zD fun _ _=>?_|refine zE ?_|refine zF ?_)
    rw [decide_eq_false (by omega)]
    repeat (first|refine zA ?_|refine zB fun _ _ _=>?_|refine zC fun _ _ _=>?_|refine zD fun _ _=>?_|refine zE ?_|refine zF ?_)
    exact Ev.ret rfl
  | succ m ih =>
    intro i v hi hv
    have hb := crcBit_lt hv
    have hr := crcBit_ref (v := v)
    refine Ev.succ (fun k n => f104_L1_succ k _ _ _ _ n H) ?_
    repeat (first|refine zA ?_|refine zB fun _ _ _=>?_|refine zC fun _ _ _=>?_|refine zD fun _ _=>?_|refine zE ?_|refine zF ?_)
    rw [decide_eq_true (by omega)]
    repeat (first|refine zA ?_|refine zB fun _ _ _=>?_|refine zC fun _ _ _=>?_|refine zD fun _ _=>?_|refine zE ?_|refine zF ?_)
    by_cases h1 : v % 2 = 1
    · rw [if_pos h1] at hr
      rw [decide_eq_true h1]
      repeat (first|refine zA ?_|refine zB fun _ _ _=>?_|refine zC fun _ _ _=>?_|refine zD fun _ _=>?_|refine zE ?_|refine zF ?_)
      refine Ev.prim (show bin Tryz.prog .quo 171 (u32 v) (.int .u32 2) = some (u32 (v / 2)) from quoU (by omega)) ?_
      refine Ev.prim (xorW (b := 3988292384) ⟨by omega, by decide⟩) ?_
      rw [← hr]
      repeat (first|refine zA ?_|refine zB fun _ _ _=>?_|refine zC fun _ _ _=>?_|refine zD fun _ _=>?_|refine zE ?_|refine zF ?_)
      exact ih (i + 1) (crcBit v) (by omega) hb
    · rw [if_neg h1] at hr
      rw [decide_eq_false h1]
      repeat (first|refine zA ?_|refine zB fun _ _ _=>?_|refine zC fun _ _ _=>?_|refine zD fun _ _=>?_|refine zE ?_|refine zF ?_)
      refine Ev.prim (show bin Tryz.prog .quo 171 (u32 v) (.int .u32 2) = some (u32 (v / 2)) from quoU (by omega)) ?_
      rw [← hr]
      repeat (first|refine zA ?_|refine zB fun _ _ _=>?_|refine zC fun _ _ _=>?_|refine zD fun _ _=>?_|refine zE ?_|refine zF ?_)
      exact ih (i + 1) (crcBit v) (by omega) hb
theorem rsum_loop {s : List UInt8} (hl : s.length < 9223372036854775808) : ∀ (m i v : Nat), i + m = s.length → v < 4294967296 →
    Ev (fun k n => f104_L0 k (str s) (u32 v) (i64 i) n H) (fun o => o = (.exit 0, f104_X_L0 (u32 (crcGo v (s.drop i))), H)) := by
  intro m
  induction m with
  | zero =>
    intro i v hi hv
    refine Ev.succ (fun k n => f104_L0_succ k _ _ _ n H) ?_
    repeat (first|refine zA ?_|refine zB fun _ _ _=>?_|refine zC fun _ _ _=>?_|refine zD fun _ _=>?_|refine zE ?_|refine zF ?_)
    rw [decide_eq_false (by omega)]
    repeat (first|refine zA ?_|refine zB fun _ _ _=>?_|refine zC fun _ _ _=>?_|refine zD fun _ _=>?_|refine zE ?_|refine zF ?_)
    rw [List.drop_of_length_le (by omega)]
    exact Ev.ret rfl
  | succ m ih =>
    intro i v hi hv
    have hx := xorb_lt hv (s.getD i 0)
    have hd := drop_getD (s := s) (i := i) (by omega)
    refine Ev.succ (fun k n => f104_L0_succ k _ _ _ n H) ?_
    repeat (first|refine zA ?_|refine zB fun _ _ _=>?_|refine zC fun _ _ _=>?_|refine zD fun _ _=>?_|refine zE ?_|refine zF ?_)
    rw [decide_eq_true (by omega)]
    repeat (first|refine zA ?_|refine zB fun _ _ _=>?_|refine zC fun _ _ _=>?_|refine zD fun _ _=>?_|refine zE ?_|refine zF ?_)
    refine Ev.prim (ix_str i rfl (by omega)) ?_
    repeat (first|refine zA ?_|refine zB fun _ _ _=>?_|refine zC fun _ _ _=>?_|refine zD fun _ _=>?_|refine zE ?_|refine zF ?_)
    rw [mod_two32]
    refine Ev.prim (xorW ⟨hv, Nat.lt_trans (u8_lt _) (by decide)⟩) ?_
    refine Ev.bind (Ev.loop (rsum_bits 8 0 _ rfl hx)) ?_
    rintro _ rfl
    refine Ev.eq (fun k n => f104_A1_x2 k n _ _ _ H) ?_
    repeat (first|refine zA ?_|refine zB fun _ _ _=>?_|refine zC fun _ _ _=>?_|refine zD fun _ _=>?_|refine zE ?_|refine zF ?_)
    rw [hd]
    exact ih (i + 1) _ (by omega) (crcBits_lt 8 hx)
theorem rSum_spec {s : List UInt8} (hl : s.length < 9223372036854775808) : Ev (fun k _ => rn k 104 [str s] H) (fun r => r = (u32 (crc s), H)) := by
  refine Ev.fn (fun k => f104_eq k _ H) ?_
  refine Ev.bind (Ev.loop (rsum_loop hl s.length 0 4294967295 (Nat.zero_add _) (by decide))) ?_
  rintro _ rfl
  refine Ev.eq (fun k _ => f104_A0_x0 k _ H) ?_
  rw [List.drop_zero]
  refine Ev.prim (xorW (b := 4294967295) ⟨crcGo_lt s (by decide), by decide⟩) ?_
  rw [Nat.xor_comm]
  exact Ev.ret rfl
end
end Go.AM.E


namespace Go.AM.E
open Go Go.AM Go.Proofs
attribute [local irreducible] run bin un ld st box newV mkS fldA fld ixA ix slc slc3 build buildS cv cvS ap cpy lenV gOp pickV b2 aIf aChk evalK resume iterD Option.bind

abbrev BldT : List TypeId := [129]
theorem copy_eq (k : Nat) (a0 : Value) (H : AH) : rn (k + 1) 94 [a0] H = gCopy Tryz.prog BldT [a0] H := by kernel_rfl
theorem copy_spec {H0 B0 B H : AH} {L : List (Nat × Blk)} {p : Nat} {c0 v : Value} {rest : List Value} {T : TypeId} {ds : List Nat} (hT : T ∈ BldT) (hl : rest.length + 2 = szT Tryz.prog T) (hc : c0 = .pointer none ∨ c0 = ptr p 0)
    (hA : BAcc 5 H0 B0 B ((p, ⟨c0 :: v :: rest, T, .fix⟩) :: L) H v ds) :
    Ev (fun k _ => rn k 94 [ptr p 0] H) (fun r => r.1 = .tuple #[] ∧ BAcc 5 H0 B0 B ((p, ⟨ptr p 0 :: v :: rest, T, .fix⟩) :: L) r.2 v ds) := by
  refine Ev.fn (fun k => copy_eq k _ H) ?_
  have hb := hA.st.get (.head _)
  rcases hc with rfl | rfl
  · have e : gCopy Tryz.prog BldT [ptr p 0] H = some (.tuple #[], put H p ⟨.pointer none :: v :: rest, T, .fix⟩ (ptr p 0 :: v :: rest)) := by
      show (blk H p).bind _ = _
      rw [hb]
      simp only [Option.bind_some]
      rw [if_pos ⟨trivial, hT, by simpa using hl⟩]
      rfl
    rw [e]
    exact Ev.ret ⟨rfl, hA.upd (.head _)⟩
  · have e : gCopy Tryz.prog BldT [ptr p 0] H = some (.tuple #[], H) := by
      show (blk H p).bind _ = _
      rw [hb]
      simp only [Option.bind_some]
      rw [if_pos ⟨trivial, hT, by simpa using hl⟩]
      exact if_pos rfl
    rw [e]
    exact Ev.ret ⟨rfl, hA⟩
theorem WriteString_spec {H0 B0 B H : AH} {L : List (Nat × Blk)} {p : Nat} {l : List UInt8} {c0 v : Value} {rest : List Value} {T : TypeId} {ds : List Nat} (hT : T ∈ BldT) (hl : rest.length + 2 = szT Tryz.prog T) (hc : c0 = .pointer none ∨ c0 = ptr p 0) (hd : ds.length + l.length ≤ 140737488355328)
    (hA : BAcc 5 H0 B0 B ((p, ⟨c0 :: v :: rest, T, .fix⟩) :: L) H v ds) :
    Ev (fun k _ => rn k 69 [ptr p 0, str l] H) (fun r => r.1 = .tuple #[i64 l.length, .nilIface] ∧ ∃ v' B', MoC B B' ∧ BAcc 5 H0 B0 B' ((p, ⟨ptr p 0 :: v' :: rest, T, .fix⟩) :: L) r.2 v' (ds ++ l.map UInt8.toNat)) := by
  refine Ev.fn (fun k => f69_eq k _ _ H) ?_
  refine Ev.b2 (copy_spec hT hl hc hA) fun v1 H1 h1 => ?_
  obtain ⟨h1, hA1⟩ := h1
  simp only at h1 hA1
  have hSt := hA1.st
  have hcell := hA1.cell
  repeat (first|refine zA ?_|refine zB fun _ _ _=>?_|refine zC fun _ _ _=>?_|refine zD fun _ _=>?_|refine zE ?_|refine zF ?_)
  refine hA1.str (by kernel_rfl) hd (by kernel_rfl) fun v' B' H' hm hA' => ?_
  have hcell' := hA'.cell
  refine Ev.s ?_
  refine Ev.s ?_
  refine BAcc.stC (P := Tryz.prog) (t := 95) (b := p) (off := 1) (w := v') hA' fun H2 hA2 => ?_
  refine Ev.s ?_
  exact Ev.ret ⟨rfl, v', B', hm, hA2⟩
theorem bacc_len {e t : TypeId} [hu : Und Tryz.prog t (.slice e)] {H0 B0 B H : AH} {L : List (Nat × Blk)} {v : Value} {ds : List Nat} (h : BAcc e H0 B0 B L H v ds) : lenV Tryz.prog t v = some (i64 ds.length) := by
  rcases h with ⟨rfl, rfl, _⟩ | ⟨b, rfl, _⟩
  · unfold lenV; rw [hu.eq]; rfl
  · unfold lenV; rw [hu.eq]; rfl
theorem String_spec {H0 B0 B H : AH} {L : List (Nat × Blk)} {p : Nat} {c0 v : Value} {rest : List Value} {T : TypeId} {ds : List Nat} (hd : ds.length ≤ 140737488355328) (hne : ds ≠ [])
    (hA : BAcc 5 H0 B0 B ((p, ⟨c0 :: v :: rest, T, .fix⟩) :: L) H v ds) :
    Ev (fun k _ => rn k 70 [ptr p 0] H) (fun r => r.1 = str (ds.map fun n => UInt8.ofNat n) ∧ St H0 B0 B ((p, ⟨c0 :: v :: rest, T, .fix⟩) :: L) r.2) := by
  refine Ev.fn (fun k => f70_eq k _ H) ?_
  have hSt := hA.st
  have hcell := hA.cell
  obtain ⟨q, H', q1, q2, q3⟩ := hA.said (P := Tryz.prog) (pt := 166) hne (by exact Tryz.underlying166) (by kernel_rfl) (by omega)
  have hlen := bacc_len (t := 95) hA
  repeat (first|refine zA ?_|refine zB fun _ _ _=>?_|refine zC fun _ _ _=>?_|refine zD fun _ _=>?_|refine zE ?_|refine zF ?_)
  refine Ev.prim q1 ?_
  repeat (first|refine zA ?_|refine zB fun _ _ _=>?_|refine zC fun _ _ _=>?_|refine zD fun _ _=>?_|refine zE ?_|refine zF ?_)
  refine Ev.prim hlen ?_
  refine Ev.prim2 q2 ?_
  exact Ev.ret ⟨rfl, q3.1⟩
end Go.AM.E
namespace Go.AM.E
open Go Go.AM Go.Proofs
attribute [local irreducible] run bin un ld st box newV mkS fldA fld ixA ix slc slc3 build buildS cv cvS ap cpy lenV gOp pickV b2 aIf aChk evalK resume iterD Option.bind

theorem WriteByte_spec {H0 B0 B H : AH} {L : List (Nat × Blk)} {p d : Nat} {c0 v : Value} {rest : List Value} {T : TypeId} {ds : List Nat} (hT : T ∈ BldT) (hl : rest.length + 2 = szT Tryz.prog T) (hc : c0 = .pointer none ∨ c0 = ptr p 0) (hd : ds.length < 140737488355328)
    (hA : BAcc 5 H0 B0 B ((p, ⟨c0 :: v :: rest, T, .fix⟩) :: L) H v ds) :
    Ev (fun k _ => rn k 109 [ptr p 0, u8 d] H) (fun r => r.1 = .nilIface ∧ ∃ v' B', MoC B B' ∧ BAcc 5 H0 B0 B' ((p, ⟨ptr p 0 :: v' :: rest, T, .fix⟩) :: L) r.2 v' (ds ++ [d])) := by
  refine Ev.fn (fun k => f109_eq k _ _ H) ?_
  refine Ev.b2 (copy_spec hT hl hc hA) fun v1 H1 h1 => ?_
  obtain ⟨h1, hA1⟩ := h1
  simp only at h1 hA1
  have hSt := hA1.st
  have hcell := hA1.cell
  repeat (first|refine zA ?_|refine zB fun _ _ _=>?_|refine zC fun _ _ _=>?_|refine zD fun _ _=>?_|refine zE ?_|refine zF ?_)
  refine hA1.push (by omega) fun v' B' H' hm hA' => ?_
  have hcell' := hA'.cell
  refine Ev.s ?_
  refine Ev.s ?_
  refine BAcc.stC (P := Tryz.prog) (t := 95) (b := p) (off := 1) (w := v') hA' fun H2 hA2 => ?_
  exact Ev.ret ⟨rfl, v', B', hm, hA2⟩
end Go.AM.E
namespace Go.AM.E
open Go Go.Proofs Go.RowKit
set_option maxHeartbeats 1000000 in
set_option maxRecDepth 100000 in
theorem copyCheck_used (b : Nat) (w : World) (h0 : w.cell? ⟨b, 0, none⟩ = some (.pointer (some ⟨b, 0, none⟩))) :
    Calls Tryz.prog 94 #[.pointer (some ⟨b, 0, none⟩)] w fun e w' => e = .returned (.tuple #[]) ∧ w' = w := by
  obtain ⟨j, hj⟩ := Option.isSome_iff_exists.1 (show (Tryz.prog.info? 129).isSome = true by kernel_rfl)
  have mixed : Tryz.prog.follows .mixedOrders = true := by kernel_rfl
  have t72 := Tryz.underlying129; have a72 := Tryz.isAgg129; have z72 := Tryz.sizeOf129; have v72 := Tryz.zeroValue129; have u72 := run_underlying t72
  have t70 := Tryz.underlying127; have a70 := Tryz.isAgg127; have z70 := Tryz.sizeOf127; have v70 := Tryz.zeroValue127; have u70 := run_underlying t70
  go_enter Tryz.func94, Tryz.ntmps94
  go_wp2
  rw [Lib.run_neq_ptr_same w _ t70 hj]
  go_wp2
  go_end0
  exact ⟨rfl, rfl⟩
set_option maxHeartbeats 1000000 in
set_option maxRecDepth 100000 in
theorem copyCheck_fresh (T n b : Nat) (hn : 0 < n) (hT : liesAt Tryz.prog Tryz.prog.depth T (n / Tryz.prog.cellsOf T) 0 129 1 = true) (w : World) (h0 : w.cell? ⟨b, 0, none⟩ = some (.pointer none)) (hsh : w.shape? b = some (T, n)) (hfz : w.frozen? ⟨b, 0, none⟩ = false) :
    Calls Tryz.prog 94 #[.pointer (some ⟨b, 0, none⟩)] w fun e w' => e = .returned (.tuple #[]) ∧ w' = w.setCell ⟨b, 0, none⟩ (.pointer (some ⟨b, 0, none⟩)) := by
  obtain ⟨j, hj⟩ := Option.isSome_iff_exists.1 (show (Tryz.prog.info? 129).isSome = true by kernel_rfl)
  have hc2 : Tryz.prog.cellsOf 129 = 2 := by kernel_rfl
  have hjs : j.size ≠ 0 := by
    unfold Program.cellsOf at hc2
    rw [hj] at hc2
    have : j.size = 2 := hc2
    omega
  have mixed : Tryz.prog.follows .mixedOrders = true := by kernel_rfl
  have t72 := Tryz.underlying129; have a72 := Tryz.isAgg129; have z72 := Tryz.sizeOf129; have v72 := Tryz.zeroValue129; have u72 := run_underlying t72
  have t70 := Tryz.underlying127; have a70 := Tryz.isAgg127; have z70 := Tryz.sizeOf127; have v70 := Tryz.zeroValue127; have u70 := run_underlying t70
  have tU := Tryz.underlying177; have aU := Tryz.isAgg177; have zU := Tryz.sizeOf177; have vU := Tryz.zeroValue177; have uU := run_underlying tU
  go_enter Tryz.func94, Tryz.ntmps94
  go_wp2
  rw [Lib.run_to_unsafe w ⟨b, 0, none⟩ t70 tU hj hjs hsh hn]
  simp only [Result.andThen]
  rw [Oper.upon_value]
  go_wp2
  rw [run_callFunc_extern Tryz.func107 (by kernel_rfl) (by kernel_rfl) (by kernel_rfl) (e := Extern.AbiNoEscape.same) (by kernel_rfl)]
  rw [Lib.run_noEscape]
  simp only [Result.andThen]
  rw [Oper.upon_value]
  go_wp2
  rw [Lib.run_from_unsafe w ⟨b, 0, none⟩ tU t70 hj hsh hT]
  simp only [Result.andThen]
  rw [Oper.upon_value]
  go_wp2
  go_end0
  exact ⟨rfl, rfl⟩
end Go.AM.E
namespace Go.AM.E
open Go Go.Proofs Go.RowKit
set_option maxHeartbeats 1000000 in
set_option maxRecDepth 100000 in
theorem grow_fresh (b n : Nat) (w : World) (c : Array Value) (T : TypeId) (hbk : w.heap[b]? = some (.cells c T (0, 0))) (h1 : c[1]? = some (.slice none 0 0)) (hn : n ≤ 140737488355328) :
    Calls Tryz.prog 120 #[.pointer (some ⟨b, 0, none⟩), .int .i64 n] w fun e w' => e = .returned (.tuple #[]) ∧ ∃ cs : Array Value,
      w'.heap = ((w.setCell ⟨b, 1, none⟩ (.slice (some ⟨w.heap.size, 0, none⟩) 0 cs.size)).alloc (.cells cs 5)).heap ∧ Below b w w' := by
  have t76 := Tryz.underlying95; have a76 := Tryz.isAgg95; have z76 := Tryz.sizeOf95; have v76 := Tryz.zeroValue95; have u76 := run_underlying t76
  have t98 := Tryz.underlying127; have a98 := Tryz.isAgg127; have z98 := Tryz.sizeOf127; have v98 := Tryz.zeroValue127; have u98 := run_underlying t98
  have t100 := Tryz.underlying129; have a100 := Tryz.isAgg129; have z100 := Tryz.sizeOf129; have v100 := Tryz.zeroValue129; have u100 := run_underlying t100
  have t3 := Tryz.underlying3; have a3 := Tryz.isAgg3; have z3 := Tryz.sizeOf3; have v3 := Tryz.zeroValue3; have u3 := run_underlying t3
  have t5 := Tryz.underlying5; have a5 := Tryz.isAgg5; have z5 := Tryz.sizeOf5; have v5 := Tryz.zeroValue5; have u5 := run_underlying t5
  obtain ⟨cs, hrun, hle, hmax⟩ := Lib.run_makeNoZero (P := Tryz.prog) w.drew #[3] 95 5 t76 n (by omega)
  have hw : IntKind.i64.wrap (IntKind.i64.wrap 0 + (n : Int)) = n := by
    rw [IntKind.wrap_i64, IntKind.wrap_i64]
    omega
  have hcall : (callFunc 122 #[.int .i64 (IntKind.i64.wrap (IntKind.i64.wrap 0 + (n : Int)))]).run Tryz.prog w.drew = .ok (.value (.slice (some ⟨w.drew.heap.size, 0, none⟩) n cs.size)) (w.drew.drew.drew.alloc (.cells cs 5)) := by
    rw [hw, run_callFunc_extern Tryz.func122 (by kernel_rfl) (by kernel_rfl) (by kernel_rfl) (e := Extern.BytealgMakeNoZero.makeNoZero #[3] #[95]) (by kernel_rfl), hrun]
    rfl
  have hlt : b < w.heap.size := (Array.getElem?_eq_some_iff.1 hbk).1
  have c1 : w.drew.cell? ⟨b, 1, none⟩ = some (.slice none 0 0) := by
    have : w.drew.heap[b]? = _ := hbk
    rw [Lib.cell_of_heap this]; exact h1
  have c2 : (w.alloc (.cells cs 5)).cell? ⟨b, 1, none⟩ = some (.slice none 0 0) := by
    have : (w.alloc (.cells cs 5)).heap[b]? = _ := (Lib.alloc_old w _ b hlt).trans hbk
    rw [Lib.cell_of_heap this]; exact h1
  have f2 : (w.alloc (.cells cs 5)).frozen? ⟨b, 1, none⟩ = false := Lib.frozen_of_heap ((Lib.alloc_old w _ b hlt).trans hbk) 1
  have hcopy : ∀ W : World, (Builtin.copy_ #[95, 95] 3 #[.slice (some ⟨w.heap.size, 0, none⟩) 0 cs.size, .slice none 0 0]).run Tryz.prog W = .ok (goInt 0) W :=
    fun W => run_copy_none W 95 95 3 5 _ _ 0 cs.size 0 0 t76 (by kernel_rfl) rfl
  have hbel : Below b w ((w.setCell ⟨b, 1, none⟩ (.slice (some ⟨w.heap.size, 0, none⟩) 0 cs.size)).alloc (.cells cs 5)) :=
    ((Below.refl b w).setCell (p := ⟨b, 1, none⟩) (Nat.le_refl _) _).alloc (by simp [World.setCell]; omega) _
  clear hw
  have mixed : Tryz.prog.follows .mixedOrders = true := by kernel_rfl
  go_enter Tryz.func120, Tryz.ntmps120
  go_wp2
  go_region_o
  all_goals (go_wp2; go_end0; first | exact ⟨rfl, cs, rfl, hbel.drew.drew.drew⟩ | exact ⟨rfl, cs, rfl, hbel.drew.drew⟩ | exact ⟨rfl, cs, rfl, hbel.drew.drew.drew.drew⟩)
end Go.AM.E
namespace Go.AM.E
open Go Go.Proofs Go.RowKit
theorem heap_two (w : World) (b : Nat) (c : Array Value) (T : TypeId) (u v : Value) (o : Obj) (hbk : w.heap[b]? = some (.cells c T (0, 0))) :
    (((w.setCell ⟨b, 0, none⟩ u).setCell ⟨b, 1, none⟩ v).alloc o).heap = ((w.alloc o).setRow b ((c.setIfInBounds 0 u).setIfInBounds 1 v)).heap := by
  have hlt := (Array.getElem?_eq_some_iff.1 hbk).1
  have hg := (Array.getElem?_eq_some_iff.1 hbk).2
  apply Array.ext_getElem?
  intro i
  unfold World.setCell World.setRow World.alloc
  simp only [Array.getElem?_modify, Array.getElem?_push, Array.size_modify]
  by_cases hi : i = w.heap.size
  · subst hi
    rw [if_pos rfl, if_pos rfl, if_neg (by omega)]
  · rw [if_neg hi, if_neg hi]
    by_cases hb : b = i
    · subst hb
      rw [if_pos rfl, if_pos rfl, if_pos rfl, hbk]; rfl
    · rw [if_neg hb, if_neg hb, if_neg hb]
set_option maxHeartbeats 1000000 in
set_option maxRecDepth 100000 in
theorem Grow_fresh (T b n : Nat) (hT2 : 2 ≤ szT Tryz.prog T) (hT : liesAt Tryz.prog Tryz.prog.depth T (szT Tryz.prog T / Tryz.prog.cellsOf T) 0 129 1 = true) (w : World) (c : Array Value) (hbk : w.heap[b]? = some (.cells c T (0, 0))) (hsz : c.size = szT Tryz.prog T) (h0 : c[0]? = some (.pointer none))
    (h1 : c[1]? = some (.slice none 0 0)) (hn0 : 0 < n) (hn : n ≤ 140737488355328) :
    Calls Tryz.prog 112 #[.pointer (some ⟨b, 0, none⟩), .int .i64 n] w fun e w' => e = .returned (.tuple #[]) ∧ ∃ cs : Array Value,
      w'.heap = ((w.alloc (.cells cs 5)).setRow b ((c.setIfInBounds 0 (.pointer (some ⟨b, 0, none⟩))).setIfInBounds 1 (.slice (some ⟨w.heap.size, 0, none⟩) 0 cs.size))).heap ∧ Below b w w' := by
  have t76 := Tryz.underlying95; have a76 := Tryz.isAgg95; have z76 := Tryz.sizeOf95; have v76 := Tryz.zeroValue95; have u76 := run_underlying t76
  have t98 := Tryz.underlying127; have a98 := Tryz.isAgg127; have z98 := Tryz.sizeOf127; have v98 := Tryz.zeroValue127; have u98 := run_underlying t98
  have t100 := Tryz.underlying129; have a100 := Tryz.isAgg129; have z100 := Tryz.sizeOf129; have v100 := Tryz.zeroValue129; have u100 := run_underlying t100
  have t3 := Tryz.underlying3; have a3 := Tryz.isAgg3; have z3 := Tryz.sizeOf3; have v3 := Tryz.zeroValue3; have u3 := run_underlying t3
  have hlt : b < w.heap.size := (Array.getElem?_eq_some_iff.1 hbk).1
  have hbk1 : (w.setCell ⟨b, 0, none⟩ (.pointer (some ⟨b, 0, none⟩))).heap[b]? = some (.cells (c.setIfInBounds 0 (.pointer (some ⟨b, 0, none⟩))) T (0, 0)) := by
    simp [World.setCell, Array.getElem?_modify, hbk]
  have h11 : (c.setIfInBounds 0 (.pointer (some ⟨b, 0, none⟩)))[1]? = some (.slice none 0 0) := by rw [Array.getElem?_setIfInBounds_ne (by decide)]; exact h1
  have c1 : (w.setCell ⟨b, 0, none⟩ (.pointer (some ⟨b, 0, none⟩))).cell? ⟨b, 1, none⟩ = some (.slice none 0 0) := by rw [Lib.cell_of_heap hbk1]; exact h11
  have c1' : (w.setCell ⟨b, 0, none⟩ (.pointer (some ⟨b, 0, none⟩))).drew.cell? ⟨b, 1, none⟩ = some (.slice none 0 0) := c1
  have hb1 : Below b w (w.setCell ⟨b, 0, none⟩ (.pointer (some ⟨b, 0, none⟩))) := (Below.refl b w).setCell (p := ⟨b, 0, none⟩) (Nat.le_refl _) _
  have hsize : (w.setCell ⟨b, 0, none⟩ (.pointer (some ⟨b, 0, none⟩))).heap.size = w.heap.size := by simp [World.setCell]
  have hs2 : (w.setCell ⟨b, 0, none⟩ (.pointer (some ⟨b, 0, none⟩))).drew.heap.size = w.heap.size := hsize
  have e95 : ∀ args w, (callFunc 94 args).run Tryz.prog w = .ok (.enter 94 args) w := enters_of Tryz.func94 (by kernel_rfl) rfl
  have e96 : ∀ args w, (callFunc 120 args).run Tryz.prog w = .ok (.enter 120 args) w := enters_of Tryz.func120 (by kernel_rfl) rfl
  have mixed : Tryz.prog.follows .mixedOrders = true := by kernel_rfl
  have hn' : ¬ ((n : Int) < 0) := by omega
  have hn2 : (0 : Int) < (n : Int) := by omega
  have hcc := copyCheck_fresh T (szT Tryz.prog T) b (by omega) hT w (by rw [Lib.cell_of_heap hbk]; exact h0) (by simp [World.shape?, hbk, hsz]) (Lib.frozen_of_heap hbk 0)
  have hgr := grow_fresh b n (w.setCell ⟨b, 0, none⟩ (.pointer (some ⟨b, 0, none⟩))).drew (c.setIfInBounds 0 (.pointer (some ⟨b, 0, none⟩))) T hbk1 h11 hn
  go_enter Tryz.func112, Tryz.ntmps112
  go_wp2_with (go_at_fn 94; refine hcc.mono ?_; rintro e w' ⟨rfl, rfl⟩)
  go_region_o
  all_goals go_wp2_with (go_at_fn 120; refine hgr.mono ?_; rintro e w' ⟨rfl, cs, h1, h2⟩)
  all_goals (go_end0; refine ⟨rfl, cs, ?_, hb1.drew.trans h2⟩; rw [hs2] at h1; exact h1.trans (by rw [← heap_two w b c T _ _ _ hbk]; rfl))
end Go.AM.E
namespace Go.AM.E
open Go Go.AM Go.Proofs
attribute [local irreducible] run bin un ld st box newV mkS fldA fld ixA ix slc slc3 build buildS cv cvS ap cpy lenV gOp pickV b2 aIf aChk evalK resume iterD Option.bind

theorem mixed0 : (Tryz.prog).follows .mixedOrders = true := by kernel_rfl
theorem gv_ok : GivenOK Tryz.prog gv := by
  intro f g h
  have hgv : gv f = (if f = 94 then some (plain (gCopy Tryz.prog [129])) else if f = 112 then some (plain (gGrow Tryz.prog [129] 5))
    else if f = 87 then some (fun call n => runMid Tryz.prog call n (tbs 87) mText Tryz.f87) else if f = 14 then some (fun call n => runMid Tryz.prog call n (tbs 14) mCommit Tryz.f14) else none) := rfl
  rw [hgv] at h
  by_cases hf : f = 94
  · rw [if_pos hf] at h
    cases h
    subst hf
    refine plain_ok (gCopy_ok ⟨_, Tryz.func94, by decide +kernel, by kernel_rfl⟩ (fun T hT b w h0 hsh hfz => ?_) (fun b w h0 => copyCheck_used b w h0))
    simp only [List.mem_cons, List.not_mem_nil, or_false] at hT
    subst hT
    exact copyCheck_fresh _ _ b (by have : szT Tryz.prog 129 = 2 := by kernel_rfl
                                    omega) (by kernel_rfl) w h0 hsh hfz
  · rw [if_neg hf] at h
    by_cases hf : f = 112
    · rw [if_pos hf] at h
      cases h
      subst hf
      have s2 : szT Tryz.prog 129 = 2 := by kernel_rfl
      refine plain_ok (gGrow_ok ⟨_, Tryz.func112, by decide +kernel, by kernel_rfl⟩ (by kernel_rfl) (fun T hT => ?_) (fun T hT b n w c hbk hsz h0 h1 hn0 hn => ?_))
      · simp only [List.mem_cons, List.not_mem_nil, or_false] at hT
        subst hT; omega
      · simp only [List.mem_cons, List.not_mem_nil, or_false] at hT
        subst hT
        exact Grow_fresh _ b n (by omega) (by kernel_rfl) w c hbk hsz h0 h1 hn0 hn
    · rw [if_neg hf] at h
      by_cases hf : f = 87
      · rw [if_pos hf] at h
        cases h
        subst hf
        intro call n hc hd args H v H' hr
        refine runMid_sound hc hd mixed0 Tryz.func87 (fun c hb => RangesAt.nil ?_) (mText_ok hc hd mixed0) hr
        have hz : rgs (bodyOf Tryz.f87) = [] := by kernel_rfl
        have e : bodyOf Tryz.f87 = c := by unfold bodyOf; rw [hb]; rfl
        rw [← e]
        exact hz
      · rw [if_neg hf] at h
        by_cases hf : f = 14
        · rw [if_pos hf] at h
          cases h
          subst hf
          intro call n hc hd args H v H' hr
          refine runMid_sound hc hd mixed0 Tryz.func14 (fun c hb => RangesAt.nil ?_) (mCommit_ok hc hd mixed0) hr
          have hz : rgs (bodyOf Tryz.f14) = [] := by kernel_rfl
          have e : bodyOf Tryz.f14 = c := by unfold bodyOf; rw [hb]; rfl
          rw [← e]
          exact hz
        · rw [if_neg hf] at h
          cases h
end Go.AM.E
namespace Go.AM.E
open Go Go.AM Go.Proofs
attribute [local irreducible] run bin un ld st box newV mkS fldA fld ixA ix slc slc3 build buildS cv cvS ap cpy lenV gOp pickV b2 aIf aChk evalK resume iterD Option.bind

theorem bld_sz : ([] : List Value).length + 2 = szT Tryz.prog 129 := by
  have : szT Tryz.prog 129 = 2 := by kernel_rfl
  rw [this]; rfl
theorem bldT_mem : 129 ∈ BldT := .head _
theorem String_same {H0 B0 B H : AH} {L : List (Nat × Blk)} {p : Nat} {c0 v : Value} {rest : List Value} {T : TypeId} {ds : List Nat} (hd : ds.length ≤ 140737488355328) (hne : ds ≠ [])
    (hA : BAcc 5 H0 B0 B ((p, ⟨c0 :: v :: rest, T, .fix⟩) :: L) H v ds) :
    Ev (fun k _ => rn k 70 [ptr p 0] H) (fun r => r = (str (ds.map fun n => UInt8.ofNat n), H)) := by
  refine Ev.fn (fun k => f70_eq k _ H) ?_
  have hSt := hA.st
  have hcell := hA.cell
  obtain ⟨q, H', q1, q2, q3, rfl⟩ := hA.said (P := Tryz.prog) (pt := 166) hne (by exact Tryz.underlying166) (by kernel_rfl) (by omega)
  have hlen := bacc_len (t := 95) hA
  repeat (first|refine zA ?_|refine zB fun _ _ _=>?_|refine zC fun _ _ _=>?_|refine zD fun _ _=>?_|refine zE ?_|refine zF ?_)
  refine Ev.prim q1 ?_
  repeat (first|refine zA ?_|refine zB fun _ _ _=>?_|refine zC fun _ _ _=>?_|refine zD fun _ _=>?_|refine zE ?_|refine zF ?_)
  refine Ev.prim hlen ?_
  refine Ev.prim2 q2 ?_
  exact Ev.ret rfl
section
variable {B B0 H0 H : AH} {L : List (Nat × Blk)}
theorem bytes_loop {p : Nat} {v : Value} {l : List Nat} (hll : l.length ≤ 1000000) :
    ∀ (m i : Nat) (B H : AH) (b : Value), i + m = l.length → FL B v u32 l → BAcc 5 H0 B0 B ((p, ⟨[if i = 0 then .pointer none else ptr p 0, b], 129, .fix⟩) :: L) H b ((l.take i).map (· % 256)) →
    Ev (fun k n => f100_L0 k (ptr p 0) v (i64 l.length) (i64 i) n H) (fun o => ∃ B' H' b' c, o = (.exit 0, f100_X_L0 (ptr p 0), H') ∧ MoC B B' ∧ BAcc 5 H0 B0 B' ((p, ⟨[c, b'], 129, .fix⟩) :: L) H' b' (l.map (· % 256))) := by
  intro m
  induction m with
  | zero =>
    intro i B H b hi hv hA
    refine Ev.succ (fun k n => f100_L0_succ k _ _ _ _ n H) ?_
    repeat (first|refine zA ?_|refine zB fun _ _ _=>?_|refine zC fun _ _ _=>?_|refine zD fun _ _=>?_|refine zE ?_|refine zF ?_)
    rw [decide_eq_false (by omega)]
    repeat (first|refine zA ?_|refine zB fun _ _ _=>?_|refine zC fun _ _ _=>?_|refine zD fun _ _=>?_|refine zE ?_|refine zF ?_)
    rw [List.take_of_length_le (by omega)] at hA
    exact Ev.ret ⟨B, H, b, _, rfl, ⟨Mo.refl B⟩, hA⟩
  | succ m ih =>
    intro i B H b hi hv hA
    obtain ⟨x, hx⟩ : ∃ x, l[i]? = some x := ⟨_, List.getElem?_eq_getElem (by omega)⟩
    have hSt := hA.st
    refine Ev.succ (fun k n => f100_L0_succ k _ _ _ _ n H) ?_
    repeat (first|refine zA ?_|refine zB fun _ _ _=>?_|refine zC fun _ _ _=>?_|refine zD fun _ _=>?_|refine zE ?_|refine zF ?_)
    rw [decide_eq_true (by omega)]
    repeat (first|refine zA ?_|refine zB fun _ _ _=>?_|refine zC fun _ _ _=>?_|refine zD fun _ _=>?_|refine zE ?_|refine zF ?_)
    refine Ev.ixF i rfl hx fun q hq => ?_
    repeat (first|refine zA ?_|refine zB fun _ _ _=>?_|refine zC fun _ _ _=>?_|refine zD fun _ _=>?_|refine zE ?_|refine zF ?_)
    refine Ev.b2 (WriteByte_spec (d := x % 256) (rest := []) bldT_mem bld_sz (by split <;> simp) (by rw [List.length_map, List.length_take]; omega) hA) ?_
    rintro _ H1 ⟨rfl, b1, B1, hm1, hA1⟩
    dsimp only at hA1
    clear hA hSt
    have e1 : (l.take i).map (· % 256) ++ [x % 256] = (l.take (i + 1)).map (· % 256) := by
      rw [List.take_add_one, hx, List.map_append]; rfl
    rw [e1] at hA1
    have hSt := hA1.st
    repeat (first|refine zA ?_|refine zB fun _ _ _=>?_|refine zC fun _ _ _=>?_|refine zD fun _ _=>?_|refine zE ?_|refine zF ?_)
    refine (ih (i + 1) B1 H1 b1 (by omega) (hv.mono hm1.mo) (by rw [if_neg (by omega)]; exact hA1)).mono ?_
    rintro o ⟨B', H', b', c, h1, h2, h3⟩
    exact ⟨B', H', b', c, h1, ⟨hm1.mo.trans h2.mo⟩, h3⟩
theorem bytes_spec {v : Value} {l : List Nat} (hv : FL B v u32 l) (hne : l ≠ []) (hll : l.length ≤ 1000000) (hS : St H0 B0 B L H) :
    Ev (fun k _ => rn k 100 [v] H) (fun r => r.1 = str (l.map UInt8.ofNat) ∧ ∃ B', MoC B B' ∧ St H0 B0 B' L r.2) := by
  refine Ev.fn (fun k => f100_eq k _ H) ?_
  refine Ev.newC fun p H1 hS1 => ?_
  clear hS
  repeat (first|refine zA ?_|refine zB fun _ _ _=>?_|refine zC fun _ _ _=>?_|refine zD fun _ _=>?_|refine zE ?_|refine zF ?_)
  refine Ev.bind (Ev.loop (bytes_loop hll l.length 0 B H1 (.slice none 0 0) (Nat.zero_add _) hv (BAcc.nil hS1))) ?_
  rintro _ ⟨B2, H2, b2, c, rfl, hm2, hA2⟩
  refine Ev.eq (fun k _ => f100_A0_x0 k _ H2) ?_
  refine Ev.b2 (String_same (by rw [List.length_map]; omega) (by simpa using hne) hA2) ?_
  rintro _ _ ⟨rfl, rfl⟩
  refine Ev.ret ⟨?_, B2, hm2, hA2.st.drop1⟩
  dsimp only
  congr 1
  rw [List.map_map]
  apply List.map_congr_left
  intro a _
  show UInt8.ofNat (a % 256) = UInt8.ofNat a
  apply UInt8.toNat_inj.1
  rw [UInt8.toNat_ofNat', UInt8.toNat_ofNat']
  omega
theorem psum_spec {s : List UInt8} (hl : s.length < 9223372036854775808) (hS : St H0 B0 B L H) :
    Ev (fun k _ => rn k 102 [str s] H) (fun r => r.1 = str (le4 (crc s)) ∧ ∃ B', MoC B B' ∧ St H0 B0 B' L r.2) := by
  refine Ev.fn (fun k => f102_eq k _ H) ?_
  refine Ev.b2 (Sum_spec hl) ?_
  rintro _ _ ⟨rfl, rfl⟩
  have hc := crc_lt s
  generalize crc s = n at hc
  refine Ev.prim (shrN (a := n) (b := 8) (by decide)) ?_
  refine Ev.prim (shrN (a := n) (b := 16) (by decide)) ?_
  refine Ev.prim (shrN (a := n) (b := 24) (by decide)) ?_
  refine Ev.bsC (P := Tryz.prog) (t := 180) (hS := hS) (by decide) fun b H1 hS1 => ?_
  obtain ⟨B1, hm1, hF, hS2⟩ := St.flz (l := [n, n / 2 ^ 8, n / 2 ^ 16, n / 2 ^ 24]) (f := u32) (cap := 4) hS1 (Nat.le_refl _)
  refine Ev.b2 (bytes_spec hF (by simp) (by simp) hS2) ?_
  rintro _ H2 ⟨rfl, B2, hm2, hS3⟩
  dsimp only at hS3
  exact Ev.ret ⟨rfl, B2, ⟨hm1.mo.trans hm2.mo⟩, hS3⟩
end
end Go.AM.E
namespace Go.AM.E
open Go Go.AM Go.Proofs
attribute [local irreducible] run bin un ld st box newV mkS fldA fld ixA ix slc slc3 build buildS cv cvS ap cpy lenV gOp pickV b2 aIf aChk evalK resume iterD Option.bind

theorem grow_eq (k : Nat) (a0 a1 : Value) (H : AH) : rn (k + 1) 112 [a0, a1] H = gGrow Tryz.prog BldT 5 [a0, a1] H := by kernel_rfl
theorem Grow_spec {H0 B0 B H : AH} {L : List (Nat × Blk)} {p n : Nat} {rest : List Value} {T : TypeId} (hT : T ∈ BldT) (hl : rest.length + 2 = szT Tryz.prog T) (hn0 : 0 < n) (hn : n ≤ 140737488355328) (hS : St H0 B0 B ((p, ⟨.pointer none :: .slice none 0 0 :: rest, T, .fix⟩) :: L) H) :
    Ev (fun k _ => rn k 112 [ptr p 0, i64 n] H) (fun r => r.1 = .tuple #[] ∧ ∃ b' B', MoC B B' ∧ BAcc 5 H0 B0 B' ((p, ⟨ptr p 0 :: sl b' 0 0 1 :: rest, T, .fix⟩) :: L) r.2 (sl b' 0 0 1) []) := by
  refine Ev.fn (fun k => grow_eq k _ _ H) ?_
  have hb := hS.get (.head _)
  obtain ⟨B', hm, hS'⟩ := hS.mkB [] 5 .buf
  have e : gGrow Tryz.prog BldT 5 [ptr p 0, i64 n] H = some (.tuple #[], put (mkB H [] 5 .buf) p ⟨.pointer none :: .slice none 0 0 :: rest, T, .fix⟩ (ptr p 0 :: sl H.length 0 0 1 :: rest)) := by
    show (blk H p).bind _ = _
    rw [hb]
    simp only [Option.bind_some]
    rw [if_pos ⟨⟨trivial, hT, by simpa using hl⟩, by omega, by omega⟩]
    rfl
  rw [e]
  exact Ev.ret ⟨rfl, H.length, B', ⟨hm⟩, .inr ⟨H.length, rfl, hS'.put (.tail _ (.head _))⟩⟩
theorem Len_spec {H0 B0 B H : AH} {L : List (Nat × Blk)} {p : Nat} {c0 v : Value} {rest : List Value} {T : TypeId} {ds : List Nat}
    (hA : BAcc 5 H0 B0 B ((p, ⟨c0 :: v :: rest, T, .fix⟩) :: L) H v ds) :
    Ev (fun k _ => rn k 113 [ptr p 0] H) (fun r => r = (i64 ds.length, H)) := by
  refine Ev.fn (fun k => f113_eq k _ H) ?_
  have hSt := hA.st
  have hcell := hA.cell
  have hlen := bacc_len (t := 95) hA
  repeat (first|refine zA ?_|refine zB fun _ _ _=>?_|refine zC fun _ _ _=>?_|refine zD fun _ _=>?_|refine zE ?_|refine zF ?_)
  refine Ev.prim hlen ?_
  exact Ev.ret rfl
section
variable {B B0 H0 H : AH} {L : List (Nat × Blk)}
theorem rep_u8 (n : Nat) : (List.replicate n (0 : UInt8)).map UInt8.toNat = List.replicate n 0 := by simp
theorem rep_loop {p n : Nat} (hn : n ≤ 1000000) : ∀ (m j : Nat) (B H : AH) (v : Value), n - j ≤ m → 1 ≤ j → j ≤ n → BAcc 5 H0 B0 B ((p, ⟨[ptr p 0, v], 129, .fix⟩) :: L) H v (List.replicate j 0) →
    Ev (fun k K => f101_L0 k (i64 n) (i64 n) (ptr p 0) K H) (fun o => ∃ B' H' v', o = (.exit 3, f101_X_L0 (ptr p 0), H') ∧ MoC B B' ∧ BAcc 5 H0 B0 B' ((p, ⟨[ptr p 0, v'], 129, .fix⟩) :: L) H' v' (List.replicate n 0)) := by
  have done : ∀ (B H : AH) (v : Value), BAcc 5 H0 B0 B ((p, ⟨[ptr p 0, v], 129, .fix⟩) :: L) H v (List.replicate n 0) →
      Ev (fun k K => f101_L0 k (i64 n) (i64 n) (ptr p 0) K H) (fun o => ∃ B' H' v', o = (.exit 3, f101_X_L0 (ptr p 0), H') ∧ MoC B B' ∧ BAcc 5 H0 B0 B' ((p, ⟨[ptr p 0, v'], 129, .fix⟩) :: L) H' v' (List.replicate n 0)) := by
    intro B H v hA
    refine Ev.succ (fun k K => f101_L0_succ k _ _ _ K H) ?_
    refine Ev.b2 (Len_spec hA) ?_
    rintro _ _ ⟨rfl, rfl⟩
    rw [List.length_replicate]
    repeat (first|refine zA ?_|refine zB fun _ _ _=>?_|refine zC fun _ _ _=>?_|refine zD fun _ _=>?_|refine zE ?_|refine zF ?_)
    rw [decide_eq_false (by omega)]
    repeat (first|refine zA ?_|refine zB fun _ _ _=>?_|refine zC fun _ _ _=>?_|refine zD fun _ _=>?_|refine zE ?_|refine zF ?_)
    exact Ev.ret ⟨B, H, v, rfl, ⟨Mo.refl B⟩, hA⟩
  intro m
  induction m with
  | zero =>
    intro j B H v hm hj hjn hA
    obtain rfl : j = n := by omega
    exact done B H v hA
  | succ m ih =>
    intro j B H v hm hj hjn hA
    by_cases hlt : j < n
    · refine Ev.succ (fun k K => f101_L0_succ k _ _ _ K H) ?_
      refine Ev.b2 (Len_spec hA) ?_
      rintro _ _ ⟨rfl, rfl⟩
      rw [List.length_replicate]
      repeat (first|refine zA ?_|refine zB fun _ _ _=>?_|refine zC fun _ _ _=>?_|refine zD fun _ _=>?_|refine zE ?_|refine zF ?_)
      rw [decide_eq_true hlt]
      repeat (first|refine zA ?_|refine zB fun _ _ _=>?_|refine zC fun _ _ _=>?_|refine zD fun _ _=>?_|refine zE ?_|refine zF ?_)
      refine Ev.b2 (Len_spec hA) ?_
      rintro _ _ ⟨rfl, rfl⟩
      rw [List.length_replicate]
      repeat (first|refine zA ?_|refine zB fun _ _ _=>?_|refine zC fun _ _ _=>?_|refine zD fun _ _=>?_|refine zE ?_|refine zF ?_)
      refine Ev.b2 (Len_spec hA) ?_
      rintro _ _ ⟨rfl, rfl⟩
      rw [List.length_replicate]
      refine Ev.prim (show fold1 minV [i64 (n - j), i64 j, i64 n] = some (i64 (min (min (n - j) j) n)) by
        show (minV (i64 (n - j)) (i64 j)).bind (fun a => fold1 minV [a, i64 n]) = _
        have h1 := min_i64 (a := n - j) (b := j)
        have h2 : fold1 minV [i64 (n - j), i64 j] = minV (i64 (n - j)) (i64 j) := by
          show (minV _ _).bind (fun a => some a) = _
          cases minV (i64 (n - j)) (i64 j) <;> simp
        rw [← h2, h1, Option.bind_some, min_i64]) ?_
      obtain ⟨c, hc⟩ : ∃ c, c = min (min (n - j) j) n := ⟨_, rfl⟩
      rw [← hc]
      refine Ev.b2 (String_same (by rw [List.length_replicate]; omega) (by intro h; have := congrArg List.length h; simp at this; omega) hA) ?_
      rintro _ _ ⟨rfl, rfl⟩
      rw [show (List.replicate j 0).map (fun n => UInt8.ofNat n) = List.replicate j 0 by simp]
      refine Ev.prim (slc_strT (l := List.replicate j 0) (i := c) (by rw [List.length_replicate]; omega)) ?_
      rw [List.take_replicate, Nat.min_eq_left (by omega)]
      refine Ev.b2 (WriteString_spec (l := List.replicate c 0) (rest := []) bldT_mem bld_sz (.inr rfl) (by rw [List.length_replicate, List.length_replicate]; omega) hA) ?_
      rintro _ H1 ⟨rfl, v1, B1, hm1, hA1⟩
      dsimp only at hA1
      rw [rep_u8, List.replicate_append_replicate] at hA1
      refine (ih (j + c) B1 H1 v1 (by omega) (by omega) (by omega) hA1).mono ?_
      rintro o ⟨B', H', v', h1, h2, h3⟩
      exact ⟨B', H', v', h1, ⟨hm1.mo.trans h2.mo⟩, h3⟩
    · obtain rfl : j = n := by omega
      exact done B H v hA
theorem andQ32 {t : TypeId} {a : Nat} : bin Tryz.prog .and t (u64 a) (.int .u64 4294967295) = some (u64 (a % 4294967296)) := by
  rw [show (4294967295 : Int) = ((4294967295 : Nat) : Int) from rfl, bin_and, BitVec.ofInt_natCast, BitVec.ofInt_natCast, BitVec.toNat_and, BitVec.toNat_ofNat, BitVec.toNat_ofNat]
  rw [show IntKind.u64.bits = 64 from rfl, show 4294967295 % 2 ^ 64 = 2 ^ 32 - 1 from rfl, Nat.and_two_pow_sub_one_eq_mod, wrapu64]
  congr 2
  omega
theorem Mul_spec {n : Nat} (hn : n ≤ 1000000) : Ev (fun k _ => rn k 110 [u64 1, u64 n] H) (fun r => r = (.tuple #[u64 0, u64 n], H)) := by
  refine Ev.fn (fun k => f110_eq k _ _ H) ?_
  have key : Ev (fun k _ => rn k 118 [u64 1, u64 n] H) (fun r => r = (.tuple #[u64 0, u64 n], H)) := by
    refine Ev.fn (fun k => f118_eq k _ _ H) ?_
    refine Ev.prim andQ32 ?_
    refine Ev.prim (shrN (a := 1) (b := 32) (by decide)) ?_
    refine Ev.prim andQ32 ?_
    refine Ev.prim (shrN (a := n) (b := 32) (by decide)) ?_
    rw [show 1 % 4294967296 = 1 from rfl, show 1 / 2 ^ 32 = 0 from rfl, Nat.mod_eq_of_lt (show n < 4294967296 by omega), show n / 2 ^ 32 = 0 by omega]
    refine Ev.prim (mulQ (by omega)) ?_
    refine Ev.prim (mulQ (by omega)) ?_
    rw [Nat.one_mul, Nat.zero_mul]
    refine Ev.prim (shrN (a := n) (b := 32) (by decide)) ?_
    rw [show n / 2 ^ 32 = 0 by omega]
    refine Ev.prim (addQ (by omega)) ?_
    refine Ev.prim andQ32 ?_
    refine Ev.prim (shrN (a := 0) (b := 32) (by decide)) ?_
    refine Ev.prim (mulQ (by omega)) ?_
    refine Ev.prim (addQ (by omega)) ?_
    refine Ev.prim (mulQ (by omega)) ?_
    refine Ev.prim (addQ (by omega)) ?_
    refine Ev.prim (shrN (b := 32) (by decide)) ?_
    refine Ev.prim (addQ (by omega)) ?_
    refine Ev.prim (mulQ (by omega)) ?_
    rw [Nat.one_mul]
    exact Ev.ret (by first | rfl | (rw [Nat.one_mul]))
  refine Ev.b2 key ?_
  rintro _ _ ⟨rfl, rfl⟩
  repeat (first|refine zA ?_|refine zB fun _ _ _=>?_|refine zC fun _ _ _=>?_|refine zD fun _ _=>?_|refine zE ?_|refine zF ?_)
  exact Ev.ret rfl
theorem Repeat_spec {n : Nat} (hn : n ≤ 8192) (hS : St H0 B0 B L H) :
    Ev (fun k _ => rn k 101 [str [0], i64 n] H) (fun r => r.1 = str (List.replicate n 0) ∧ ∃ B', MoC B B' ∧ St H0 B0 B' L r.2) := by
  refine Ev.fn (fun k => f101_eq k _ _ H) ?_
  repeat (first|refine zA ?_|refine zB fun _ _ _=>?_|refine zC fun _ _ _=>?_|refine zD fun _ _=>?_|refine zE ?_|refine zF ?_)
  by_cases h0 : n = 0
  · subst h0
    rw [decide_eq_true rfl]
    repeat (first|refine zA ?_|refine zB fun _ _ _=>?_|refine zC fun _ _ _=>?_|refine zD fun _ _=>?_|refine zE ?_|refine zF ?_)
    exact Ev.ret ⟨rfl, B, ⟨Mo.refl B⟩, hS⟩
  rw [decide_eq_false h0]
  repeat (first|refine zA ?_|refine zB fun _ _ _=>?_|refine zC fun _ _ _=>?_|refine zD fun _ _=>?_|refine zE ?_|refine zF ?_)
  by_cases h1 : n = 1
  · subst h1
    rw [decide_eq_true rfl]
    repeat (first|refine zA ?_|refine zB fun _ _ _=>?_|refine zC fun _ _ _=>?_|refine zD fun _ _=>?_|refine zE ?_|refine zF ?_)
    exact Ev.ret ⟨rfl, B, ⟨Mo.refl B⟩, hS⟩
  rw [decide_eq_false h1]
  repeat (first|refine zA ?_|refine zB fun _ _ _=>?_|refine zC fun _ _ _=>?_|refine zD fun _ _=>?_|refine zE ?_|refine zF ?_)
  rw [decide_eq_false (by omega)]
  repeat (first|refine zA ?_|refine zB fun _ _ _=>?_|refine zC fun _ _ _=>?_|refine zD fun _ _=>?_|refine zE ?_|refine zF ?_)
  refine Ev.eq (fun k _ => f101_J0_eq k _ _ H) ?_
  repeat (first|refine zA ?_|refine zB fun _ _ _=>?_|refine zC fun _ _ _=>?_|refine zD fun _ _=>?_|refine zE ?_|refine zF ?_)
  rw [show ([0] : List UInt8).length = 1 from rfl]
  repeat (first|refine zA ?_|refine zB fun _ _ _=>?_|refine zC fun _ _ _=>?_|refine zD fun _ _=>?_|refine zE ?_|refine zF ?_)
  refine Ev.b2 (Mul_spec (by omega)) ?_
  rintro _ _ ⟨rfl, rfl⟩
  repeat (first | (first|refine zA ?_|refine zB fun _ _ _=>?_|refine zC fun _ _ _=>?_|refine zD fun _ _=>?_|refine zE ?_|refine zF ?_) | rw [decide_eq_true (by omega)] | rw [decide_eq_false (by omega)])
  refine Ev.eq (fun k _ => f101_J1_eq k _ _ H) ?_
  repeat (first|refine zA ?_|refine zB fun _ _ _=>?_|refine zC fun _ _ _=>?_|refine zD fun _ _=>?_|refine zE ?_|refine zF ?_)
  rw [show ([0] : List UInt8).length = 1 from rfl]
  repeat (first | (first|refine zA ?_|refine zB fun _ _ _=>?_|refine zC fun _ _ _=>?_|refine zD fun _ _=>?_|refine zE ?_|refine zF ?_) | rw [decide_eq_true (by omega)] | rw [decide_eq_false (by omega)])
  refine Ev.prim (show ix Tryz.prog 9 (str [0]) (.int .i64 0) = some (u8 0) from ix_str (l := [0]) 0 rfl (by decide)) ?_
  repeat (first | (first|refine zA ?_|refine zB fun _ _ _=>?_|refine zC fun _ _ _=>?_|refine zD fun _ _=>?_|refine zE ?_|refine zF ?_) | rw [decide_eq_true (by omega)] | rw [decide_eq_false (by omega)])
  refine Ev.eq (fun k _ => f101_J2_eq k _ _ H) ?_
  repeat (first | (first|refine zA ?_|refine zB fun _ _ _=>?_|refine zC fun _ _ _=>?_|refine zD fun _ _=>?_|refine zE ?_|refine zF ?_) | rw [decide_eq_true (by omega)] | rw [decide_eq_false (by omega)])
  refine Ev.eq (fun k _ => f101_J3_eq k _ _ _ H) ?_
  refine Ev.newC fun p H1 hS1 => ?_
  clear hS
  refine Ev.b2 (Grow_spec (n := n) (rest := []) bldT_mem bld_sz (by omega) (by omega) hS1) ?_
  rintro _ H2 ⟨rfl, b2, B2, hm2, hA2⟩
  dsimp only at hA2
  refine Ev.b2 (WriteString_spec (l := [0]) (rest := []) bldT_mem bld_sz (.inr rfl) (by decide) hA2) ?_
  rintro _ H3 ⟨rfl, v3, B3, hm3, hA3⟩
  dsimp only at hA3
  refine Ev.bind (Ev.loop (rep_loop (by omega) n 1 B3 H3 v3 (by omega) (by omega) (by omega) hA3)) ?_
  rintro _ ⟨B4, H4, v4, rfl, hm4, hA4⟩
  refine Ev.eq (fun k _ => f101_A0_x3 k _ H4) ?_
  refine Ev.b2 (String_same (by rw [List.length_replicate]; omega) (by intro h; have := congrArg List.length h; simp at this; omega) hA4) ?_
  rintro _ _ ⟨rfl, rfl⟩
  refine Ev.ret ⟨?_, B4, ⟨hm2.mo.trans (hm3.mo.trans hm4.mo)⟩, hA4.st.drop1⟩
  dsimp only
  rw [show (List.replicate n 0).map (fun n => UInt8.ofNat n) = List.replicate n 0 by simp]
end
end Go.AM.E
namespace Go.AM.E
open Go Go.AM Go.Proofs
attribute [local irreducible] run bin un ld st box newV mkS fldA fld ixA ix slc slc3 build buildS cv cvS ap cpy lenV gOp pickV b2 aIf aChk evalK resume iterD Option.bind

section
variable {H : AH}
theorem right_loop : ∀ (m : Nat) (s : List UInt8), s.length = m → s.length < 9223372036854775808 →
    Ev (fun k n => f124_L0 k (str s) (u8 0) n H) (fun o => ∃ w : List UInt8, o = (.exit 0, f124_X_L0 (str w), H) ∧ w.length ≤ s.length ∧ ((∀ c ∈ s, c = 0) ↔ ∀ c ∈ w, c = 0)) := by
  intro m
  induction m with
  | zero =>
    intro s hs hl
    refine Ev.succ (fun k n => f124_L0_succ k _ _ n H) ?_
    repeat (first|refine zA ?_|refine zB fun _ _ _=>?_|refine zC fun _ _ _=>?_|refine zD fun _ _=>?_|refine zE ?_|refine zF ?_)
    rw [decide_eq_false (by omega)]
    repeat (first|refine zA ?_|refine zB fun _ _ _=>?_|refine zC fun _ _ _=>?_|refine zD fun _ _=>?_|refine zE ?_|refine zF ?_)
    exact Ev.ret ⟨s, rfl, Nat.le_refl _, Iff.rfl⟩
  | succ m ih =>
    intro s hs hl
    refine Ev.succ (fun k n => f124_L0_succ k _ _ n H) ?_
    repeat (first|refine zA ?_|refine zB fun _ _ _=>?_|refine zC fun _ _ _=>?_|refine zD fun _ _=>?_|refine zE ?_|refine zF ?_)
    rw [decide_eq_true (by omega)]
    repeat (first|refine zA ?_|refine zB fun _ _ _=>?_|refine zC fun _ _ _=>?_|refine zD fun _ _=>?_|refine zE ?_|refine zF ?_)
    refine Ev.gPrim (ix_str (s.length - 1) rfl (by omega)) rfl ?_
    repeat (first|refine zA ?_|refine zB fun _ _ _=>?_|refine zC fun _ _ _=>?_|refine zD fun _ _=>?_|refine zE ?_|refine zF ?_)
    by_cases h0 : (s.getD (s.length - 1) 0).toNat = 0
    · rw [decide_eq_true h0]
      repeat (first|refine zA ?_|refine zB fun _ _ _=>?_|refine zC fun _ _ _=>?_|refine zD fun _ _=>?_|refine zE ?_|refine zF ?_)
      refine Ev.prim (slc_strT (l := s) (i := s.length - 1) (by omega)) ?_
      refine (ih (s.take (s.length - 1)) (by rw [List.length_take]; omega) (by rw [List.length_take]; omega)).mono ?_
      rintro o ⟨w, h1, h2, h3⟩
      refine ⟨w, h1, by rw [List.length_take] at h2; omega, Iff.trans ?_ h3⟩
      have e : s = s.take (s.length - 1) ++ [s.getD (s.length - 1) 0] := by
        conv => lhs; rw [← List.take_append_drop (s.length - 1) s]
        rw [drop_getD (by omega), List.drop_of_length_le (by omega)]
      have h00 : s.getD (s.length - 1) 0 = 0 := UInt8.toNat_inj.1 h0
      rw [h00] at e
      constructor
      · intro h c hc
        exact h c (List.mem_of_mem_take hc)
      · intro h c hc
        rw [e] at hc
        rcases List.mem_append.1 hc with hc | hc
        · exact h c hc
        · simpa using hc
    · rw [decide_eq_false h0]
      repeat (first|refine zA ?_|refine zB fun _ _ _=>?_|refine zC fun _ _ _=>?_|refine zD fun _ _=>?_|refine zE ?_|refine zF ?_)
      exact Ev.ret ⟨s, rfl, Nat.le_refl _, Iff.rfl⟩
theorem left_loop : ∀ (m : Nat) (s : List UInt8), s.length = m → s.length < 9223372036854775808 →
    Ev (fun k n => f123_L0 k (str s) (u8 0) n H) (fun o => ∃ w : List UInt8, o = (.exit 0, f123_X_L0 (str w), H) ∧ ((∀ c ∈ s, c = 0) ↔ w = [])) := by
  intro m
  induction m with
  | zero =>
    intro s hs hl
    refine Ev.succ (fun k n => f123_L0_succ k _ _ n H) ?_
    repeat (first|refine zA ?_|refine zB fun _ _ _=>?_|refine zC fun _ _ _=>?_|refine zD fun _ _=>?_|refine zE ?_|refine zF ?_)
    rw [decide_eq_false (by omega)]
    repeat (first|refine zA ?_|refine zB fun _ _ _=>?_|refine zC fun _ _ _=>?_|refine zD fun _ _=>?_|refine zE ?_|refine zF ?_)
    obtain rfl := List.length_eq_zero_iff.1 hs
    exact Ev.ret ⟨[], rfl, by simp⟩
  | succ m ih =>
    intro s hs hl
    refine Ev.succ (fun k n => f123_L0_succ k _ _ n H) ?_
    repeat (first|refine zA ?_|refine zB fun _ _ _=>?_|refine zC fun _ _ _=>?_|refine zD fun _ _=>?_|refine zE ?_|refine zF ?_)
    rw [decide_eq_true (by omega)]
    repeat (first|refine zA ?_|refine zB fun _ _ _=>?_|refine zC fun _ _ _=>?_|refine zD fun _ _=>?_|refine zE ?_|refine zF ?_)
    match s, hs, hl with
    | c :: r, hs, hl =>
      refine Ev.gPrim (show ix Tryz.prog 9 (str (c :: r)) (.int .i64 0) = some (u8 c.toNat) from ix_str (l := c :: r) 0 rfl (by simp)) rfl ?_
      repeat (first|refine zA ?_|refine zB fun _ _ _=>?_|refine zC fun _ _ _=>?_|refine zD fun _ _=>?_|refine zE ?_|refine zF ?_)
      by_cases h0 : c.toNat = 0
      · rw [decide_eq_true h0]
        repeat (first|refine zA ?_|refine zB fun _ _ _=>?_|refine zC fun _ _ _=>?_|refine zD fun _ _=>?_|refine zE ?_|refine zF ?_)
        refine Ev.prim (show slc Tryz.prog 9 (str (c :: r)) (some (.int .i64 1)) none = some (str r) from slc_str (l := c :: r) 1 rfl (by simp)) ?_
        simp only [List.length_cons] at hs hl
        refine (ih r (by omega) (by omega)).mono ?_
        rintro o ⟨w, h1, h3⟩
        refine ⟨w, h1, Iff.trans ?_ h3⟩
        have h00 : c = 0 := UInt8.toNat_inj.1 h0
        subst h00
        simp
      · rw [decide_eq_false h0]
        repeat (first|refine zA ?_|refine zB fun _ _ _=>?_|refine zC fun _ _ _=>?_|refine zD fun _ _=>?_|refine zE ?_|refine zF ?_)
        refine Ev.ret ⟨c :: r, rfl, ?_⟩
        constructor
        · intro h
          exact absurd (by rw [h c (.head _)]; rfl) h0
        · intro h; cases h
theorem Trim_spec {s : List UInt8} (hl : s.length < 9223372036854775808) : Ev (fun k _ => rn k 121 [str s, str [0]] H) (fun r => ∃ w, r = (str w, H) ∧ ((∀ c ∈ s, c = 0) ↔ w = [])) := by
  refine Ev.fn (fun k => f121_eq k _ _ H) ?_
  by_cases hs : s = []
  · subst hs
    refine Ev.prim (show bin Tryz.prog .eql 9 (str []) (.string ⟨#[]⟩) = some (.bool true) from eql_str.trans (by simp)) ?_
    repeat (first|refine zA ?_|refine zB fun _ _ _=>?_|refine zC fun _ _ _=>?_|refine zD fun _ _=>?_|refine zE ?_|refine zF ?_)
    exact Ev.ret ⟨[], rfl, by simp⟩
  · refine Ev.prim (show bin Tryz.prog .eql 9 (str s) (.string ⟨#[]⟩) = some (.bool false) from (eql_str (b := [])).trans (by simp [hs])) ?_
    repeat (first|refine zA ?_|refine zB fun _ _ _=>?_|refine zC fun _ _ _=>?_|refine zD fun _ _=>?_|refine zE ?_|refine zF ?_)
    rw [decide_eq_false (by simp)]
    repeat (first | (first|refine zA ?_|refine zB fun _ _ _=>?_|refine zC fun _ _ _=>?_|refine zD fun _ _=>?_|refine zE ?_|refine zF ?_) | rw [decide_eq_true (by omega)] | rw [decide_eq_false (by omega)])
    refine Ev.gPrim (show ix Tryz.prog 9 (str [0]) (.int .i64 0) = some (u8 0) from ix_str (l := [0]) 0 rfl (by decide)) rfl ?_
    repeat (first | (first|refine zA ?_|refine zB fun _ _ _=>?_|refine zC fun _ _ _=>?_|refine zD fun _ _=>?_|refine zE ?_|refine zF ?_) | rw [decide_eq_true (by omega)] | rw [decide_eq_false (by omega)])
    refine Ev.prim (show ix Tryz.prog 9 (str [0]) (.int .i64 0) = some (u8 0) from ix_str (l := [0]) 0 rfl (by decide)) ?_
    have h1 : Ev (fun k _ => rn k 124 [str s, u8 0] H) (fun r => ∃ w : List UInt8, r = (str w, H) ∧ w.length ≤ s.length ∧ ((∀ c ∈ s, c = 0) ↔ ∀ c ∈ w, c = 0)) := by
      refine Ev.fn (fun k => f124_eq k _ _ H) ?_
      refine Ev.bind (Ev.loop (right_loop _ s rfl hl)) ?_
      rintro _ ⟨w, rfl, h⟩
      refine Ev.eq (fun k _ => f124_A0_x0 k _ H) ?_
      exact Ev.ret ⟨w, rfl, h⟩
    refine Ev.b2 h1 ?_
    rintro _ _ ⟨w, ⟨rfl, rfl⟩, h2, h3⟩
    refine Ev.prim (show ix Tryz.prog 9 (str [0]) (.int .i64 0) = some (u8 0) from ix_str (l := [0]) 0 rfl (by decide)) ?_
    have h4 : Ev (fun k _ => rn k 123 [str w, u8 0] H) (fun r => ∃ w2 : List UInt8, r = (str w2, H) ∧ ((∀ c ∈ w, c = 0) ↔ w2 = [])) := by
      refine Ev.fn (fun k => f123_eq k _ _ H) ?_
      refine Ev.bind (Ev.loop (left_loop _ w rfl (by omega))) ?_
      rintro _ ⟨w2, rfl, h⟩
      refine Ev.eq (fun k _ => f123_A0_x0 k _ H) ?_
      exact Ev.ret ⟨w2, rfl, h⟩
    refine Ev.b2 h4 ?_
    rintro _ _ ⟨w2, ⟨rfl, rfl⟩, h5⟩
    exact Ev.ret ⟨w2, rfl, h3.trans h5⟩
theorem HasPrefix_spec {s p : List UInt8} (hl : s.length < 9223372036854775808) (hp : p.length ≤ s.length) : Ev (fun k _ => rn k 111 [str s, str p] H) (fun r => r = (.bool (decide (s.take p.length = p)), H)) := by
  refine Ev.fn (fun k => f111_eq k _ _ H) ?_
  have key : Ev (fun k _ => rn k 119 [str s, str p] H) (fun r => r = (.bool (decide (s.take p.length = p)), H)) := by
    refine Ev.fn (fun k => f119_eq k _ _ H) ?_
    repeat (first|refine zA ?_|refine zB fun _ _ _=>?_|refine zC fun _ _ _=>?_|refine zD fun _ _=>?_|refine zE ?_|refine zF ?_)
    rw [decide_eq_true (by omega)]
    repeat (first|refine zA ?_|refine zB fun _ _ _=>?_|refine zC fun _ _ _=>?_|refine zD fun _ _=>?_|refine zE ?_|refine zF ?_)
    refine Ev.gPrim (slc_strT (l := s) (i := p.length) (by omega)) rfl ?_
    repeat (first|refine zA ?_|refine zB fun _ _ _=>?_|refine zC fun _ _ _=>?_|refine zD fun _ _=>?_|refine zE ?_|refine zF ?_)
    exact Ev.ret rfl
  refine Ev.b2 key ?_
  rintro _ _ ⟨rfl, rfl⟩
  exact Ev.ret rfl
end
end Go.AM.E
namespace Go.AM.E
open Go Go.AM Go.Proofs
attribute [local irreducible] run bin un ld st box newV mkS fldA fld ixA ix slc slc3 build buildS cv cvS ap cpy lenV gOp pickV b2 aIf aChk evalK resume iterD Option.bind

section
variable {B B0 H0 H : AH} {L : List (Nat × Blk)}
def SealV (p : List UInt8 × Int) : Value := .tuple #[str p.1, .int .i64 p.2]
theorem le4_len (n : Nat) : (le4 n).length = 4 := rfl
theorem byts_two (a b : Nat) : [u8 (a % 256), u8 (b % 256)] = byts [UInt8.ofNat a, UInt8.ofNat b] := by
  show _ = [Value.int .u8 ((UInt8.ofNat a).toNat : Int), Value.int .u8 ((UInt8.ofNat b).toNat : Int)]
  rw [UInt8.toNat_ofNat', UInt8.toNat_ofNat']
theorem byts_four (n : Nat) : [u8 (n % 256), u8 (n / 2 ^ 8 % 256), u8 (n / 2 ^ 16 % 256), u8 (n / 2 ^ 24 % 256)] = byts (le4 n) := by
  show _ = [Value.int .u8 ((UInt8.ofNat n).toNat : Int), Value.int .u8 ((UInt8.ofNat (n / 256)).toNat : Int), Value.int .u8 ((UInt8.ofNat (n / 65536)).toNat : Int), Value.int .u8 ((UInt8.ofNat (n / 16777216)).toNat : Int)]
  rw [UInt8.toNat_ofNat', UInt8.toNat_ofNat', UInt8.toNat_ofNat', UInt8.toNat_ofNat']
theorem Seal_spec {kind : Int} {t : List UInt8} (ht : t.length < 9223372036854775808) (hk : -9223372036854775808 ≤ kind ∧ kind < 9223372036854775808) (hS : St H0 B0 B L H) :
    Ev (fun k _ => rn k 82 [.int .i64 kind, str t] H) (fun r => r.1 = SealV (sealR kind t) ∧ ∃ B', MoC B B' ∧ St H0 B0 B' L r.2) := by
  refine Ev.fn (fun k => f82_eq k _ _ H) ?_
  unfold sealR
  by_cases h1 : kind < 1
  · rw [if_pos (.inl h1)]
    repeat (first | (first|refine zA ?_|refine zB fun _ _ _=>?_|refine zC fun _ _ _=>?_|refine zD fun _ _=>?_|refine zE ?_|refine zF ?_) | rw [decide_eq_true (by omega)] | rw [decide_eq_false (by omega)])
    exact Ev.ret ⟨rfl, B, ⟨Mo.refl B⟩, hS⟩
  by_cases h2 : kind > 9
  · rw [if_pos (.inr (.inl h2))]
    repeat (first | (first|refine zA ?_|refine zB fun _ _ _=>?_|refine zC fun _ _ _=>?_|refine zD fun _ _=>?_|refine zE ?_|refine zF ?_) | rw [decide_eq_true (by omega)] | rw [decide_eq_false (by omega)])
    exact Ev.ret ⟨rfl, B, ⟨Mo.refl B⟩, hS⟩
  by_cases h3 : t.length > 120
  · rw [if_pos (.inr (.inr h3))]
    repeat (first | (first|refine zA ?_|refine zB fun _ _ _=>?_|refine zC fun _ _ _=>?_|refine zD fun _ _=>?_|refine zE ?_|refine zF ?_) | rw [decide_eq_true (by omega)] | rw [decide_eq_false (by omega)])
    exact Ev.ret ⟨rfl, B, ⟨Mo.refl B⟩, hS⟩
  rw [if_neg (by omega)]
  obtain ⟨n, rfl⟩ : ∃ n : Nat, kind = n := ⟨kind.toNat, by omega⟩
  rw [Int.toNat_natCast]
  repeat (first | (first|refine zA ?_|refine zB fun _ _ _=>?_|refine zC fun _ _ _=>?_|refine zD fun _ _=>?_|refine zE ?_|refine zF ?_) | rw [decide_eq_true (by omega)] | rw [decide_eq_false (by omega)])
  rw [Nat.mod_eq_of_lt (show n < 4294967296 by omega), Nat.mod_eq_of_lt (show t.length < 4294967296 by omega)]
  refine Ev.bsC (P := Tryz.prog) (t := 180) (hS := hS) (by decide) fun b H1 hS1 => ?_
  obtain ⟨B1, hm1, hF, hS2⟩ := St.flz (l := [n, t.length]) (f := u32) (cap := 2) hS1 (Nat.le_refl _)
  clear hS hS1
  refine Ev.b2 (bytes_spec hF (by simp) (by simp) hS2) ?_
  rintro _ H2 ⟨rfl, B2, hm2, hS3⟩
  dsimp only at hS3
  clear hS2
  refine Ev.prim (add_str (a := [65, 83]) (b := [n, t.length].map UInt8.ofNat) (by simp)) ?_
  refine Ev.prim (add_str (a := [65, 83] ++ [n, t.length].map UInt8.ofNat) (b := t) (by simp; omega)) ?_
  obtain ⟨hd, hhd⟩ : ∃ hd : List UInt8, hd = [65, 83] ++ [n, t.length].map UInt8.ofNat ++ t := ⟨_, rfl⟩
  have hdl : hd.length = 4 + t.length := by rw [hhd, List.length_append]; rfl
  rw [← hhd]
  repeat (first|refine zA ?_|refine zB fun _ _ _=>?_|refine zC fun _ _ _=>?_|refine zD fun _ _=>?_|refine zE ?_|refine zF ?_)
  rw [hdl]
  rw [show 124 - (4 + t.length) = 120 - t.length by omega]
  refine Ev.b2 (Repeat_spec (n := 120 - t.length) (by omega) hS3) ?_
  rintro _ H3 ⟨rfl, B3, hm3, hS4⟩
  dsimp only at hS4
  clear hS3
  refine Ev.prim (add_str (a := hd) (b := List.replicate (120 - t.length) 0) (by rw [List.length_replicate]; omega)) ?_
  have hb : hd ++ List.replicate (120 - t.length) 0 = bodyL n t := by rw [hhd]; rfl
  have hbl := body_len (k := n) (t := t) (by omega)
  rw [hb]
  refine Ev.b2 (psum_spec (by rw [hbl]; decide) hS4) ?_
  rintro _ H4 ⟨rfl, B4, hm4, hS5⟩
  dsimp only at hS5
  refine Ev.prim (add_str (a := bodyL n t) (b := le4 (crc (bodyL n t))) (by rw [hbl, le4_len]; decide)) ?_
  exact Ev.ret ⟨rfl, B4, ⟨hm1.mo.trans (hm2.mo.trans (hm3.mo.trans hm4.mo))⟩, hS5⟩
def OpenV (p : Int × List UInt8 × Int) : Value := .tuple #[.int .i64 p.1, str p.2.1, .int .i64 p.2.2]
theorem Open_spec {b : List UInt8} (hl : b.length < 9223372036854775808) (hS : St H0 B0 B L H) :
    Ev (fun k _ => rn k 115 [str b] H) (fun r => r.1 = OpenV (openR b) ∧ ∃ B', MoC B B' ∧ St H0 B0 B' L r.2) := by
  refine Ev.fn (fun k => f115_eq k _ H) ?_
  unfold openR
  repeat (first|refine zA ?_|refine zB fun _ _ _=>?_|refine zC fun _ _ _=>?_|refine zD fun _ _=>?_|refine zE ?_|refine zF ?_)
  by_cases h1 : b.length = 128
  case neg =>
    rw [if_pos h1, decide_eq_true h1]
    repeat (first|refine zA ?_|refine zB fun _ _ _=>?_|refine zC fun _ _ _=>?_|refine zD fun _ _=>?_|refine zE ?_|refine zF ?_)
    exact Ev.ret ⟨rfl, B, ⟨Mo.refl B⟩, hS⟩
  rw [if_neg (by omega), decide_eq_false (by omega)]
  repeat (first|refine zA ?_|refine zB fun _ _ _=>?_|refine zC fun _ _ _=>?_|refine zD fun _ _=>?_|refine zE ?_|refine zF ?_)
  refine Ev.prim (show slc Tryz.prog 9 (str b) none (some (.int .i64 124)) = some (str (b.take 124)) from slc_strT (l := b) (i := 124) (by omega)) ?_
  refine Ev.prim (show ix Tryz.prog 9 (str b) (.int .i64 3) = some (u8 (b.getD 3 0).toNat) from ix_str 3 rfl (by omega)) ?_
  have hn3 := u8_lt (b.getD 3 0)
  have hn2 := u8_lt (b.getD 2 0)
  repeat (first|refine zA ?_|refine zB fun _ _ _=>?_|refine zC fun _ _ _=>?_|refine zD fun _ _=>?_|refine zE ?_|refine zF ?_)
  refine Ev.b2 (psum_spec (by rw [List.length_take]; omega) hS) ?_
  rintro _ H1 ⟨rfl, B1, hm1, hS1⟩
  dsimp only at hS1
  clear hS
  refine Ev.prim (show slc Tryz.prog 9 (str b) (some (.int .i64 124)) none = some (str (b.drop 124)) from slc_str (l := b) 124 rfl (by omega)) ?_
  repeat (first|refine zA ?_|refine zB fun _ _ _=>?_|refine zC fun _ _ _=>?_|refine zD fun _ _=>?_|refine zE ?_|refine zF ?_)
  by_cases h2 : le4 (crc (b.take 124)) = b.drop 124
  case neg =>
    rw [if_pos h2, decide_eq_true h2]
    repeat (first|refine zA ?_|refine zB fun _ _ _=>?_|refine zC fun _ _ _=>?_|refine zD fun _ _=>?_|refine zE ?_|refine zF ?_)
    exact Ev.ret ⟨rfl, B1, hm1, hS1⟩
  rw [if_neg (by simpa using h2), decide_eq_false (by simpa using h2)]
  repeat (first|refine zA ?_|refine zB fun _ _ _=>?_|refine zC fun _ _ _=>?_|refine zD fun _ _=>?_|refine zE ?_|refine zF ?_)
  refine Ev.b2 (HasPrefix_spec (s := b) (p := [65, 83]) (by omega) (by rw [h1]; decide)) ?_
  rintro _ _ ⟨rfl, rfl⟩
  rw [show ([65, 83] : List UInt8).length = 2 from rfl]
  have bad : ¬ Body b → Ev (fun _ _ => some (Value.tuple #[.int .i64 0, .string ⟨#[]⟩, .int .i64 2], H1)) (fun r => r.1 = OpenV (if Body b then (((b.getD 2 0).toNat : Int), (b.drop 4).take (b.getD 3 0).toNat, 0) else (0, [], 2)) ∧ ∃ B', MoC B B' ∧ St H0 B0 B' L r.2) := by
    intro h
    rw [if_neg h]
    exact Ev.ret ⟨rfl, B1, hm1, hS1⟩
  by_cases h3 : b.take 2 = [65, 83]
  case neg =>
    rw [decide_eq_false h3]
    repeat (first|refine zA ?_|refine zB fun _ _ _=>?_|refine zC fun _ _ _=>?_|refine zD fun _ _=>?_|refine zE ?_|refine zF ?_)
    exact bad fun h => h3 h.1
  rw [decide_eq_true h3]
  repeat (first|refine zA ?_|refine zB fun _ _ _=>?_|refine zC fun _ _ _=>?_|refine zD fun _ _=>?_|refine zE ?_|refine zF ?_)
  refine Ev.gPrim (show ix Tryz.prog 9 (str b) (.int .i64 2) = some (u8 (b.getD 2 0).toNat) from ix_str 2 rfl (by omega)) rfl ?_
  repeat (first|refine zA ?_|refine zB fun _ _ _=>?_|refine zC fun _ _ _=>?_|refine zD fun _ _=>?_|refine zE ?_|refine zF ?_)
  by_cases h4 : 1 ≤ (b.getD 2 0).toNat
  case neg =>
    repeat (first | (first|refine zA ?_|refine zB fun _ _ _=>?_|refine zC fun _ _ _=>?_|refine zD fun _ _=>?_|refine zE ?_|refine zF ?_) | rw [decide_eq_true (by omega)] | rw [decide_eq_false (by omega)])
    exact bad fun h => h4 h.2.1
  rw [decide_eq_false (by omega)]
  repeat (first|refine zA ?_|refine zB fun _ _ _=>?_|refine zC fun _ _ _=>?_|refine zD fun _ _=>?_|refine zE ?_|refine zF ?_)
  refine Ev.gPrim (show ix Tryz.prog 9 (str b) (.int .i64 2) = some (u8 (b.getD 2 0).toNat) from ix_str 2 rfl (by omega)) rfl ?_
  repeat (first|refine zA ?_|refine zB fun _ _ _=>?_|refine zC fun _ _ _=>?_|refine zD fun _ _=>?_|refine zE ?_|refine zF ?_)
  by_cases h5 : (b.getD 2 0).toNat ≤ 9
  case neg =>
    repeat (first | (first|refine zA ?_|refine zB fun _ _ _=>?_|refine zC fun _ _ _=>?_|refine zD fun _ _=>?_|refine zE ?_|refine zF ?_) | rw [decide_eq_true (by omega)] | rw [decide_eq_false (by omega)])
    exact bad fun h => h5 h.2.2.1
  rw [decide_eq_false (by omega)]
  repeat (first|refine zA ?_|refine zB fun _ _ _=>?_|refine zC fun _ _ _=>?_|refine zD fun _ _=>?_|refine zE ?_|refine zF ?_)
  by_cases h6 : (b.getD 3 0).toNat ≤ 120
  case neg =>
    repeat (first | (first|refine zA ?_|refine zB fun _ _ _=>?_|refine zC fun _ _ _=>?_|refine zD fun _ _=>?_|refine zE ?_|refine zF ?_) | rw [decide_eq_true (by omega)] | rw [decide_eq_false (by omega)])
    exact bad fun h => h6 h.2.2.2.1
  repeat (first | (first|refine zA ?_|refine zB fun _ _ _=>?_|refine zC fun _ _ _=>?_|refine zD fun _ _=>?_|refine zE ?_|refine zF ?_) | rw [decide_eq_true (by omega)] | rw [decide_eq_false (by omega)])
  generalize hn : (b.getD 3 0).toNat = n at *
  refine Ev.gPrim (slc_str (l := b.take 124) (4 + n) rfl (by rw [List.length_take]; omega)) rfl ?_
  repeat (first | (first|refine zA ?_|refine zB fun _ _ _=>?_|refine zC fun _ _ _=>?_|refine zD fun _ _=>?_|refine zE ?_|refine zF ?_) | rw [decide_eq_true (by omega)] | rw [decide_eq_false (by omega)])
  refine Ev.b2 (Trim_spec (s := (b.take 124).drop (4 + n)) (by rw [List.length_drop, List.length_take]; omega)) ?_
  rintro _ _ ⟨w, ⟨rfl, rfl⟩, hw⟩
  repeat (first|refine zA ?_|refine zB fun _ _ _=>?_|refine zC fun _ _ _=>?_|refine zD fun _ _=>?_|refine zE ?_|refine zF ?_)
  by_cases h7 : w = []
  case neg =>
    rw [decide_eq_true h7]
    repeat (first | (first|refine zA ?_|refine zB fun _ _ _=>?_|refine zC fun _ _ _=>?_|refine zD fun _ _=>?_|refine zE ?_|refine zF ?_) | rw [decide_eq_true (by omega)] | rw [decide_eq_false (by omega)])
    exact bad fun h => h7 (hw.1 (by have := h.2.2.2.2; rwa [hn] at this))
  rw [decide_eq_false (by simpa using h7)]
  have hB : Body b := ⟨h3, h4, h5, by rw [hn]; exact h6, by rw [hn]; exact hw.2 h7⟩
  repeat (first|refine zA ?_|refine zB fun _ _ _=>?_|refine zC fun _ _ _=>?_|refine zD fun _ _=>?_|refine zE ?_|refine zF ?_)
  refine Ev.prim (show ix Tryz.prog 9 (str b) (.int .i64 2) = some (u8 (b.getD 2 0).toNat) from ix_str 2 rfl (by omega)) ?_
  repeat (first|refine zA ?_|refine zB fun _ _ _=>?_|refine zC fun _ _ _=>?_|refine zD fun _ _=>?_|refine zE ?_|refine zF ?_)
  refine Ev.prim (slc_str2 (l := b.take 124) 4 (4 + n) rfl rfl (by omega) (by rw [List.length_take]; omega)) ?_
  rw [if_pos hB]
  refine Ev.ret ⟨?_, B1, hm1, hS1⟩
  show Value.tuple #[_, str _, _] = OpenV _
  rw [List.drop_take, List.take_take, show min (4 + n - 4) (124 - 4) = n by omega]
  rfl
theorem rSeal_spec {kind : Int} {t : List UInt8} (ht : t.length < 9223372036854775808) (hk : -9223372036854775808 ≤ kind ∧ kind < 9223372036854775808) (hS : St H0 B0 B L H) :
    Ev (fun k _ => rn k 84 [.int .i64 kind, str t] H) (fun r => r.1 = .tuple #[str (sealR kind t).1, .bool (decide ((sealR kind t).2 = 0))] ∧ ∃ B', MoC B B' ∧ St H0 B0 B' L r.2) := by
  refine Ev.fn (fun k => f84_eq k _ _ H) ?_
  unfold sealR
  by_cases h1 : kind < 1
  · rw [if_pos (.inl h1)]
    repeat (first | (first|refine zA ?_|refine zB fun _ _ _=>?_|refine zC fun _ _ _=>?_|refine zD fun _ _=>?_|refine zE ?_|refine zF ?_) | rw [decide_eq_true (by omega)] | rw [decide_eq_false (by omega)])
    exact Ev.ret ⟨rfl, B, ⟨Mo.refl B⟩, hS⟩
  by_cases h2 : kind > 9
  · rw [if_pos (.inr (.inl h2))]
    repeat (first | (first|refine zA ?_|refine zB fun _ _ _=>?_|refine zC fun _ _ _=>?_|refine zD fun _ _=>?_|refine zE ?_|refine zF ?_) | rw [decide_eq_true (by omega)] | rw [decide_eq_false (by omega)])
    exact Ev.ret ⟨rfl, B, ⟨Mo.refl B⟩, hS⟩
  by_cases h3 : t.length > 120
  · rw [if_pos (.inr (.inr h3))]
    repeat (first | (first|refine zA ?_|refine zB fun _ _ _=>?_|refine zC fun _ _ _=>?_|refine zD fun _ _=>?_|refine zE ?_|refine zF ?_) | rw [decide_eq_true (by omega)] | rw [decide_eq_false (by omega)])
    exact Ev.ret ⟨rfl, B, ⟨Mo.refl B⟩, hS⟩
  rw [if_neg (by omega)]
  obtain ⟨n, rfl⟩ : ∃ n : Nat, kind = n := ⟨kind.toNat, by omega⟩
  rw [Int.toNat_natCast]
  repeat (first | (first|refine zA ?_|refine zB fun _ _ _=>?_|refine zC fun _ _ _=>?_|refine zD fun _ _=>?_|refine zE ?_|refine zF ?_) | rw [decide_eq_true (by omega)] | rw [decide_eq_false (by omega)])
  refine Ev.bsC (P := Tryz.prog) (t := 95) (hS := hS) (by decide) fun b H1 hS1 => ?_
  rw [byts_two] at hS1
  refine Ev.prim (cvS_part (d := 9) (bs := [UInt8.ofNat n, UInt8.ofNat t.length]) hS1 (.head _) (Nat.le_refl _) (by simp)) ?_
  rw [List.drop_zero, List.take_of_length_le (by simp)]
  have hS2 := hS1.drop1
  clear hS hS1
  refine Ev.prim (add_str (a := [65, 83]) (b := [UInt8.ofNat n, UInt8.ofNat t.length]) (by simp)) ?_
  refine Ev.prim (add_str (a := [65, 83] ++ [UInt8.ofNat n, UInt8.ofNat t.length]) (b := t) (by simp; omega)) ?_
  obtain ⟨hd, hhd⟩ : ∃ hd : List UInt8, hd = [65, 83] ++ [UInt8.ofNat n, UInt8.ofNat t.length] ++ t := ⟨_, rfl⟩
  have hdl : hd.length = 4 + t.length := by rw [hhd, List.length_append]; rfl
  rw [← hhd]
  repeat (first|refine zA ?_|refine zB fun _ _ _=>?_|refine zC fun _ _ _=>?_|refine zD fun _ _=>?_|refine zE ?_|refine zF ?_)
  rw [hdl]
  repeat (first|refine zA ?_|refine zB fun _ _ _=>?_|refine zC fun _ _ _=>?_|refine zD fun _ _=>?_|refine zE ?_|refine zF ?_)
  rw [show 124 - (4 + t.length) = 120 - t.length by omega]
  have hE : Elt Tryz.prog 95 5 (.int .u8 0) 1 := inferInstance
  refine Ev.mkS (m := 120 - t.length) hE hS2 (by omega) (by omega) fun b2 B3 H3 hm3 hS3 => ?_
  refine Ev.prim (cvS_part (d := 9) (bs := List.replicate (120 - t.length) 0) (by rw [byts_rep]; exact hS3) (.head _) (Nat.le_refl _) (by rw [List.length_replicate]; omega)) ?_
  rw [List.drop_zero, List.take_of_length_le (by rw [List.length_replicate]; exact Nat.le_refl _)]
  refine Ev.prim (add_str (a := hd) (b := List.replicate (120 - t.length) 0) (by rw [List.length_replicate]; omega)) ?_
  have hb : hd ++ List.replicate (120 - t.length) 0 = bodyL n t := by rw [hhd]; rfl
  have hbl := body_len (k := n) (t := t) (by omega)
  rw [hb]
  refine Ev.b2 (rSum_spec (by rw [hbl]; decide)) ?_
  rintro _ _ ⟨rfl, rfl⟩
  have hS4 := hS3.drop1
  clear hS3 hS2
  have fin : Ev (fun k n_1 => (cv Tryz.prog 171 5 (u32 (crc (bodyL n t)))).bind fun v22 => some (v22, v22)) (fun _ => True) := by
    repeat (first|refine zA ?_|refine zB fun _ _ _=>?_|refine zC fun _ _ _=>?_|refine zD fun _ _=>?_|refine zE ?_|refine zF ?_)
    exact Ev.ret trivial
  obtain ⟨c, hc⟩ : ∃ c, c = crc (bodyL n t) := ⟨_, rfl⟩
  rw [← hc]
  repeat (first|refine zA ?_|refine zB fun _ _ _=>?_|refine zC fun _ _ _=>?_|refine zD fun _ _=>?_|refine zE ?_|refine zF ?_)
  refine Ev.prim (shrN (a := c) (b := 8) (by decide)) ?_
  repeat (first|refine zA ?_|refine zB fun _ _ _=>?_|refine zC fun _ _ _=>?_|refine zD fun _ _=>?_|refine zE ?_|refine zF ?_)
  refine Ev.prim (shrN (a := c) (b := 16) (by decide)) ?_
  repeat (first|refine zA ?_|refine zB fun _ _ _=>?_|refine zC fun _ _ _=>?_|refine zD fun _ _=>?_|refine zE ?_|refine zF ?_)
  refine Ev.prim (shrN (a := c) (b := 24) (by decide)) ?_
  repeat (first|refine zA ?_|refine zB fun _ _ _=>?_|refine zC fun _ _ _=>?_|refine zD fun _ _=>?_|refine zE ?_|refine zF ?_)
  refine Ev.bsC (P := Tryz.prog) (t := 95) (hS := hS4) (by decide) fun b3 H5 hS5 => ?_
  rw [byts_four] at hS5
  refine Ev.prim (cvS_part (d := 9) (bs := le4 c) hS5 (.head _) (Nat.le_refl _) (by rw [le4_len]; decide)) ?_
  rw [List.drop_zero, List.take_of_length_le (by rw [le4_len]; decide)]
  refine Ev.prim (add_str (a := bodyL n t) (b := le4 c) (by rw [hbl, le4_len]; decide)) ?_
  refine Ev.ret ⟨?_, B3, ⟨hm3⟩, hS5.drop1⟩
  rw [hc]
  rfl
theorem rOpen_spec {b : List UInt8} (hl : b.length < 9223372036854775808) (hS : St H0 B0 B L H) :
    Ev (fun k _ => rn k 116 [str b] H) (fun r => r.1 = OpenV (openR b) ∧ ∃ B', MoC B B' ∧ St H0 B0 B' L r.2) := by
  refine Ev.fn (fun k => f116_eq k _ H) ?_
  repeat (first|refine zA ?_|refine zB fun _ _ _=>?_|refine zC fun _ _ _=>?_|refine zD fun _ _=>?_|refine zE ?_|refine zF ?_)
  by_cases h1 : b.length = 128
  case neg =>
    unfold openR
    rw [if_pos h1, decide_eq_true h1]
    repeat (first|refine zA ?_|refine zB fun _ _ _=>?_|refine zC fun _ _ _=>?_|refine zD fun _ _=>?_|refine zE ?_|refine zF ?_)
    exact Ev.ret ⟨rfl, B, ⟨Mo.refl B⟩, hS⟩
  rw [decide_eq_false (by omega)]
  repeat (first|refine zA ?_|refine zB fun _ _ _=>?_|refine zC fun _ _ _=>?_|refine zD fun _ _=>?_|refine zE ?_|refine zF ?_)
  have hn3 := u8_lt (b.getD 3 0)
  have hn2 := u8_lt (b.getD 2 0)
  refine Ev.prim (show slc Tryz.prog 9 (str b) none (some (.int .i64 124)) = some (str (b.take 124)) from slc_strT (l := b) (i := 124) (by omega)) ?_
  refine Ev.b2 (rSum_spec (by rw [List.length_take]; omega)) ?_
  rintro _ _ ⟨rfl, rfl⟩
  refine Ev.prim (show slc Tryz.prog 9 (str b) (some (.int .i64 124)) none = some (str (b.drop 124)) from slc_str (l := b) 124 rfl (by omega)) ?_
  obtain ⟨c, hc⟩ : ∃ c, c = crc (b.take 124) := ⟨_, rfl⟩
  rw [← hc]
  repeat (first|refine zA ?_|refine zB fun _ _ _=>?_|refine zC fun _ _ _=>?_|refine zD fun _ _=>?_|refine zE ?_|refine zF ?_)
  refine Ev.prim (shrN (a := c) (b := 8) (by decide)) ?_
  repeat (first|refine zA ?_|refine zB fun _ _ _=>?_|refine zC fun _ _ _=>?_|refine zD fun _ _=>?_|refine zE ?_|refine zF ?_)
  refine Ev.prim (shrN (a := c) (b := 16) (by decide)) ?_
  repeat (first|refine zA ?_|refine zB fun _ _ _=>?_|refine zC fun _ _ _=>?_|refine zD fun _ _=>?_|refine zE ?_|refine zF ?_)
  refine Ev.prim (shrN (a := c) (b := 24) (by decide)) ?_
  repeat (first|refine zA ?_|refine zB fun _ _ _=>?_|refine zC fun _ _ _=>?_|refine zD fun _ _=>?_|refine zE ?_|refine zF ?_)
  refine Ev.bsC (P := Tryz.prog) (t := 95) (hS := hS) (by decide) fun b3 H5 hS5 => ?_
  rw [byts_four] at hS5
  refine Ev.prim (cvS_part (d := 9) (bs := le4 c) hS5 (.head _) (Nat.le_refl _) (by rw [le4_len]; decide)) ?_
  rw [List.drop_zero, List.take_of_length_le (by rw [le4_len]; decide)]
  have hS6 := hS5.drop1
  clear hS hS5
  repeat (first|refine zA ?_|refine zB fun _ _ _=>?_|refine zC fun _ _ _=>?_|refine zD fun _ _=>?_|refine zE ?_|refine zF ?_)
  by_cases h2 : le4 c = b.drop 124
  case neg =>
    have e : openR b = (0, [], 10) := by
      unfold openR
      rw [if_neg (by omega), ← hc, if_pos h2]
    rw [e, decide_eq_true (show b.drop 124 ≠ le4 c from fun h => h2 h.symm)]
    repeat (first|refine zA ?_|refine zB fun _ _ _=>?_|refine zC fun _ _ _=>?_|refine zD fun _ _=>?_|refine zE ?_|refine zF ?_)
    exact Ev.ret ⟨rfl, B, ⟨Mo.refl B⟩, hS6⟩
  rw [decide_eq_false (by simpa using h2.symm)]
  repeat (first|refine zA ?_|refine zB fun _ _ _=>?_|refine zC fun _ _ _=>?_|refine zD fun _ _=>?_|refine zE ?_|refine zF ?_)
  rw [hc] at h2
  refine Ev.prim (show ix Tryz.prog 9 (str b) (.int .i64 3) = some (u8 (b.getD 3 0).toNat) from ix_str 3 rfl (by omega)) ?_
  repeat (first|refine zA ?_|refine zB fun _ _ _=>?_|refine zC fun _ _ _=>?_|refine zD fun _ _=>?_|refine zE ?_|refine zF ?_)
  by_cases h6 : (b.getD 3 0).toNat ≤ 120
  case neg =>
    rw [open_bad h1 h2 h6]
    repeat (first | (first|refine zA ?_|refine zB fun _ _ _=>?_|refine zC fun _ _ _=>?_|refine zD fun _ _=>?_|refine zE ?_|refine zF ?_) | rw [decide_eq_true (by omega)] | rw [decide_eq_false (by omega)])
    exact Ev.ret ⟨rfl, B, ⟨Mo.refl B⟩, hS6⟩
  rw [open_ref h1 h2 h6]
  repeat (first | (first|refine zA ?_|refine zB fun _ _ _=>?_|refine zC fun _ _ _=>?_|refine zD fun _ _=>?_|refine zE ?_|refine zF ?_) | rw [decide_eq_true (by omega)] | rw [decide_eq_false (by omega)])
  refine Ev.prim (show ix Tryz.prog 9 (str b) (.int .i64 2) = some (u8 (b.getD 2 0).toNat) from ix_str 2 rfl (by omega)) ?_
  repeat (first | (first|refine zA ?_|refine zB fun _ _ _=>?_|refine zC fun _ _ _=>?_|refine zD fun _ _=>?_|refine zE ?_|refine zF ?_) | rw [decide_eq_true (by omega)] | rw [decide_eq_false (by omega)])
  refine Ev.prim (show ix Tryz.prog 9 (str b) (.int .i64 3) = some (u8 (b.getD 3 0).toNat) from ix_str 3 rfl (by omega)) ?_
  repeat (first | (first|refine zA ?_|refine zB fun _ _ _=>?_|refine zC fun _ _ _=>?_|refine zD fun _ _=>?_|refine zE ?_|refine zF ?_) | rw [decide_eq_true (by omega)] | rw [decide_eq_false (by omega)])
  refine Ev.prim (slc_str2 (l := b) 4 (4 + (b.getD 3 0).toNat) rfl rfl (by omega) (by omega)) ?_
  rw [show 4 + (b.getD 3 0).toNat - 4 = (b.getD 3 0).toNat by omega]
  refine Ev.b2 (rSeal_spec (by rw [List.length_take]; omega) (by omega) hS6) ?_
  rintro _ H7 ⟨rfl, B7, hm7, hS7⟩
  dsimp only at hS7
  clear hS6
  generalize sealR ((b.getD 2 0).toNat : Int) ((b.drop 4).take (b.getD 3 0).toNat) = sr
  obtain ⟨s1, s2⟩ := sr
  dsimp only
  repeat (first|refine zA ?_|refine zB fun _ _ _=>?_|refine zC fun _ _ _=>?_|refine zD fun _ _=>?_|refine zE ?_|refine zF ?_)
  by_cases h8 : s2 = 0
  · rw [decide_eq_true h8]
    repeat (first|refine zA ?_|refine zB fun _ _ _=>?_|refine zC fun _ _ _=>?_|refine zD fun _ _=>?_|refine zE ?_|refine zF ?_)
    try simp only [Bool.not_true]
    repeat (first|refine zA ?_|refine zB fun _ _ _=>?_|refine zC fun _ _ _=>?_|refine zD fun _ _=>?_|refine zE ?_|refine zF ?_)
    by_cases h9 : s1 = b
    · rw [if_pos ⟨h8, h9⟩, decide_eq_false (by simpa using h9)]
      repeat (first|refine zA ?_|refine zB fun _ _ _=>?_|refine zC fun _ _ _=>?_|refine zD fun _ _=>?_|refine zE ?_|refine zF ?_)
      try simp only [Bool.not_true]
      repeat (first|refine zA ?_|refine zB fun _ _ _=>?_|refine zC fun _ _ _=>?_|refine zD fun _ _=>?_|refine zE ?_|refine zF ?_)
      exact Ev.ret ⟨rfl, B7, hm7, hS7⟩
    · rw [if_neg (fun h => h9 h.2), decide_eq_true h9]
      repeat (first|refine zA ?_|refine zB fun _ _ _=>?_|refine zC fun _ _ _=>?_|refine zD fun _ _=>?_|refine zE ?_|refine zF ?_)
      try simp only [Bool.not_true]
      repeat (first|refine zA ?_|refine zB fun _ _ _=>?_|refine zC fun _ _ _=>?_|refine zD fun _ _=>?_|refine zE ?_|refine zF ?_)
      exact Ev.ret ⟨rfl, B7, hm7, hS7⟩
  · rw [decide_eq_false h8, if_neg (fun h => h8 h.1)]
    repeat (first|refine zA ?_|refine zB fun _ _ _=>?_|refine zC fun _ _ _=>?_|refine zD fun _ _=>?_|refine zE ?_|refine zF ?_)
    try simp only [Bool.not_false]
    repeat (first|refine zA ?_|refine zB fun _ _ _=>?_|refine zC fun _ _ _=>?_|refine zD fun _ _=>?_|refine zE ?_|refine zF ?_)
    exact Ev.ret ⟨rfl, B7, hm7, hS7⟩
end
end Go.AM.E
namespace Go.AM
def secsB (n : Nat) (bs : List UInt8) : List (List UInt8) := (List.range n).map fun i => sec bs i
theorem secsB_len (n : Nat) (bs : List UInt8) : (secsB n bs).length = n := by simp [secsB]
theorem secsB_at {n i : Nat} {bs : List UInt8} (h : i < n) : (secsB n bs)[i]? = some (sec bs i) := by
  unfold secsB; rw [List.getElem?_map, List.getElem?_range h]; rfl
theorem secsB_lay {n a : Nat} {bs s : List UInt8} (h : bs.length = 64 * n) (ha : a < n) (hs : s.length = 64) : (secsB n bs).set a s = secsB n (layB bs a s) := by
  apply List.ext_getElem?
  intro i
  by_cases hi : i < n
  · rw [secsB_at hi, sec_lay64 h ha hs hi, List.getElem?_set, secsB_len]
    by_cases he : a = i
    · rw [if_pos he, if_pos he, if_pos ha]
    · rw [if_neg he, if_neg he, secsB_at hi]
  · rw [List.getElem?_eq_none (by rw [List.length_set, secsB_len]; omega), List.getElem?_eq_none (by rw [secsB_len]; omega)]
theorem secsB_new {n i : Nat} (h : i ≤ n) : secsB i (List.replicate (64 * n) 0) = List.replicate i (List.replicate 64 0) := by
  apply List.ext_getElem?
  intro j
  by_cases hj : j < i
  · rw [secsB_at hj, List.getElem?_replicate, if_pos hj]
    congr 1
    unfold sec
    rw [List.drop_replicate, List.take_replicate, Nat.min_eq_left (by omega)]
  · rw [List.getElem?_eq_none (by rw [secsB_len]; omega), List.getElem?_eq_none (by rw [List.length_replicate]; omega)]
section
variable {P : Program} {R : Type} {t e : TypeId} {z : List Value} {sz by_ n : Nat} {v : Value} {cs : List Value} {Lx Ly : List (Nat × Blk)} {H0 B0 B H : AH}
theorem GRS.slc3 [hE : EltS P t e z sz by_] (h : GRS e sz v n cs Lx) (hS : St H0 B0 B Ly H) (hsub : ∀ p ∈ Lx, p ∈ Ly) : Go.AM.slc3 P t H v none (some (i64 n)) (i64 n) = some v := by
  rcases h with ⟨rfl, rfl, hv, rfl⟩ | ⟨hne, hl, b, kd, cap, rfl, hk, rfl⟩
  · rcases hv with rfl | ⟨b, off, rfl⟩
    · rw [show i64 0 = Value.int .i64 0 from rfl]
      unfold Go.AM.slc3; rw [hE.U]; simp only [intOr]
      simp [hE.I]
    · rw [show i64 0 = Value.int .i64 0 from rfl]
      unfold Go.AM.slc3 sl; rw [hE.U]; simp only [intOr]
      simp [hE.I]
  · have hb := hS.get (hsub _ (List.mem_singleton.2 rfl))
    unfold Go.AM.slc3; rw [hE.U]
    show (if (P.info? e).isSome = true then (if ((n : Nat) : Int) = 0 ∧ ((n : Nat) : Int) = 0 then some (Go.AM.sl b 0 0 0) else if ((n : Nat) : Int) = ((n : Nat) : Int) ∧ ((n : Nat) : Int) = ((n : Nat) : Int) then (blk H b).bind fun k => match k.kind with
      | .fix => some (Go.AM.sl b 0 (n) (n))
      | _ => some (Go.AM.sl b 0 (n) cap) else none) else none) = _
    rw [if_pos hE.I, if_neg (by omega), if_pos ⟨rfl, rfl⟩, hb, Option.bind_some]
    rcases hk with ⟨rfl | rfl, h2, h3⟩ | ⟨rfl, rfl⟩ <;> rfl
theorem FRS.slc3 {l : List Int} (hE : Elt P t e (.int .i64 0) 8) (h : FRS e v l Lx) (hS : St H0 B0 B Ly H) (hsub : ∀ p ∈ Lx, p ∈ Ly) : ∃ v' Lx', Go.AM.slc3 P t H v none (some (i64 l.length)) (i64 l.length) = some v' ∧ FRS e v' l Lx' ∧ Lx'.Sublist Lx := by
  rcases h with ⟨rfl, hv, rfl⟩ | ⟨b, cap, rest, rfl, h1, h2, rfl⟩
  · rcases hv with rfl | ⟨b, off, rfl⟩
    · refine ⟨.slice none 0 0, [], ?_, .inl ⟨rfl, .inl rfl, rfl⟩, List.Sublist.refl _⟩
      rw [show i64 ([] : List Int).length = Value.int .i64 0 from rfl]
      unfold Go.AM.slc3; rw [hE.U]; simp only [intOr]
      simp [hE.I]
    · refine ⟨sl b off 0 0, [], ?_, .inl ⟨rfl, .inr ⟨b, off, rfl⟩, rfl⟩, List.Sublist.refl _⟩
      rw [show i64 ([] : List Int).length = Value.int .i64 0 from rfl]
      unfold Go.AM.slc3 sl; rw [hE.U]; simp only [intOr]
      simp [hE.I]
  · have hb := hS.get (hsub _ (List.mem_singleton.2 rfl))
    by_cases h0 : l.length = 0
    · refine ⟨sl b 0 0 0, [], ?_, .inl ⟨List.length_eq_zero_iff.1 h0, .inr ⟨b, 0, rfl⟩, rfl⟩, List.nil_sublist _⟩
      rw [h0, show i64 0 = Value.int .i64 0 from rfl]
      unfold Go.AM.slc3 sl; rw [hE.U]; simp only [intOr]
      simp [hE.I]
    · refine ⟨sl b 0 l.length cap, [(b, ⟨intV l ++ rest, e, .grow⟩)], ?_, .inr ⟨b, cap, rest, rfl, h1, h2, rfl⟩, List.Sublist.refl _⟩
      unfold Go.AM.slc3; rw [hE.U]
      show (if (P.info? e).isSome = true then (if ((l.length : Nat) : Int) = 0 ∧ ((l.length : Nat) : Int) = 0 then some (Go.AM.sl b 0 0 0) else if ((l.length : Nat) : Int) = ((l.length : Nat) : Int) ∧ ((l.length : Nat) : Int) = ((l.length : Nat) : Int) then (blk H b).bind fun k => match k.kind with
        | .fix => some (Go.AM.sl b 0 (l.length) (l.length))
        | _ => some (Go.AM.sl b 0 (l.length) cap) else none) else none) = _
      rw [if_pos hE.I, if_neg (by omega), if_pos ⟨rfl, rfl⟩, hb, Option.bind_some]
end
def WRS (e : TypeId) (v : Value) (cs : List Value) (Lx : List (Nat × Blk)) : Prop :=
  (cs = [] ∧ (v = .slice none 0 0 ∨ ∃ b off, v = sl b off 0 0) ∧ Lx = []) ∨
  (∃ b cap, v = sl b 0 cs.length cap ∧ cap ≠ 0 ∧ cs.length ≤ cap ∧ Lx = [(b, ⟨cs, e, .grow⟩)])
section
variable {P : Program} {R : Type} {e t : TypeId} {v : Value} {cs : List Value} {Lx : List (Nat × Blk)} {H0 B0 B H : AH} {L : List (Nat × Blk)}
theorem WRS.nil : WRS e (.slice none 0 0) [] [] := .inl ⟨rfl, .inl rfl, rfl⟩
theorem WRS.cell (h : WRS e v cs Lx) : IsCell v := by
  rcases h with ⟨_, rfl | ⟨b, off, rfl⟩, _⟩ | ⟨b, cap, rfl, _⟩ <;> exact inferInstance
theorem WRS.len {e' : TypeId} (hU : P.underlying t = some (.slice e')) (h : WRS e v cs Lx) : lenV P t v = some (i64 cs.length) := by
  rcases h with ⟨rfl, rfl | ⟨b, off, rfl⟩, _⟩ | ⟨b, cap, rfl, _⟩ <;> exact lenV_sl hU
theorem WRS.now {Ly : List (Nat × Blk)} (h : WRS e v cs Lx) (hS : St H0 B0 B Ly H) (hsub : ∀ p ∈ Lx, p ∈ Ly) : ScN H v cs.length 1 cs := by
  rcases h with ⟨rfl, rfl | ⟨b, off, rfl⟩, rfl⟩ | ⟨b, cap, rfl, h1, h2, rfl⟩
  · exact .inl ⟨rfl, rfl, rfl⟩
  · exact .inr ⟨b, off, 0, rfl, Nat.le_refl _, rfl, .inl rfl⟩
  · refine .inr ⟨b, 0, cap, rfl, h2, by simp, .inr ⟨_, hS.get (hsub _ (List.mem_singleton.2 rfl)), ?_⟩⟩
    unfold rdN
    rw [if_pos (by simp), List.drop_zero, Nat.mul_one, List.take_length]
theorem WRS.push {x z : Value} {by_ : Nat} {f : Nat → Nat → Value → AH → Option R} {Q : R → Prop} [hE : Elt P t e z by_] (hg : gkl [z] = .grow) (hx : isCell x = true) (h : WRS e v cs Lx) (hS : St H0 B0 B (Lx ++ L) H) (hl : (cs.length + 1) * by_ ≤ 140737488355328 ∧ cs.length + 1 ≤ 1000000000000)
    (hk : ∀ v' Lx' H', WRS e v' (cs ++ [x]) Lx' → St H0 B0 B (Lx' ++ L) H' → Ev (fun k n => f k n v' H') Q) :
    Ev (fun k n => Go.AM.b2 (Go.AM.buildS P t H 1 [(0, x)]) fun w h => Go.AM.b2 (Go.AM.ap P t t h v w) (f k n)) Q := by
  have hxc := cells_one hx
  have hxs : x.cells.size = 1 := by rw [← Array.length_toList, hxc]; rfl
  have hzs : z.cells.size = 1 := by rw [← Array.length_toList, hE.zn]; rfl
  have hb : Go.AM.buildS P t H 1 [(0, x)] = some (sl H.length 0 1 1, mkB H [x] e .fix) := by
    unfold Go.AM.buildS
    rw [hE.U]; simp only [hE.Z, Option.bind_some, hE.S]
    rw [if_pos ⟨by omega, hzs⟩]
    simp only [fillB, rep, List.append_nil, Nat.zero_mul, hE.zn]
    rw [if_pos ⟨hxs, by simp, okCells_of hx⟩, hxc]
    rfl
  refine Ev.prim2 hb ?_
  have hw : ScN (mkB H [x] e .fix) (sl H.length 0 1 1) 1 1 [x] := .inr ⟨H.length, 0, 1, rfl, Nat.le_refl _, rfl, .inr ⟨_, blk_mkB_new, rfl⟩⟩
  have hES : EltS P t e [z] 1 by_ := inferInstance
  have ha := ap_eqS (P := P) (t := t) (u := t) (s := v) hE.U hw (by simp [hx])
  rw [hg] at ha
  have hS1 := (hS.mkB' [x] e .fix).drop1
  rcases h with ⟨rfl, hv, rfl⟩ | ⟨b, cap, rfl, h1, h2, rfl⟩
  · have hl1 : (0 + 1) * by_ ≤ 140737488355328 := hl.1
    refine Ev.prim2 (v := sl (mkB H [x] e .fix).length 0 1 2) (H := mkB (mkB H [x] e .fix) [x] e .grow) ?_ (hk _ [((mkB H [x] e .fix).length, ⟨[x], e, .grow⟩)] _ (.inr ⟨_, 2, rfl, by simp, by simp, rfl⟩) (hS1.mkB' _ _ _))
    rw [ha]
    rcases hv with rfl | ⟨b, off, rfl⟩
    · unfold apS
      try dsimp only
      rw [if_neg (by decide), if_pos ⟨by omega, by omega⟩]
      rfl
    · unfold apS sl
      dsimp only
      rw [if_neg (by decide), if_pos rfl, if_pos ⟨by omega, by omega⟩]
  · have hb1 := hS1.get (.head _)
    refine Ev.prim2 (v := sl (mkB H [x] e .fix).length 0 (cs.length + 1) (cs.length + 1 + 1)) (H := mkB (kill (mkB H [x] e .fix) b) (cs ++ [x]) e .grow) ?_
      (hk _ [((mkB H [x] e .fix).length, ⟨cs ++ [x], e, .grow⟩)] _ (.inr ⟨(mkB H [x] e .fix).length, cs.length + 1 + 1, by rw [List.length_append]; rfl, by omega, by rw [List.length_append]; simp, rfl⟩) ?_)
    · rw [ha]
      unfold apS sl
      dsimp only
      rw [if_neg (by decide), if_neg h1, hb1, Option.bind_some]
      have hrd : rdN ⟨cs, e, .grow⟩ 0 (cs.length * 1) = some cs := by
        unfold rdN
        rw [if_pos (by simp), List.drop_zero, Nat.mul_one, List.take_length]
      rw [hrd, Option.bind_some, if_pos ⟨by omega, by omega, rfl⟩]
      dsimp only
      rw [if_pos rfl]
    · have := hS1.kill.mkB' (cs ++ [x]) e .grow
      rw [length_kill] at this
      exact this
theorem WRS.store {w z : Value} {by_ i : Nat} [hE : Elt P t e z by_] (ha : aggT P e = some false) (h : WRS e v cs Lx) (hS : St H0 B0 B (Lx ++ L) H) (hi : i < cs.length) (hw : isCell w = true) :
    ∃ p H' Lx', (∀ k : IntKind, ixA P t v (.int k (i : Int)) = some p) ∧ Go.AM.st P e H p w = some H' ∧ WRS e v (cs.set i w) Lx' ∧ St H0 B0 B (Lx' ++ L) H' := by
  rcases h with ⟨rfl, _⟩ | ⟨b, cap, rfl, h1, h2, rfl⟩
  · exact absurd hi (Nat.not_lt_zero _)
  · have hst : stK P e cs i w = some (cs.set i w) := by
      unfold stK
      rw [ha]
      dsimp only
      rw [if_pos ⟨hE.S, hi, hw⟩]
    refine ⟨ptr b i, _, [(b, ⟨cs.set i w, e, .grow⟩)], fun k => ?_, st_blk (hS.get (.head _)) rfl hst, .inr ⟨b, cap, by rw [List.length_set], h1, by rw [List.length_set]; exact h2, rfl⟩, hS.put (.head _)⟩
    unfold ixA sl
    rw [hE.U]
    dsimp only
    rw [if_pos ⟨hE.I, by omega, by omega⟩, hE.S, Int.toNat_natCast, Nat.mul_one, Nat.zero_add]
end
theorem ScN.at2 {P : Program} {t e : TypeId} {z : List Value} {by_ : Nat} {k : IntKind} [hE : EltS P t e z 2 by_] {H : AH} {v : Value} {n i : Nat} {cs : List Value} (h : ScN H v n 2 cs) (hi : i < n) :
    ∃ b o, ixA P t v (.int k (i : Int)) = some (Go.AM.ptr b o) ∧ ∀ (ft : TypeId) (j : Nat) (x : Value), aggT P ft = some false → j < 2 → cs[i * 2 + j]? = some x → Go.AM.ld P ft H (Go.AM.ptr b (o + j)) = some x := by
  obtain ⟨b, o, h1, K, h2, h3, h4⟩ := h.ix (k := k) hE.U hE.I hE.S hi
  refine ⟨b, o, h1, fun ft j x ha hj hx => ?_⟩
  rw [ld_blk h2]
  unfold ldK
  rw [ha]
  dsimp only
  have h5 : ((K.cells.drop o).take 2)[j]? = (nth 2 cs i)[j]? := by rw [h4]
  unfold nth at h5
  rw [List.getElem?_take_of_lt hj, List.getElem?_drop, List.getElem?_take_of_lt hj, List.getElem?_drop] at h5
  rw [h5]; exact hx
theorem caCells_two {l : List (Nat × List UInt8)} {i a : Nat} {s : List UInt8} (h : l[i]? = some (a, s)) : (caCells l)[i * 2 + 0]? = some (i64 a) ∧ (caCells l)[i * 2 + 1]? = some (str s) := by
  have h0 := caCells_at h
  constructor
  · have : (((caCells l).drop (i * 2)).take 2)[0]? = some (i64 a) := by rw [h0]; rfl
    rwa [List.getElem?_take_of_lt (by decide), List.getElem?_drop] at this
  · have : (((caCells l).drop (i * 2)).take 2)[1]? = some (str s) := by rw [h0]; rfl
    rwa [List.getElem?_take_of_lt (by decide), List.getElem?_drop] at this
end Go.AM
namespace Go.AM
theorem perm_cnt {α : Type} {A B : List α} (h : ∀ (_ : DecidableEq α) (a : α), A.count a = B.count a) : A.Perm B := by
  classical exact List.perm_iff_count.2 fun a => h _ a
def two (n : Nat) (x : List UInt8) : List (Nat × List UInt8) := [(2 * n, x.take 64), (2 * n + 1, x.drop 64)]
end Go.AM
namespace Go.AM
def boolC (U : List Int) (m : Nat) : List Value := (List.range m).map fun (n : Nat) => .bool (decide ((n : Int) ∈ U))
theorem boolC_len (U : List Int) (m : Nat) : (boolC U m).length = m := by simp [boolC]
theorem boolC_at {U : List Int} {i m : Nat} (h : i < m) : (boolC U m)[i]? = some (.bool (decide ((i : Int) ∈ U))) := by
  unfold boolC; rw [List.getElem?_map, List.getElem?_range h]; rfl
theorem boolC_cell (U : List Int) (m : Nat) : (boolC U m).all isCell = true := by
  rw [List.all_eq_true]
  intro x hx
  unfold boolC at hx
  obtain ⟨n, _, rfl⟩ := List.mem_map.1 hx
  rfl
theorem boolC_set {U : List Int} {i m : Nat} (h : i < m) : (boolC U m).set i (.bool true) = boolC (insI U i) m := by
  apply List.ext_getElem?
  intro j
  rw [List.getElem?_set, boolC_len]
  by_cases hj : j < m
  · rw [boolC_at hj, boolC_at hj]
    by_cases he : i = j
    · subst he
      rw [if_pos rfl, if_pos h, decide_eq_true (insI_mem.2 (.inl rfl))]
    · rw [if_neg he]
      congr 2
      apply decide_eq_decide.2
      rw [insI_mem]
      constructor
      · exact .inr
      · rintro (h1 | h1)
        · omega
        · exact h1
  · rw [List.getElem?_eq_none (l := boolC (insI U i) m) (by rw [boolC_len]; omega)]
    by_cases he : i = j
    · omega
    · rw [if_neg he, List.getElem?_eq_none (by rw [boolC_len]; omega)]
theorem boolC_nil (m : Nat) : boolC [] m = List.replicate m (.bool false) := by
  unfold boolC
  rw [show (fun (n : Nat) => Value.bool (decide ((n : Int) ∈ ([] : List Int)))) = fun _ => .bool false by funext n; simp]
  rw [List.map_const', List.length_range]
def usedT (U : List Int) : Nat → List Int
  | 0 => []
  | k + 1 => if (k : Int) ∈ U then (k : Int) :: usedT U k else usedT U k
theorem usedT_mem {U : List Int} {x : Int} : ∀ k, x ∈ usedT U k ↔ x ∈ U ∧ 0 ≤ x ∧ x < k
  | 0 => by
    constructor
    · intro h; cases h
    · rintro ⟨_, h1, h2⟩; omega
  | k + 1 => by
    unfold usedT
    split
    · rename_i h
      rw [List.mem_cons, usedT_mem k]
      constructor
      · rintro (rfl | h1)
        · exact ⟨h, by omega, by omega⟩
        · exact ⟨h1.1, h1.2.1, by omega⟩
      · rintro ⟨h1, h2, h3⟩
        by_cases he : x = (k : Int)
        · exact .inl he
        · exact .inr ⟨h1, h2, by omega⟩
    · rename_i h
      rw [usedT_mem k]
      constructor
      · rintro ⟨h1, h2, h3⟩; exact ⟨h1, h2, by omega⟩
      · rintro ⟨h1, h2, h3⟩
        refine ⟨h1, h2, ?_⟩
        by_cases he : x = (k : Int)
        · rw [he] at h1; exact absurd h1 h
        · omega
theorem usedT_bmL {U : List Int} {m : Nat} (hU : ∀ n ∈ U, 0 ≤ n ∧ n < m) : bmL (usedT U m) = bmL U := by
  unfold bmL
  apply List.map_congr_left
  intro j _
  rw [bm_congr (T := U) fun n => (usedT_mem m).trans ⟨fun h => h.1, fun h => ⟨h, hU n h⟩⟩]
theorem orU8 {P : Program} {t : TypeId} {a b : Nat} (ha : a < 256) (hb : b < 256) : bin P .or t (u8 a) (u8 b) = some (u8 (a ||| b)) := by
  rw [bin_or]
  congr 2
  rw [BitVec.toNat_or]
  have e1 : (BitVec.ofInt IntKind.u8.bits (a : Int)).toNat = a := by
    show (BitVec.ofInt 8 _).toNat = _
    rw [BitVec.toNat_ofInt]; omega
  have e2 : (BitVec.ofInt IntKind.u8.bits (b : Int)).toNat = b := by
    show (BitVec.ofInt 8 _).toNat = _
    rw [BitVec.toNat_ofInt]; omega
  rw [e1, e2, wrapu8]
  have : a ||| b < 2 ^ 8 := Nat.or_lt_two_pow (n := 8) ha hb
  omega
def UK (e : TypeId) (v : Value) (cs : List Value) (Lx : List (Nat × Blk)) : Prop :=
  ∃ b kd cap, v = sl b 0 cs.length cap ∧ cs.length ≤ cap ∧ (kd = .grow ∨ kd = .fix) ∧ Lx = [(b, ⟨cs, e, kd⟩)]
section
variable {P : Program} {R : Type} {e t : TypeId} {v : Value} {cs : List Value} {Lx : List (Nat × Blk)} {H0 B0 B H : AH} {L : List (Nat × Blk)}
theorem UK.cell (h : UK e v cs Lx) : IsCell v := by obtain ⟨b, kd, cap, rfl, _⟩ := h; exact inferInstance
theorem UK.len {e' : TypeId} (hU : P.underlying t = some (.slice e')) (h : UK e v cs Lx) : lenV P t v = some (i64 cs.length) := by obtain ⟨b, kd, cap, rfl, _⟩ := h; exact lenV_sl hU
theorem UK.now {Ly : List (Nat × Blk)} (h : UK e v cs Lx) (hS : St H0 B0 B Ly H) (hsub : ∀ p ∈ Lx, p ∈ Ly) : ScN H v cs.length 1 cs := by
  obtain ⟨b, kd, cap, rfl, h2, _, rfl⟩ := h
  refine .inr ⟨b, 0, cap, rfl, h2, by simp, .inr ⟨_, hS.get (hsub _ (List.mem_singleton.2 rfl)), ?_⟩⟩
  unfold rdN
  rw [if_pos (by simp), List.drop_zero, Nat.mul_one, List.take_length]
theorem UK.store {w z : Value} {by_ i : Nat} [hE : Elt P t e z by_] (h : UK e v cs Lx) (hS : St H0 B0 B (Lx ++ L) H) (hi : i < cs.length) (hw : isCell w = true) :
    ∃ p H' Lx', (∀ k : IntKind, ixA P t v (.int k (i : Int)) = some p) ∧ Go.AM.st P e H p w = some H' ∧ UK e v (cs.set i w) Lx' ∧ St H0 B0 B (Lx' ++ L) H' := by
  obtain ⟨b, kd, cap, rfl, h2, hk, rfl⟩ := h
  have hst : stK P e cs i w = some (cs.set i w) := by
    unfold stK
    rw [hE.A]
    dsimp only
    rw [if_pos ⟨hE.S, hi, hw⟩]
  refine ⟨ptr b i, _, [(b, ⟨cs.set i w, e, kd⟩)], fun k => ?_, st_blk (hS.get (.head _)) (by rcases hk with rfl | rfl <;> rfl) hst, ⟨b, kd, cap, by rw [List.length_set], by rw [List.length_set]; exact h2, hk, rfl⟩, hS.put (.head _)⟩
  unfold ixA sl
  rw [hE.U]
  dsimp only
  rw [if_pos ⟨hE.I, by omega, by omega⟩, hE.S, Int.toNat_natCast, Nat.mul_one, Nat.zero_add]
theorem WRS.uk (h : WRS e v cs Lx) (hn : cs ≠ []) : UK e v cs Lx := by
  rcases h with ⟨h, _⟩ | ⟨b, cap, rfl, h1, h2, rfl⟩
  · exact absurd h hn
  · exact ⟨b, .grow, cap, rfl, h2, .inl rfl, rfl⟩
theorem ap_new {u u' : TypeId} {z w : Value} {by_ n : Nat} {ds : List Value} [hE : Elt P t e z by_] (hg : gkl [z] = .grow) (hu : P.underlying u = some (.slice u')) (hx : ScN H w n 1 ds) (hd : ds.all isCell = true) (hn : n ≠ 0) (hl : n * by_ ≤ 140737488355328 ∧ n ≤ 9223372036854775807) (hS : St H0 B0 B L H) :
    ∃ v' H' Lx, Go.AM.ap P t u H (.slice none 0 0) w = some (v', H') ∧ WRS e v' ds Lx ∧ St H0 B0 B (Lx ++ L) H' := by
  have hES : EltS P t e [z] 1 by_ := inferInstance
  have ha := ap_eqS (P := P) (t := t) (u := u) (s := .slice none 0 0) hu hx hd
  rw [hg] at ha
  have hdl := hx.length
  rw [Nat.mul_one] at hdl
  refine ⟨sl H.length 0 n (n + 1), mkB H ds e .grow, [(H.length, ⟨ds, e, .grow⟩)], ?_, .inr ⟨H.length, n + 1, by rw [hdl], by omega, by omega, rfl⟩, hS.mkB' _ _ _⟩
  rw [ha]
  unfold apS
  rw [if_neg hn, if_pos hl]
  rfl
theorem Ev.ixNg {B H : AH} {v x : Value} {n : Nat} {cs : List Value} {k : IntKind} {z0 : Value} {sz0 : Nat} {g : Nat → Nat → Value → AH → Option R} {Q : R → Prop} {i : Int} [hE : Elt P t e z0 sz0] (h : ScN B v n 1 cs) (j : Nat) (hi : i = (j : Int)) (hj : j < n) (hx : cs[j]? = some x)
    (hk : ∀ p, LdB P e p B x → Ev (fun k n => g k n p H) Q) : Ev (fun k' n => Go.AM.b2 ((ixA P t v (.int k i)).bind fun v => some (v, H)) (g k' n)) Q := by
  have h2 := Ev.ixN (P := P) (t := t) (e := e) (k := k) (v := v) (f := fun k n p => g k n p H) (Q := Q) h j hi hj hx hk
  refine Ev.eq (fun k' n => ?_) h2
  cases ixA P t v (.int k i) <;> rfl
end
theorem Dsk.write_n (D : Dsk) (i : Int) (s : List UInt8) : (D.write i s).2.n = D.n := by
  unfold Dsk.write
  split
  · rfl
  · split
    · rfl
    · unfold Dsk.act; split <;> rfl
theorem Dsk.barrier_n (D : Dsk) : D.barrier.2.n = D.n := by
  unfold Dsk.barrier
  split
  · rfl
  · unfold Dsk.act; split <;> rfl
theorem Dsk.pwrite_n (D : Dsk) (n kind : Int) (t : List UInt8) : (D.pwrite n kind t).2.n = D.n := by
  unfold Dsk.pwrite
  split
  · rfl
  · split
    · exact Dsk.write_n _ _ _
    · rw [Dsk.write_n, Dsk.write_n]
theorem hwrite_n (D : Dsk) (t : Nat) (r : Int) (U : List Int) : (hwrite D t r U).2.n = D.n := Dsk.pwrite_n _ _ _ _
theorem Dsk.barrier_cache (D : Dsk) : D.barrier.2.cache.length ≤ D.cache.length := by
  unfold Dsk.barrier
  split
  · exact Nat.le_refl _
  · unfold Dsk.act
    split
    · exact Nat.le_refl _
    · exact Nat.zero_le _
theorem hwrite_cache (D : Dsk) (t : Nat) (r : Int) (U : List Int) : (hwrite D t r U).2.cache.length ≤ D.cache.length + 2 := pwrite_cache D _ _ _
theorem may_eq {U F : List Int} {m : Nat} {n : Int} (hU : ∀ x ∈ U, 0 ≤ x ∧ x < m) (hF : ∀ x ∈ F, 0 ≤ x ∧ x < m) :
    (decide (n = 0) || (decide (1 < n) && (decide (n < m) && (decide (n ∈ U) || decide (n ∈ F))))) = mayR (addAll U F) n := by
  unfold mayR
  apply Bool.eq_iff_iff.mpr
  simp only [Bool.or_eq_true, Bool.and_eq_true, decide_eq_true_eq, addAll_mem]
  constructor
  · rintro (h | ⟨h1, h2, h3⟩)
    · exact .inl h
    · exact .inr ⟨by omega, h3⟩
  · rintro (h | ⟨h1, h3⟩)
    · exact .inl h
    · refine .inr ⟨by omega, ?_, h3⟩
      rcases h3 with h | h
      · exact (hU n h).2
      · exact (hF n h).2
theorem addAll_step {U F : List Int} {i : Nat} {x : Int} (h : F[i]? = some x) : addAll U (F.take (i + 1)) = insI (addAll U (F.take i)) x := by
  unfold addAll
  rw [List.take_add_one, h, List.foldl_append]; rfl
end Go.AM
namespace Go.AM
def allocN (m : Nat) : Nat → Pgr → List Int → List Int × Int × Pgr
  | 0, G, l => (l, 0, G)
  | k + 1, G, l => if (G.alloc m).2.1 ≠ 0 then (l, (G.alloc m).2.1, (G.alloc m).2.2) else allocN m k (G.alloc m).2.2 (l ++ [(G.alloc m).1])
def nextL (l : List Int) (i : Nat) : Int := l.getD (i + 1) 0
def pageL (s : List UInt8) (l : List Int) (i : Nat) : List UInt8 := hdr (nextL l i).toNat ++ pieceT s i
def layN (s : List UInt8) (l : List Int) : Nat → Nat → Pgr → Dsk → Int × Pgr × Dsk
  | 0, _, G, D => (0, G, D)
  | q + 1, i, G, D => if (G.write D (l.getD i 0) 2 (pageL s l i)).1 ≠ 0 then G.write D (l.getD i 0) 2 (pageL s l i) else layN s l q (i + 1) (G.write D (l.getD i 0) 2 (pageL s l i)).2.1 (G.write D (l.getD i 0) 2 (pageL s l i)).2.2
def Pgr.bwrite (G : Pgr) (D : Dsk) (s : List UInt8) : Int × Int × Pgr × Dsk :=
  if 60000 < s.length then (0, 1, G, D)
  else if (allocN (D.n / 2) (need s.length) G []).2.1 ≠ 0 then (0, (allocN (D.n / 2) (need s.length) G []).2.1, (allocN (D.n / 2) (need s.length) G []).2.2.back G.fresh.length, D)
  else if (layN s (allocN (D.n / 2) (need s.length) G []).1 (need s.length) 0 (allocN (D.n / 2) (need s.length) G []).2.2 D).1 ≠ 0 then
    (0, (layN s (allocN (D.n / 2) (need s.length) G []).1 (need s.length) 0 (allocN (D.n / 2) (need s.length) G []).2.2 D).1,
      (layN s (allocN (D.n / 2) (need s.length) G []).1 (need s.length) 0 (allocN (D.n / 2) (need s.length) G []).2.2 D).2.1.back G.fresh.length, (layN s (allocN (D.n / 2) (need s.length) G []).1 (need s.length) 0 (allocN (D.n / 2) (need s.length) G []).2.2 D).2.2)
  else ((allocN (D.n / 2) (need s.length) G []).1.getD 0 0, 0, (layN s (allocN (D.n / 2) (need s.length) G []).1 (need s.length) 0 (allocN (D.n / 2) (need s.length) G []).2.2 D).2.1, (layN s (allocN (D.n / 2) (need s.length) G []).1 (need s.length) 0 (allocN (D.n / 2) (need s.length) G []).2.2 D).2.2)
structure Pgr.In (G : Pgr) (m : Nat) : Prop where
  us : ∀ x ∈ G.used, 0 ≤ x ∧ x < m
  fr : ∀ x ∈ G.fresh, 0 ≤ x ∧ x < m
  nd : G.fresh.Nodup
theorem nodup_lt {l : List Int} {m : Nat} (hn : l.Nodup) (h : ∀ x ∈ l, 0 ≤ x ∧ x < m) : l.length ≤ m := by
  have h1 := hn.length_le_of_subset (l₂ := pagesI m) fun x hx => pagesI_mem.2 (h x hx)
  simpa [pagesI] using h1
theorem Pgr.In.len {G : Pgr} {m : Nat} (h : G.In m) : G.fresh.length ≤ m := nodup_lt h.nd h.fr
theorem Pgr.alloc_cases (G : Pgr) (m : Nat) : ((G.alloc m).2.1 ≠ 0 ∧ (G.alloc m).1 = 0 ∧ (G.alloc m).2.2 = G) ∨ ((G.alloc m).2.1 = 0 ∧ ∃ n : Nat, n < m ∧ (n : Int) ∉ G.fresh ∧ (G.alloc m).1 = n ∧ (G.alloc m).2.2 = { G with fresh := G.fresh ++ [(n : Int)] }) := by
  unfold Pgr.alloc
  split
  · exact .inl ⟨show (7 : Int) ≠ 0 by decide, rfl, rfl⟩
  · split
    · rename_i n hf
      rw [List.find?_range_eq_some] at hf
      obtain ⟨h1, h2, _⟩ := hf
      exact .inr ⟨rfl, n, List.mem_range.1 h2, by simpa using (by simpa using h1 : _ ∧ _).2, rfl, rfl⟩
    · exact .inl ⟨show (6 : Int) ≠ 0 by decide, rfl, rfl⟩
theorem Pgr.In.alloc {G : Pgr} {m : Nat} (h : G.In m) : (G.alloc m).2.2.In m := by
  rcases G.alloc_cases m with ⟨_, _, e⟩ | ⟨_, n, hn, hnf, _, e⟩
  · rw [e]; exact h
  · rw [e]
    refine ⟨h.us, fun x hx => ?_, ?_⟩
    · rcases List.mem_append.1 hx with hx | hx
      · exact h.fr x hx
      · rw [List.mem_singleton.1 hx]; omega
    · rw [List.nodup_append]
      refine ⟨h.nd, by simp, fun a ha b hb => ?_⟩
      rw [List.mem_singleton.1 hb]
      rintro rfl
      exact hnf ha
theorem Pgr.In.back {G : Pgr} {m : Nat} (h : G.In m) (k : Int) : (G.back k).In m :=
  ⟨h.us, fun x hx => h.fr x (List.mem_of_mem_take hx), (List.take_sublist _ _).nodup h.nd⟩
theorem Pgr.In.told {G : Pgr} {m : Nat} (h : G.In m) (e : Int) : (G.told e).In m := ⟨h.us, h.fr, h.nd⟩
theorem Pgr.In.write {G : Pgr} {m : Nat} (h : G.In m) (D : Dsk) (n k : Int) (t : List UInt8) : (G.write D n k t).2.1.In m := by
  unfold Pgr.write
  split
  · exact h
  · split
    · exact h
    · exact h.told _
theorem Pgr.In.read {G : Pgr} {m : Nat} (h : G.In m) (D : Dsk) (n : Int) : (G.read D n).2.In m := by
  unfold Pgr.read
  split
  · exact h
  · split
    · exact h
    · exact h.told _
theorem Pgr.write_ok {D : Dsk} (h : D.OK) (G : Pgr) (n k : Int) (t : List UInt8) : (G.write D n k t).2.2.OK ∧ (G.write D n k t).2.2.n = D.n ∧ (G.write D n k t).2.2.cache.length ≤ D.cache.length + 2 := by
  unfold Pgr.write
  split
  · exact ⟨h, rfl, Nat.le_add_right _ _⟩
  · split
    · exact ⟨h, rfl, Nat.le_add_right _ _⟩
    · exact ⟨pwrite_ok h _ _ _, Dsk.pwrite_n _ _ _ _, pwrite_cache _ _ _ _⟩
theorem allocN_in {m : Nat} : ∀ (k : Nat) (G : Pgr) (l : List Int), G.In m → (∀ x ∈ l, 0 ≤ x ∧ x < m) → (allocN m k G l).2.2.In m ∧ (∀ x ∈ (allocN m k G l).1, 0 ≤ x ∧ x < m) ∧ ((allocN m k G l).2.1 = 0 → (allocN m k G l).1.length = l.length + k)
  | 0, G, l, h, hl => ⟨h, hl, fun _ => rfl⟩
  | k + 1, G, l, h, hl => by
    unfold allocN
    split
    · rename_i he
      exact ⟨h.alloc, hl, fun h0 => absurd h0 he⟩
    · rename_i he
      have h1 : ∀ x ∈ l ++ [(G.alloc m).1], 0 ≤ x ∧ x < m := fun x hx => by
        rcases List.mem_append.1 hx with hx | hx
        · exact hl x hx
        · rw [List.mem_singleton.1 hx]
          rcases G.alloc_cases m with ⟨e, _⟩ | ⟨_, n, hn, _, e, _⟩
          · exact absurd e he
          · rw [e]; omega
      obtain ⟨a, b, c⟩ := allocN_in k _ _ h.alloc h1
      exact ⟨a, b, fun h0 => by rw [c h0, List.length_append, List.length_singleton]; omega⟩
theorem layN_in {m : Nat} (s : List UInt8) (l : List Int) : ∀ (q i : Nat) (G : Pgr) (D : Dsk), G.In m → D.OK → (layN s l q i G D).2.1.In m ∧ (layN s l q i G D).2.2.OK ∧ (layN s l q i G D).2.2.n = D.n ∧ (layN s l q i G D).2.2.cache.length ≤ D.cache.length + 2 * q
  | 0, i, G, D, h, hO => ⟨h, hO, rfl, Nat.le_refl _⟩
  | q + 1, i, G, D, h, hO => by
    obtain ⟨h1, h2, h3⟩ := G.write_ok hO (l.getD i 0) 2 (pageL s l i)
    unfold layN
    split
    · exact ⟨h.write _ _ _ _, h1, h2, by omega⟩
    · obtain ⟨a, b, c, d⟩ := layN_in s l q (i + 1) _ _ (h.write D (l.getD i 0) 2 (pageL s l i)) h1
      exact ⟨a, b, c.trans h2, by omega⟩
theorem bwrite_in {m : Nat} {G : Pgr} {D : Dsk} (s : List UInt8) (h : G.In m) (hO : D.OK) (hm : D.n / 2 = m) : (G.bwrite D s).2.2.1.In m ∧ (G.bwrite D s).2.2.2.OK ∧ (G.bwrite D s).2.2.2.n = D.n ∧ (G.bwrite D s).2.2.2.cache.length ≤ D.cache.length + 2 * need s.length := by
  subst hm
  obtain ⟨a1, a2, a3⟩ := allocN_in (m := D.n / 2) (need s.length) G [] h (fun x hx => by cases hx)
  obtain ⟨b1, b2, b3, b4⟩ := layN_in s (allocN (D.n / 2) (need s.length) G []).1 (need s.length) 0 (allocN (D.n / 2) (need s.length) G []).2.2 D a1 hO
  unfold Pgr.bwrite
  split
  · exact ⟨h, hO, rfl, Nat.le_add_right _ _⟩
  · split
    · exact ⟨a1.back _, hO, rfl, Nat.le_add_right _ _⟩
    · split
      · exact ⟨b1.back _, b2, b3, b4⟩
      · exact ⟨b1, b2, b3, b4⟩
def nextT (t : List UInt8) : Nat := (t.getD 0 0).toNat * 256 + (t.getD 1 0).toNat
def walkR (D : Dsk) (m : Nat) : Nat → Pgr → List Int → List UInt8 → Int → (List Int × List UInt8 × Int) × Pgr
  | 0, G, _, _, _ => (([], [], 2), G)
  | k + 1, G, l, s, a =>
    if (G.read D a).1.2.2 ≠ 0 then (([], [], (G.read D a).1.2.2), (G.read D a).2)
    else if (G.read D a).1.1 ≠ 2 ∨ (G.read D a).1.2.1.length < 2 ∨ 512 ≤ l.length then (([], [], 2), (G.read D a).2)
    else if nextT (G.read D a).1.2.1 = 0 then ((l ++ [a], s ++ (G.read D a).1.2.1.drop 2, 0), (G.read D a).2)
    else if nextT (G.read D a).1.2.1 = 1 ∨ m ≤ nextT (G.read D a).1.2.1 ∨ (nextT (G.read D a).1.2.1 : Int) ∈ l ++ [a] then (([], [], 2), (G.read D a).2)
    else walkR D m k (G.read D a).2 (l ++ [a]) (s ++ (G.read D a).1.2.1.drop 2) (nextT (G.read D a).1.2.1)
def Pgr.walk (G : Pgr) (D : Dsk) (a : Int) : (List Int × List UInt8 × Int) × Pgr := walkR D (D.n / 2) 513 G [] [] a
theorem walkR_in {D : Dsk} {m : Nat} : ∀ (k : Nat) (G : Pgr) (l : List Int) (s : List UInt8) (a : Int), G.In m → (walkR D m k G l s a).2.In m
  | 0, G, l, s, a, h => h
  | k + 1, G, l, s, a, h => by
    unfold walkR
    split
    · exact h.read _ _
    · split
      · exact h.read _ _
      · split
        · exact h.read _ _
        · split
          · exact h.read _ _
          · exact walkR_in k _ _ _ _ (h.read _ _)
theorem openR_len (b : List UInt8) : (openR b).2.1.length ≤ b.length := by
  unfold openR
  split
  · exact Nat.zero_le _
  · split
    · exact Nat.zero_le _
    · split
      · show ((b.drop 4).take _).length ≤ _
        rw [List.length_take, List.length_drop]; omega
      · exact Nat.zero_le _
theorem pread_len {D : Dsk} (hO : D.OK) (n : Int) : (D.pread n).2.1.length ≤ 128 := by
  unfold Dsk.pread
  split
  · exact Nat.zero_le _
  · split
    · exact Nat.zero_le _
    · split
      · exact Nat.zero_le _
      · refine Nat.le_trans (openR_len _) ?_
        rw [List.length_append]
        have h1 := read_len hO (2 * n)
        have h2 := read_len hO (2 * n + 1)
        omega
theorem gread_len {D : Dsk} (hO : D.OK) (G : Pgr) (n : Int) : (G.read D n).1.2.1.length ≤ 128 := by
  unfold Pgr.read
  split
  · exact Nat.zero_le _
  · split
    · exact Nat.zero_le _
    · exact pread_len hO n
theorem walkR_len {D : Dsk} {m : Nat} (hO : D.OK) : ∀ (k : Nat) (G : Pgr) (l : List Int) (s : List UInt8) (a : Int), l.length + k ≤ 513 → s.length ≤ 128 * l.length → (walkR D m k G l s a).1.2.1.length ≤ 65664 ∧ (walkR D m k G l s a).1.1.length ≤ 513
  | 0, G, l, s, a, _, _ => ⟨Nat.zero_le _, Nat.zero_le _⟩
  | k + 1, G, l, s, a, hl, hs => by
    have htl := gread_len hO G a
    have h1 : (s ++ (G.read D a).1.2.1.drop 2).length ≤ 128 * (l ++ [a]).length := by rw [List.length_append, List.length_append, List.length_singleton, List.length_drop]; omega
    have h2 : (l ++ [a]).length = l.length + 1 := by rw [List.length_append, List.length_singleton]
    unfold walkR
    split
    · exact ⟨Nat.zero_le _, Nat.zero_le _⟩
    · split
      · exact ⟨Nat.zero_le _, Nat.zero_le _⟩
      · split
        · exact ⟨by show (s ++ _).length ≤ _; omega, by show (l ++ [a]).length ≤ _; omega⟩
        · split
          · exact ⟨Nat.zero_le _, Nat.zero_le _⟩
          · exact walkR_len hO k _ _ _ _ (by omega) h1
theorem walkR_err {D : Dsk} {m : Nat} : ∀ (k : Nat) (G : Pgr) (l : List Int) (s : List UInt8) (a : Int), (walkR D m k G l s a).1.2.2 ≠ 0 → (walkR D m k G l s a).1.2.1 = [] ∧ (walkR D m k G l s a).1.1 = []
  | 0, G, l, s, a, _ => ⟨rfl, rfl⟩
  | k + 1, G, l, s, a, h => by
    unfold walkR at h ⊢
    split
    · exact ⟨rfl, rfl⟩
    · rename_i h1
      rw [if_neg h1] at h
      split
      · exact ⟨rfl, rfl⟩
      · rename_i h2
        rw [if_neg h2] at h
        split
        · rename_i h3
          rw [if_pos h3] at h
          exact absurd rfl h
        · rename_i h3
          rw [if_neg h3] at h
          split
          · exact ⟨rfl, rfl⟩
          · rename_i h4
            rw [if_neg h4] at h
            exact walkR_err k _ _ _ _ h
end Go.AM
namespace Go.AM
section
variable {P : Program} {t : TypeId}
theorem shlG {a j : Nat} {k' : IntKind} (hj : j < 64) (h : a * 2 ^ j < 9223372036854775808) : bin P .shl t (i64 a) (.int k' (j : Int)) = some (i64 (a * 2 ^ j)) := by
  have e : (a : Int) * 2 ^ j = ((a * 2 ^ j : Nat) : Int) := by rw [Int.natCast_mul, Int.natCast_pow]; rfl
  rw [bin_shl (by omega), show min (j : Int).toNat IntKind.i64.bits = j by rw [Int.toNat_natCast, show IntKind.i64.bits = 64 from rfl]; omega, e]
  generalize a * 2 ^ j = q at h
  rw [wrap64 (by omega)]
theorem orG {a b j : Nat} (hb : b < 2 ^ j) (h : a * 2 ^ j + b < 9223372036854775808) : bin P .or t (i64 (a * 2 ^ j)) (i64 b) = some (i64 (a * 2 ^ j + b)) := by
  have e3 : a * 2 ^ j ||| b = a * 2 ^ j + b := by
    have := Nat.two_pow_add_eq_or_of_lt (i := j) (b := b) hb a
    rw [Nat.mul_comm] at this
    exact this.symm
  rw [bin_or]
  congr 2
  rw [BitVec.toNat_or]
  generalize a * 2 ^ j = q at h e3
  have e1 : (BitVec.ofInt IntKind.i64.bits ((q : Nat) : Int)).toNat = q := by
    show (BitVec.ofInt 64 _).toNat = _
    rw [BitVec.toNat_ofInt]; omega
  have e2 : (BitVec.ofInt IntKind.i64.bits (b : Int)).toNat = b := by
    show (BitVec.ofInt 64 _).toNat = _
    rw [BitVec.toNat_ofInt]; omega
  rw [e1, e2, e3, wrap64 (by omega)]
end
theorem getN_four {s : List UInt8} (h : 4 ≤ s.length) : getN (s.take 4) = (((s.getD 0 0).toNat * 256 + (s.getD 1 0).toNat) * 256 + (s.getD 2 0).toNat) * 256 + (s.getD 3 0).toNat := by
  rw [getN_succ (i := 3) (by omega), getN_succ (i := 2) (by omega), getN_succ (i := 1) (by omega), getN_succ (i := 0) (by omega)]
  simp [getN]
theorem getN_two {s : List UInt8} (h : 2 ≤ s.length) : getN (s.take 2) = (s.getD 0 0).toNat * 256 + (s.getD 1 0).toNat := by
  rw [getN_succ (i := 1) (by omega), getN_succ (i := 0) (by omega)]
  simp [getN]
theorem be4_byts (n : Nat) : [u8 (n / 2 ^ 24 % 256), u8 (n / 2 ^ 16 % 256), u8 (n / 2 ^ 8 % 256), u8 (n % 256)] = byts (be 4 n) := by
  show _ = [Value.int .u8 ((UInt8.ofNat (n / 256 ^ 3)).toNat : Int), Value.int .u8 ((UInt8.ofNat (n / 256 ^ 2)).toNat : Int), Value.int .u8 ((UInt8.ofNat (n / 256 ^ 1)).toNat : Int), Value.int .u8 ((UInt8.ofNat (n / 256 ^ 0)).toNat : Int)]
  rw [UInt8.toNat_ofNat', UInt8.toNat_ofNat', UInt8.toNat_ofNat', UInt8.toNat_ofNat']
  simp
theorem be2_byts (n : Nat) : [u8 (n / 2 ^ 8 % 256), u8 (n % 256)] = byts (be 2 n) := by
  show _ = [Value.int .u8 ((UInt8.ofNat (n / 256 ^ 1)).toNat : Int), Value.int .u8 ((UInt8.ofNat (n / 256 ^ 0)).toNat : Int)]
  rw [UInt8.toNat_ofNat', UInt8.toNat_ofNat']
  simp
theorem encV_snoc {l : Vers} {i : Nat} {v : Int × Int} (h : l[i]? = some v) : encV (l.take (i + 1)) = encV (l.take i) ++ (be 4 v.1.toNat ++ be 2 v.2.toNat) := by
  have : ∀ (a : Vers), encV (a ++ [v]) = encV a ++ (be 4 v.1.toNat ++ be 2 v.2.toNat) := by
    intro a
    induction a with
    | nil => simp [encV]
    | cons x r ih => simp [encV, ih, List.append_assoc]
  rw [List.take_add_one, h]
  exact this _
theorem blk_extN {X H H' : AH} : blk (extH X H H') H.length = blk H' H.length := by
  have h1 : (X.take H.length ++ List.replicate (H.length - X.length) (none : Option Blk)).length = H.length := by
    rw [List.length_append, List.length_take, List.length_replicate]; omega
  unfold extH
  generalize blk H' H.length = z
  unfold blk
  rw [List.getElem?_append_right (by omega), h1, Nat.sub_self]
  rfl
theorem cvS_blk {P : Program} {t d e : TypeId} [h1 : Und P t (.slice e)] [h2 : Und P d .string] [h3 : Und P e (.int .u8)] {H : AH} {b n cap : Nat} {bs : List UInt8} {kd : BK} (hb : blk H b = some ⟨byts bs, e, kd⟩) (hn : n ≤ cap) (ho : bs.length = n) :
    cvS P t d H (sl b 0 n cap) = some (str bs) := by
  have h : ScN H (sl b 0 n cap) n 1 ((bs.map UInt8.toNat).map u8) := by
    refine .inr ⟨b, 0, cap, rfl, hn, by simp; omega, .inr ⟨_, hb, ?_⟩⟩
    unfold rdN
    rw [if_pos (by simp only [byts_len]; omega), Nat.mul_one]
    show some ((byts bs).drop 0 |>.take n) = some (byts bs)
    rw [List.drop_zero, List.take_of_length_le (by rw [byts_len]; omega)]
  have := h.cvS (P := P) (t := t) (d := d)
  rwa [byts_back] at this
theorem cvS_ext {P : Program} {t d e : TypeId} [h1 : Und P t (.slice e)] [h2 : Und P d .string] [h3 : Und P e (.int .u8)] {X H H' : AH} {n cap : Nat} {bs : List UInt8} {kd : BK} (hb : blk H' H.length = some ⟨byts bs, e, kd⟩) (hn : n ≤ cap) (ho : bs.length = n) :
    cvS P t d (extH X H H') (sl H.length 0 n cap) = some (str bs) := cvS_blk (by rw [blk_extN]; exact hb) hn ho
section
variable {P : Program} {t e : TypeId} {z : Value} {sz : Nat} {R : Type} {B0 B H0 H : AH} {L : List (Nat × Blk)}
theorem Ev.bsX {m : Nat} {parts : List (Nat × Value)} {l cs : List Value} {f : Nat → Nat → Value → AH → Option R} {Q : R → Prop} [hE : Elt P t e z sz] [hS : St H0 B0 B L H] [hr : Rep m z l] [hf : FillL l parts cs] (hm : m ≤ 16777216)
    (h : ∀ H', blk H' H.length = some ⟨cs, e, .fix⟩ → St H0 B0 B ((H.length, ⟨cs, e, .fix⟩) :: L) H' → Ev (fun k n => f k n (sl H.length 0 m m) H') Q) : Ev (fun k n => Go.AM.b2 (Go.AM.buildS P t H m parts) (f k n)) Q := by
  have hS' := hS.mkB' cs e .fix
  refine Ev.prim2 ?_ (h _ (hS'.get (.head _)) hS')
  unfold Go.AM.buildS
  rw [hE.U]; simp only [hE.Z, hE.S, hE.zn, Option.bind_some, rep_one]
  rw [if_pos ⟨by omega, size_cells hE.zn⟩, hr.eq, hf.eq]; rfl
end
def Pgr.csave (G : Pgr) (D : Dsk) (next : Int) (l : Vers) : Int × Int × Pgr × Dsk := if rightC next l = true then G.bwrite D (encC next l) else (0, 1, G, D)
def Pgr.cload (G : Pgr) (D : Dsk) : (Int × Vers × Int) × Pgr :=
  if G.root = 0 then ((1, [], 0), G)
  else if (G.walk D G.root).1.2.2 ≠ 0 then ((0, [], (G.walk D G.root).1.2.2), (G.walk D G.root).2)
  else match decC (G.walk D G.root).1.2.1 with
    | none => ((0, [], 2), (G.walk D G.root).2)
    | some x => ((x.1, x.2, 0), (G.walk D G.root).2)
theorem csave_in {m : Nat} {G : Pgr} {D : Dsk} (next : Int) (l : Vers) (h : G.In m) (hO : D.OK) (hm : D.n / 2 = m) : (G.csave D next l).2.2.1.In m ∧ (G.csave D next l).2.2.2.OK ∧ (G.csave D next l).2.2.2.n = D.n ∧ (G.csave D next l).2.2.2.cache.length ≤ D.cache.length + 2 := by
  unfold Pgr.csave
  split
  · rename_i hr
    obtain ⟨a, b, c, d⟩ := bwrite_in (encC next l) h hO hm
    have hle := encC_len hr
    have hn1 : need (encC next l).length = 1 := by unfold need; split <;> omega
    rw [hn1] at d
    exact ⟨a, b, c, d⟩
  · exact ⟨h, hO, rfl, Nat.le_add_right _ _⟩
theorem cload_in {m : Nat} {G : Pgr} {D : Dsk} (h : G.In m) (hm : D.n / 2 = m) : (G.cload D).2.In m := by
  subst hm
  unfold Pgr.cload
  split
  · exact h
  · have := walkR_in (D := D) (m := D.n / 2) 513 G [] [] G.root h
    split
    · exact this
    · split <;> exact this
theorem decC_len {s : List UInt8} {n : Int} {l : Vers} (h : decC s = some (n, l)) : l.length ≤ 12 := by
  have := (decC_some h).1
  unfold rightC at this
  simp only [Bool.and_eq_true, decide_eq_true_eq] at this
  exact this.1.2
theorem cload_len (G : Pgr) (D : Dsk) : (G.cload D).1.2.1.length ≤ 12 := by
  unfold Pgr.cload
  split
  · exact Nat.zero_le _
  · split
    · exact Nat.zero_le _
    · split
      · exact Nat.zero_le _
      · rename_i x h
        exact decC_len h
end Go.AM
namespace Go.AM.E
open Go Go.AM Go.Proofs
attribute [local irreducible] run bin un ld st box newV mkS fldA fld ixA ix slc slc3 build buildS cv cvS ap cpy lenV gOp pickV b2 aIf aChk evalK resume iterD Option.bind

section
variable {B B0 H0 H : AH} {L : List (Nat × Blk)}
theorem r23root_spec {n : Int} : Ev (fun k _ => rn k 97 [.int .i64 n] H) (fun r => r = (.bool (rootV n), H)) := by
  refine Ev.fn (fun k => f97_eq k _ H) ?_
  unfold rootV
  repeat (first|refine zA ?_|refine zB fun _ _ _=>?_|refine zC fun _ _ _=>?_|refine zD fun _ _=>?_|refine zE ?_|refine zF ?_)
  by_cases h0 : n = 0
  · rw [decide_eq_true h0]
    repeat (first | (first|refine zA ?_|refine zB fun _ _ _=>?_|refine zC fun _ _ _=>?_|refine zD fun _ _=>?_|refine zE ?_|refine zF ?_) | rw [decide_eq_true (by omega)] | rw [decide_eq_false (by omega)])
    exact Ev.ret rfl
  · rw [decide_eq_false h0]
    repeat (first|refine zA ?_|refine zB fun _ _ _=>?_|refine zC fun _ _ _=>?_|refine zD fun _ _=>?_|refine zE ?_|refine zF ?_)
    by_cases h1 : 2 ≤ n
    · rw [decide_eq_true h1]
      repeat (first|refine zA ?_|refine zB fun _ _ _=>?_|refine zC fun _ _ _=>?_|refine zD fun _ _=>?_|refine zE ?_|refine zF ?_)
      exact Ev.ret rfl
    · rw [decide_eq_false h1]
      repeat (first | (first|refine zA ?_|refine zB fun _ _ _=>?_|refine zC fun _ _ _=>?_|refine zD fun _ _=>?_|refine zE ?_|refine zF ?_) | rw [decide_eq_true (by omega)] | rw [decide_eq_false (by omega)])
      exact Ev.ret rfl
theorem r23number_spec {s : List UInt8} (hs : 4 ≤ s.length) (hs2 : s.length < 1000000000000) : Ev (fun k _ => rn k 72 [str s] H) (fun r => r = (i64 (getN (s.take 4)), H)) := by
  refine Ev.fn (fun k => f72_eq k _ H) ?_
  have g0 := UInt8.toNat_lt (s.getD 0 0)
  have g1 := UInt8.toNat_lt (s.getD 1 0)
  have g2 := UInt8.toNat_lt (s.getD 2 0)
  have g3 := UInt8.toNat_lt (s.getD 3 0)
  rw [getN_four hs]
  refine Ev.prim (show ix Tryz.prog 9 (str s) (.int .i64 0) = some (u8 (s.getD 0 0).toNat) from ix_str 0 rfl (by omega)) ?_
  generalize (s.getD 0 0).toNat = a at g0 ⊢
  repeat (first|refine zA ?_|refine zB fun _ _ _=>?_|refine zC fun _ _ _=>?_|refine zD fun _ _=>?_|refine zE ?_|refine zF ?_)
  refine Ev.prim (show bin Tryz.prog .shl 3 (i64 a) (.int .u64 24) = some (i64 (a * 2 ^ 24)) from shlG (j := 24) (by decide) (by omega)) ?_
  refine Ev.prim (show ix Tryz.prog 9 (str s) (.int .i64 1) = some (u8 (s.getD 1 0).toNat) from ix_str 1 rfl (by omega)) ?_
  generalize (s.getD 1 0).toNat = b at g1 ⊢
  repeat (first|refine zA ?_|refine zB fun _ _ _=>?_|refine zC fun _ _ _=>?_|refine zD fun _ _=>?_|refine zE ?_|refine zF ?_)
  refine Ev.prim (show bin Tryz.prog .shl 3 (i64 b) (.int .u64 16) = some (i64 (b * 2 ^ 16)) from shlG (j := 16) (by decide) (by omega)) ?_
  refine Ev.prim (orG (j := 24) (by omega) (by omega)) ?_
  refine Ev.prim (show ix Tryz.prog 9 (str s) (.int .i64 2) = some (u8 (s.getD 2 0).toNat) from ix_str 2 rfl (by omega)) ?_
  generalize (s.getD 2 0).toNat = c at g2 ⊢
  repeat (first|refine zA ?_|refine zB fun _ _ _=>?_|refine zC fun _ _ _=>?_|refine zD fun _ _=>?_|refine zE ?_|refine zF ?_)
  refine Ev.prim (show bin Tryz.prog .shl 3 (i64 c) (.int .u64 8) = some (i64 (c * 2 ^ 8)) from shlG (j := 8) (by decide) (by omega)) ?_
  rw [show a * 2 ^ 24 + b * 2 ^ 16 = (a * 256 + b) * 2 ^ 16 by omega]
  refine Ev.prim (orG (j := 16) (by omega) (by omega)) ?_
  refine Ev.prim (show ix Tryz.prog 9 (str s) (.int .i64 3) = some (u8 (s.getD 3 0).toNat) from ix_str 3 rfl (by omega)) ?_
  generalize (s.getD 3 0).toNat = d at g3 ⊢
  repeat (first|refine zA ?_|refine zB fun _ _ _=>?_|refine zC fun _ _ _=>?_|refine zD fun _ _=>?_|refine zE ?_|refine zF ?_)
  rw [show (a * 256 + b) * 2 ^ 16 + c * 2 ^ 8 = ((a * 256 + b) * 256 + c) * 2 ^ 8 by omega]
  refine Ev.prim (orG (j := 8) (by omega) (by omega)) ?_
  exact Ev.ret rfl
theorem r23four_spec {n : Nat} (hn : n < 9223372036854775808) (hS : St H0 B0 B L H) : Ev (fun k _ => rn k 77 [i64 n] H) (fun r => r.1 = str (be 4 n) ∧ St H0 B0 B L r.2) := by
  refine Ev.fn (fun k => f77_eq k _ H) ?_
  refine Ev.prim (show bin Tryz.prog .shr 3 (i64 n) (.int .u64 24) = some (i64 (n / 2 ^ 24)) from shrN (b := 24) (by decide)) ?_
  refine Ev.prim (toU8 (Und.eq (P := Tryz.prog) (t := 3)) (Und.eq (P := Tryz.prog) (t := 5))) ?_
  refine Ev.prim (show bin Tryz.prog .shr 3 (i64 n) (.int .u64 16) = some (i64 (n / 2 ^ 16)) from shrN (b := 16) (by decide)) ?_
  refine Ev.prim (toU8 (Und.eq (P := Tryz.prog) (t := 3)) (Und.eq (P := Tryz.prog) (t := 5))) ?_
  refine Ev.prim (show bin Tryz.prog .shr 3 (i64 n) (.int .u64 8) = some (i64 (n / 2 ^ 8)) from shrN (b := 8) (by decide)) ?_
  refine Ev.prim (toU8 (Und.eq (P := Tryz.prog) (t := 3)) (Und.eq (P := Tryz.prog) (t := 5))) ?_
  refine Ev.prim (toU8 (Und.eq (P := Tryz.prog) (t := 3)) (Und.eq (P := Tryz.prog) (t := 5))) ?_
  refine Ev.bsC (P := Tryz.prog) (t := 95) (hS := hS) (by decide) fun b H1 hS1 => ?_
  have e := be4_byts n
  rw [e] at hS1
  refine Ev.prim (cvS_part (d := 9) (bs := be 4 n) hS1 (.head _) (Nat.le_refl _) (by rw [be_len]; decide)) ?_
  rw [List.drop_zero, List.take_of_length_le (by rw [be_len]; exact Nat.le_refl _)]
  exact Ev.ret ⟨rfl, hS1.drop1⟩
def prevV (l : Vers) (i : Nat) : Int := if i = 0 then 0 else (l.getD (i - 1) (0, 0)).1
theorem r23right_loop {c : Nat} {next : Int} {sv : Value} {l : Vers} (hv : ScN B sv l.length 2 (verC l)) (hl : l.length ≤ 12) : ∀ (m i : Nat) (H : AH), i + m = l.length → 0 ≤ prevV l i → St H0 B0 B ((c, ⟨[.int .i64 next, sv], 41, .fix⟩) :: L) H →
    Ev (fun k K => f73_L0 k (ptr c 0) (i64 i) K H) (fun o => (rightV next (prevV l i) (l.drop i) = true ∧ ∃ H', o = (.exit 0, f73_X_L0 unk, H') ∧ St H0 B0 B ((c, ⟨[.int .i64 next, sv], 41, .fix⟩) :: L) H') ∨
      (rightV next (prevV l i) (l.drop i) = false ∧ ∃ H', o = (.ret, f73_X_L0 (.bool false), H') ∧ St H0 B0 B ((c, ⟨[.int .i64 next, sv], 41, .fix⟩) :: L) H')) := by
  intro m
  have hcell := hv.cell
  have hlen := hv.len (Und.eq (P := Tryz.prog) (t := 39))
  induction m with
  | zero =>
    intro i H hi hp hS
    refine Ev.succ (fun k K => f73_L0_succ k _ _ K H) ?_
    repeat (first|refine zA ?_|refine zB fun _ _ _=>?_|refine zC fun _ _ _=>?_|refine zD fun _ _=>?_|refine zE ?_|refine zF ?_)
    refine Ev.prim hlen ?_
    repeat (first | (first|refine zA ?_|refine zB fun _ _ _=>?_|refine zC fun _ _ _=>?_|refine zD fun _ _=>?_|refine zE ?_|refine zF ?_) | rw [decide_eq_true (by omega)] | rw [decide_eq_false (by omega)])
    rw [List.drop_of_length_le (by omega)]
    exact Ev.ret (.inl ⟨rfl, H, rfl, hS⟩)
  | succ m ih =>
    intro i H hi hp hS
    refine Ev.succ (fun k K => f73_L0_succ k _ _ K H) ?_
    repeat (first|refine zA ?_|refine zB fun _ _ _=>?_|refine zC fun _ _ _=>?_|refine zD fun _ _=>?_|refine zE ?_|refine zF ?_)
    refine Ev.prim hlen ?_
    repeat (first | (first|refine zA ?_|refine zB fun _ _ _=>?_|refine zC fun _ _ _=>?_|refine zD fun _ _=>?_|refine zE ?_|refine zF ?_) | rw [decide_eq_true (by omega)] | rw [decide_eq_false (by omega)])
    obtain ⟨v, hvi⟩ : ∃ v, l[i]? = some v := ⟨_, List.getElem?_eq_getElem (by omega)⟩
    have hd : l.drop i = v :: l.drop (i + 1) := by
      have h1 := List.getElem?_eq_some_iff.1 hvi
      rw [← h1.2]
      exact List.drop_eq_getElem_cons h1.1
    have hpn : prevV l (i + 1) = v.1 := by
      unfold prevV
      rw [if_neg (by omega), Nat.add_sub_cancel, List.getD_eq_getElem?_getD, hvi]; rfl
    have hN := ScN.mono hS.le hv
    obtain ⟨p, q1, q2⟩ := hN.ldAt (P := Tryz.prog) (t := 39) (k := .i64) (i := i) (by omega) (AggOf.eq (P := Tryz.prog) (t := 94))
    rw [verC_at hvi] at q2
    refine Ev.prim q1 ?_
    refine Ev.prim q2 ?_
    clear q1 q2 hN
    repeat (first|refine zA ?_|refine zB fun _ _ _=>?_|refine zC fun _ _ _=>?_|refine zD fun _ _=>?_|refine zE ?_|refine zF ?_)
    rename_i b1 H1 hS1 H2 hS2
    clear hS hS1
    have hrv : rightV next (prevV l i) (v :: l.drop (i + 1)) = (decide (prevV l i < v.1) && decide (v.1 < next) && rootV v.2 && rightV next v.1 (l.drop (i + 1))) := rfl
    rw [hd, hrv]
    by_cases h1 : v.1 < 1
    · rw [decide_eq_true h1, decide_eq_false (show ¬ prevV l i < v.1 by omega)]
      repeat (first|refine zA ?_|refine zB fun _ _ _=>?_|refine zC fun _ _ _=>?_|refine zD fun _ _=>?_|refine zE ?_|refine zF ?_)
      exact Ev.ret (.inr ⟨rfl, _, rfl, hS2.drop1⟩)
    rw [decide_eq_false h1]
    repeat (first|refine zA ?_|refine zB fun _ _ _=>?_|refine zC fun _ _ _=>?_|refine zD fun _ _=>?_|refine zE ?_|refine zF ?_)
    by_cases h2 : next ≤ v.1
    · rw [decide_eq_true h2, decide_eq_false (show ¬ v.1 < next by omega)]
      repeat (first|refine zA ?_|refine zB fun _ _ _=>?_|refine zC fun _ _ _=>?_|refine zD fun _ _=>?_|refine zE ?_|refine zF ?_)
      refine Ev.ret (.inr ⟨?_, _, rfl, hS2.drop1⟩)
      rw [Bool.and_false]; rfl
    rw [decide_eq_false h2, decide_eq_true (show v.1 < next by omega)]
    repeat (first|refine zA ?_|refine zB fun _ _ _=>?_|refine zC fun _ _ _=>?_|refine zD fun _ _=>?_|refine zE ?_|refine zF ?_)
    refine Ev.b2 (r23root_spec (n := v.2)) ?_
    rintro _ _ h
    cases h
    by_cases h3 : rootV v.2 = true
    case neg =>
      rw [Bool.not_eq_true] at h3
      rw [h3]
      repeat (first|refine zA ?_|refine zB fun _ _ _=>?_|refine zC fun _ _ _=>?_|refine zD fun _ _=>?_|refine zE ?_|refine zF ?_)
      refine Ev.ret (.inr ⟨?_, _, rfl, hS2.drop1⟩)
      rw [Bool.and_false]; rfl
    rw [h3]
    repeat (first|refine zA ?_|refine zB fun _ _ _=>?_|refine zC fun _ _ _=>?_|refine zD fun _ _=>?_|refine zE ?_|refine zF ?_)
    by_cases hi0 : i = 0
    · subst hi0
      repeat (first|refine zA ?_|refine zB fun _ _ _=>?_|refine zC fun _ _ _=>?_|refine zD fun _ _=>?_|refine zE ?_|refine zF ?_)
      first | rw [decide_eq_false (show ¬ (0 : Nat) < 0 by decide)] | rw [decide_eq_false (show ¬ (0 : Int) < 0 by decide)]
      repeat (first | (first|refine zA ?_|refine zB fun _ _ _=>?_|refine zC fun _ _ _=>?_|refine zD fun _ _=>?_|refine zE ?_|refine zF ?_) | rw [decide_eq_true (by omega)] | rw [decide_eq_false (by omega)])
      have hp0 : prevV l 0 = 0 := rfl
      rw [hp0, decide_eq_true (show 0 < v.1 by omega)]
      have := ih 1 H2 (by omega) (by rw [hpn]; omega) hS2.drop1
      rw [hpn] at this
      simp only [Bool.true_and, Bool.and_true]
      exact this
    · rw [decide_eq_true (show 0 < i by omega)]
      repeat (first | (first|refine zA ?_|refine zB fun _ _ _=>?_|refine zC fun _ _ _=>?_|refine zD fun _ _=>?_|refine zE ?_|refine zF ?_) | rw [decide_eq_true (by omega)] | rw [decide_eq_false (by omega)])
      obtain ⟨u, hui⟩ : ∃ u, l[i - 1]? = some u := ⟨_, List.getElem?_eq_getElem (by omega)⟩
      have hpi : prevV l i = u.1 := by
        unfold prevV
        rw [if_neg hi0, List.getD_eq_getElem?_getD, hui]; rfl
      have hN2 := ScN.mono hS2.le hv
      obtain ⟨bp, o, w1, w2⟩ := scn_at2 (t := 39) (k := .i64) (i := i - 1) hN2 (by omega)
      have w3 := w2 3 0 _ (AggOf.eq (P := Tryz.prog) (t := 3)) (by decide) (verC_fst hui).1
      rw [Nat.add_zero] at w3
      rw [w1, Option.bind_some]
      repeat (first|refine zA ?_|refine zB fun _ _ _=>?_|refine zC fun _ _ _=>?_|refine zD fun _ _=>?_|refine zE ?_|refine zF ?_)
      rw [w3, Option.bind_some]
      repeat (first|refine zA ?_|refine zB fun _ _ _=>?_|refine zC fun _ _ _=>?_|refine zD fun _ _=>?_|refine zE ?_|refine zF ?_)
      rw [hpi]
      by_cases h4 : v.1 ≤ u.1
      · rw [decide_eq_true h4, decide_eq_false (show ¬ u.1 < v.1 by omega)]
        repeat (first|refine zA ?_|refine zB fun _ _ _=>?_|refine zC fun _ _ _=>?_|refine zD fun _ _=>?_|refine zE ?_|refine zF ?_)
        exact Ev.ret (.inr ⟨rfl, _, rfl, hS2.drop1⟩)
      · rw [decide_eq_false h4, decide_eq_true (show u.1 < v.1 by omega)]
        repeat (first | (first|refine zA ?_|refine zB fun _ _ _=>?_|refine zC fun _ _ _=>?_|refine zD fun _ _=>?_|refine zE ?_|refine zF ?_) | rw [decide_eq_true (by omega)] | rw [decide_eq_false (by omega)])
        have := ih (i + 1) H2 (by omega) (by rw [hpn]; omega) hS2.drop1
        rw [hpn] at this
        simp only [Bool.true_and, Bool.and_true]
        exact this
theorem r23Right_spec {next : Int} {sv : Value} {l : Vers} (hv : ScN B sv l.length 2 (verC l)) (hl : l.length < 1000000000) (hS : St H0 B0 B L H) :
    Ev (fun k _ => rn k 73 [.agg #[.int .i64 next, sv]] H) (fun r => r.1 = .bool (rightC next l) ∧ St H0 B0 B L r.2) := by
  refine Ev.fn (fun k => f73_eq k _ H) ?_
  have hcell := hv.cell
  have hlen := hv.len (Und.eq (P := Tryz.prog) (t := 39))
  unfold rightC
  repeat (first|refine zA ?_|refine zB fun _ _ _=>?_|refine zC fun _ _ _=>?_|refine zD fun _ _=>?_|refine zE ?_|refine zF ?_)
  rename_i c H1 hS1
  clear hS
  by_cases h1 : next < 1
  · rw [decide_eq_true h1, decide_eq_false (show ¬ 1 ≤ next by omega)]
    repeat (first|refine zA ?_|refine zB fun _ _ _=>?_|refine zC fun _ _ _=>?_|refine zD fun _ _=>?_|refine zE ?_|refine zF ?_)
    exact Ev.ret ⟨rfl, hS1.drop1⟩
  rw [decide_eq_false h1, decide_eq_true (show 1 ≤ next by omega)]
  repeat (first|refine zA ?_|refine zB fun _ _ _=>?_|refine zC fun _ _ _=>?_|refine zD fun _ _=>?_|refine zE ?_|refine zF ?_)
  by_cases h2 : 16777216 < next
  · rw [decide_eq_true h2, decide_eq_false (show ¬ next ≤ 16777216 by omega)]
    repeat (first|refine zA ?_|refine zB fun _ _ _=>?_|refine zC fun _ _ _=>?_|refine zD fun _ _=>?_|refine zE ?_|refine zF ?_)
    exact Ev.ret ⟨rfl, hS1.drop1⟩
  rw [decide_eq_false h2, decide_eq_true (show next ≤ 16777216 by omega)]
  repeat (first|refine zA ?_|refine zB fun _ _ _=>?_|refine zC fun _ _ _=>?_|refine zD fun _ _=>?_|refine zE ?_|refine zF ?_)
  rw [hlen, Option.bind_some]
  repeat (first|refine zA ?_|refine zB fun _ _ _=>?_|refine zC fun _ _ _=>?_|refine zD fun _ _=>?_|refine zE ?_|refine zF ?_)
  by_cases h3 : 12 < l.length
  · rw [decide_eq_true h3, decide_eq_false (show ¬ l.length ≤ 12 by omega)]
    repeat (first|refine zA ?_|refine zB fun _ _ _=>?_|refine zC fun _ _ _=>?_|refine zD fun _ _=>?_|refine zE ?_|refine zF ?_)
    exact Ev.ret ⟨rfl, hS1.drop1⟩
  rw [decide_eq_false h3, decide_eq_true (show l.length ≤ 12 by omega)]
  repeat (first|refine zA ?_|refine zB fun _ _ _=>?_|refine zC fun _ _ _=>?_|refine zD fun _ _=>?_|refine zE ?_|refine zF ?_)
  refine Ev.bind (Ev.loop (r23right_loop hv (by omega) l.length 0 H1 (by omega) (Int.le_refl _) hS1)) ?_
  rintro _ (⟨h, H2, rfl, hS2⟩ | ⟨h, H2, rfl, hS2⟩)
  · rw [List.drop_zero] at h
    refine Ev.eq (fun k _ => f73_A0_x0 k _ H2) ?_
    exact Ev.ret ⟨by rw [show rightV next 0 l = true from h]; rfl, hS2.drop1⟩
  · rw [List.drop_zero] at h
    refine Ev.eq (fun k _ => f73_A0_ret k _ H2) ?_
    exact Ev.ret ⟨by rw [show rightV next 0 l = false from h]; rfl, hS2.drop1⟩
end
end Go.AM.E
namespace Go.AM.E
open Go Go.AM Go.Proofs
attribute [local irreducible] run bin un ld st box newV mkS fldA fld ixA ix slc slc3 build buildS cv cvS ap cpy lenV gOp pickV b2 aIf aChk evalK resume iterD Option.bind

section
variable {B B0 H0 H : AH} {L : List (Nat × Blk)}
theorem r23enc_loop {c : Nat} {next : Int} {sv : Value} {l : Vers} (hv : ScN B sv l.length 2 (verC l)) (hl : l.length ≤ 12) (hmem : ∀ v ∈ l, 0 ≤ v.1 ∧ v.1 < 4294967296 ∧ 0 ≤ v.2 ∧ v.2 < 512) : ∀ (m i : Nat) (H : AH), i + m = l.length → St H0 B0 B ((c, ⟨[.int .i64 next, sv], 41, .fix⟩) :: L) H →
    Ev (fun k K => f35_L0 k (ptr c 0) (str (be 4 next.toNat ++ encV (l.take i))) (i64 i) K H) (fun o => ∃ H', o = (.exit 0, f35_X_L0 (str (encC next l)), H') ∧ St H0 B0 B ((c, ⟨[.int .i64 next, sv], 41, .fix⟩) :: L) H') := by
  intro m
  have hcell := hv.cell
  have hlen := hv.len (Und.eq (P := Tryz.prog) (t := 39))
  induction m with
  | zero =>
    intro i H hi hS
    refine Ev.succ (fun k K => f35_L0_succ k _ _ _ K H) ?_
    repeat (first|refine zA ?_|refine zB fun _ _ _=>?_|refine zC fun _ _ _=>?_|refine zD fun _ _=>?_|refine zE ?_|refine zF ?_)
    refine Ev.prim hlen ?_
    repeat (first | (first|refine zA ?_|refine zB fun _ _ _=>?_|refine zC fun _ _ _=>?_|refine zD fun _ _=>?_|refine zE ?_|refine zF ?_) | rw [decide_eq_true (by omega)] | rw [decide_eq_false (by omega)])
    rw [List.take_of_length_le (by omega)]
    exact Ev.ret ⟨H, rfl, hS⟩
  | succ m ih =>
    intro i H hi hS
    refine Ev.succ (fun k K => f35_L0_succ k _ _ _ K H) ?_
    repeat (first|refine zA ?_|refine zB fun _ _ _=>?_|refine zC fun _ _ _=>?_|refine zD fun _ _=>?_|refine zE ?_|refine zF ?_)
    refine Ev.prim hlen ?_
    repeat (first | (first|refine zA ?_|refine zB fun _ _ _=>?_|refine zC fun _ _ _=>?_|refine zD fun _ _=>?_|refine zE ?_|refine zF ?_) | rw [decide_eq_true (by omega)] | rw [decide_eq_false (by omega)])
    obtain ⟨v, hvi⟩ : ∃ v, l[i]? = some v := ⟨_, List.getElem?_eq_getElem (by omega)⟩
    obtain ⟨m1, m2, m3, m4⟩ := hmem v (List.mem_of_getElem? hvi)
    obtain ⟨e1, e2⟩ := verC_fst hvi
    obtain ⟨bp, o, q1, q2⟩ := scn_at2 (t := 39) (k := .i64) (i := i) (ScN.mono hS.le hv) (by omega)
    have q3 := q2 3 0 _ (AggOf.eq (P := Tryz.prog) (t := 3)) (by decide) e1
    have q4 := q2 3 1 _ (AggOf.eq (P := Tryz.prog) (t := 3)) (by decide) e2
    rw [Nat.add_zero] at q3
    have hsn := encV_snoc hvi
    obtain ⟨v1, v2⟩ := v
    dsimp only at m1 m2 m3 m4 q3 q4 hsn
    obtain ⟨a, rfl⟩ : ∃ a : Nat, v1 = a := ⟨v1.toNat, by omega⟩
    obtain ⟨d, rfl⟩ : ∃ d : Nat, v2 = d := ⟨v2.toNat, by omega⟩
    rw [Int.toNat_natCast, Int.toNat_natCast] at hsn
    refine Ev.prim q1 ?_
    repeat (first|refine zA ?_|refine zB fun _ _ _=>?_|refine zC fun _ _ _=>?_|refine zD fun _ _=>?_|refine zE ?_|refine zF ?_)
    refine Ev.prim q3 ?_
    refine Ev.b2 (r23four_spec (n := a) (by omega) hS) ?_
    rintro _ H2 ⟨rfl, hS2⟩
    dsimp only at hS2
    have hls : (be 4 next.toNat ++ encV (l.take i)).length ≤ 4 + 6 * i := by rw [List.length_append, be_len, encV_len, List.length_take]; omega
    refine Ev.prim (add_str (a := be 4 next.toNat ++ encV (l.take i)) (b := be 4 a) (by rw [be_len]; omega)) ?_
    have hg2 : ld Tryz.prog 39 H (ptr c 1) = some sv := by rw [ld_blk (hS.get (.head _))]; exact PrimEq.eq
    obtain ⟨bp2, o2, w1, w2⟩ := scn_at2 (t := 39) (k := .i64) (i := i) (ScN.mono hS2.le hv) (by omega)
    have w4 := w2 3 1 _ (AggOf.eq (P := Tryz.prog) (t := 3)) (by decide) e2
    have ew : ptr bp2 o2 = ptr bp o := Option.some.inj (w1.symm.trans q1)
    cases ew
    clear hS
    repeat (first|refine zA ?_|refine zB fun _ _ _=>?_|refine zC fun _ _ _=>?_|refine zD fun _ _=>?_|refine zE ?_|refine zF ?_)
    refine Ev.chk hg2 ?_
    refine Ev.prim q1 ?_
    repeat (first|refine zA ?_|refine zB fun _ _ _=>?_|refine zC fun _ _ _=>?_|refine zD fun _ _=>?_|refine zE ?_|refine zF ?_)
    refine Ev.prim w4 ?_
    refine Ev.chk q4 ?_
    refine Ev.prim (show bin Tryz.prog .shr 3 (i64 d) (.int .u64 8) = some (i64 (d / 2 ^ 8)) from shrN (b := 8) (by decide)) ?_
    refine Ev.prim (toU8 (Und.eq (P := Tryz.prog) (t := 3)) (Und.eq (P := Tryz.prog) (t := 5))) ?_
    repeat (first|refine zA ?_|refine zB fun _ _ _=>?_|refine zC fun _ _ _=>?_|refine zD fun _ _=>?_|refine zE ?_|refine zF ?_)
    refine Ev.chk hg2 ?_
    refine Ev.prim q1 ?_
    repeat (first|refine zA ?_|refine zB fun _ _ _=>?_|refine zC fun _ _ _=>?_|refine zD fun _ _=>?_|refine zE ?_|refine zF ?_)
    refine Ev.prim w4 ?_
    refine Ev.chk q4 ?_
    refine Ev.prim (toU8 (Und.eq (P := Tryz.prog) (t := 3)) (Und.eq (P := Tryz.prog) (t := 5))) ?_
    refine Ev.bsX (P := Tryz.prog) (t := 95) (hS := hS2) (by decide) fun H3 hb3 hS3 => ?_
    rw [be2_byts d] at hb3 hS3
    refine Ev.prim (cvS_blk (d := 9) (bs := be 2 d) hb3 (Nat.le_refl _) (be_len _ _)) ?_
    refine Ev.chk (cvS_ext (d := 9) (bs := be 2 d) hb3 (Nat.le_refl _) (be_len _ _)) ?_
    refine Ev.prim (add_str (a := be 4 next.toNat ++ encV (l.take i) ++ be 4 a) (b := be 2 d) (by rw [List.length_append, be_len, be_len]; omega)) ?_
    have hS4 := hS3.drop1
    clear hS2 hS3 hb3
    repeat (first | (first|refine zA ?_|refine zB fun _ _ _=>?_|refine zC fun _ _ _=>?_|refine zD fun _ _=>?_|refine zE ?_|refine zF ?_) | rw [decide_eq_true (by omega)] | rw [decide_eq_false (by omega)])
    have := ih (i + 1) H3 (by omega) hS4
    rw [hsn, ← List.append_assoc, ← List.append_assoc] at this
    exact this
theorem r23Encode_spec {next : Int} {sv : Value} {l : Vers} (hv : ScN B sv l.length 2 (verC l)) (hl : l.length < 1000000000) (hS : St H0 B0 B L H) :
    Ev (fun k _ => rn k 35 [.agg #[.int .i64 next, sv]] H) (fun r => r.1 = (if rightC next l = true then .tuple #[str (encC next l), .bool true] else .tuple #[str [], .bool false]) ∧ St H0 B0 B L r.2) := by
  refine Ev.fn (fun k => f35_eq k _ H) ?_
  have hcell := hv.cell
  repeat (first|refine zA ?_|refine zB fun _ _ _=>?_|refine zC fun _ _ _=>?_|refine zD fun _ _=>?_|refine zE ?_|refine zF ?_)
  rename_i c H1 hS1
  clear hS
  refine Ev.b2 (r23Right_spec hv hl hS1) ?_
  rintro _ H2 ⟨rfl, hS2⟩
  dsimp only at hS2
  clear hS1
  by_cases hr : rightC next l = true
  case neg =>
    rw [if_neg hr]
    rw [Bool.not_eq_true] at hr
    rw [hr]
    repeat (first|refine zA ?_|refine zB fun _ _ _=>?_|refine zC fun _ _ _=>?_|refine zD fun _ _=>?_|refine zE ?_|refine zF ?_)
    exact Ev.ret ⟨rfl, hS2.drop1⟩
  rw [if_pos hr, hr]
  repeat (first|refine zA ?_|refine zB fun _ _ _=>?_|refine zC fun _ _ _=>?_|refine zD fun _ _=>?_|refine zE ?_|refine zF ?_)
  have hrr := hr
  unfold rightC at hrr
  simp only [Bool.and_eq_true, decide_eq_true_eq] at hrr
  obtain ⟨⟨⟨n1, n2⟩, n3⟩, n4⟩ := hrr
  have hmem := rightV_mem l 0 (Int.le_refl _) n4
  obtain ⟨n, rfl⟩ : ∃ n : Nat, next = n := ⟨next.toNat, by omega⟩
  refine Ev.b2 (r23four_spec (n := n) (by omega) hS2) ?_
  rintro _ H3 ⟨rfl, hS3⟩
  dsimp only at hS3
  clear hS2
  have key := r23enc_loop hv n3 (fun v hv2 => by have := hmem v hv2; omega) l.length 0 H3 (by omega) hS3
  rw [Int.toNat_natCast, List.take_zero, show encV [] = [] from rfl, List.append_nil] at key
  refine Ev.bind (Ev.loop key) ?_
  rintro _ ⟨H4, rfl, hS4⟩
  refine Ev.eq (fun k _ => f35_A0_x0 k _ H4) ?_
  exact Ev.ret ⟨rfl, hS4.drop1⟩
theorem r23dec_loop {a c k : Nat} {n : Int} {s : List UInt8} (hs : s.length = 4 + 6 * k) (hk : k ≤ 1000000) : ∀ (m i : Nat) (B H : AH) (v : Value), i + m = k → GAcc 94 2 H0 B0 B ((c, ⟨[.int .i64 n, v], 41, .fix⟩) :: (a, ⟨[.int .i64 0, .slice none 0 0], 41, .fix⟩) :: L) H v i (verC (decV i (s.drop 4))) →
    Ev (fun K K2 => f32_L0 K (str s) (ptr a 0) (ptr c 0) (i64 (4 + 6 * i)) K2 H) (fun o => ∃ B' H' v', o = (.exit 0, f32_X_L0 (ptr a 0) (ptr c 0), H') ∧ MoC B B' ∧ GAcc 94 2 H0 B0 B' ((c, ⟨[.int .i64 n, v'], 41, .fix⟩) :: (a, ⟨[.int .i64 0, .slice none 0 0], 41, .fix⟩) :: L) H' v' k (verC (decV k (s.drop 4)))) := by
  intro m
  induction m with
  | zero =>
    intro i B H v hi hA
    refine Ev.succ (fun K K2 => f32_L0_succ K _ _ _ _ K2 H) ?_
    have : i = k := by omega
    subst this
    repeat (first | (first|refine zA ?_|refine zB fun _ _ _=>?_|refine zC fun _ _ _=>?_|refine zD fun _ _=>?_|refine zE ?_|refine zF ?_) | rw [decide_eq_true (by omega)] | rw [decide_eq_false (by omega)])
    exact Ev.ret ⟨B, H, v, rfl, ⟨Mo.refl B⟩, hA⟩
  | succ m ih =>
    intro i B H v hi hA
    refine Ev.succ (fun K K2 => f32_L0_succ K _ _ _ _ K2 H) ?_
    obtain ⟨Lx, hS, back, hsub⟩ := hA.split
    have hcell := hA.cell
    have hg : blk H c = some ⟨[.int .i64 n, v], 41, .fix⟩ := hS.get (hsub _ (.head _))
    have hld : ld Tryz.prog 39 H (ptr c 1) = some v := by rw [ld_blk hg]; exact PrimEq.eq
    repeat (first | (first|refine zA ?_|refine zB fun _ _ _=>?_|refine zC fun _ _ _=>?_|refine zD fun _ _=>?_|refine zE ?_|refine zF ?_) | rw [decide_eq_true (by omega)] | rw [decide_eq_false (by omega)])
    refine Ev.prim hld ?_
    refine Ev.prim (slc_str (l := s) (4 + 6 * i) rfl (by omega)) ?_
    refine Ev.b2 (r23number_spec (s := s.drop (4 + 6 * i)) (by rw [List.length_drop]; omega) (by rw [List.length_drop]; omega)) ?_
    rintro _ _ h
    cases h
    refine Ev.chk hld ?_
    have g4 := UInt8.toNat_lt (s.getD (4 + 6 * i + 4) 0)
    have g5 := UInt8.toNat_lt (s.getD (4 + 6 * i + 5) 0)
    have hx2 : getN ((((s.drop 4).drop (6 * i)).drop 4).take 2) = (s.getD (4 + 6 * i + 4) 0).toNat * 256 + (s.getD (4 + 6 * i + 5) 0).toNat := by
      rw [getN_two (by rw [List.length_drop, List.length_drop, List.length_drop]; omega)]
      have e : ∀ j, (((s.drop 4).drop (6 * i)).drop 4).getD j 0 = s.getD (4 + 6 * i + (4 + j)) 0 := fun j => by
        rw [List.getD_eq_getElem?_getD, List.getD_eq_getElem?_getD, List.getElem?_drop, List.getElem?_drop, List.getElem?_drop, show 4 + (6 * i + (4 + j)) = 4 + 6 * i + (4 + j) by omega]
      rw [e 0, e 1]
    have hx1 : getN (((s.drop 4).drop (6 * i)).take 4) = getN ((s.drop (4 + 6 * i)).take 4) := by rw [List.drop_drop]
    repeat (first | (first|refine zA ?_|refine zB fun _ _ _=>?_|refine zC fun _ _ _=>?_|refine zD fun _ _=>?_|refine zE ?_|refine zF ?_) | rw [decide_eq_true (by omega)] | rw [decide_eq_false (by omega)])
    refine Ev.prim (ix_str (l := s) (4 + 6 * i + 4) rfl (by omega)) ?_
    generalize (s.getD (4 + 6 * i + 4) 0).toNat = x4 at g4 hx2 ⊢
    repeat (first|refine zA ?_|refine zB fun _ _ _=>?_|refine zC fun _ _ _=>?_|refine zD fun _ _=>?_|refine zE ?_|refine zF ?_)
    refine Ev.prim (shl8 (by omega)) ?_
    repeat (first | (first|refine zA ?_|refine zB fun _ _ _=>?_|refine zC fun _ _ _=>?_|refine zD fun _ _=>?_|refine zE ?_|refine zF ?_) | rw [decide_eq_true (by omega)] | rw [decide_eq_false (by omega)])
    refine Ev.prim (ix_str (l := s) (4 + 6 * i + 5) rfl (by omega)) ?_
    generalize (s.getD (4 + 6 * i + 5) 0).toNat = x5 at g5 hx2 ⊢
    repeat (first|refine zA ?_|refine zB fun _ _ _=>?_|refine zC fun _ _ _=>?_|refine zD fun _ _=>?_|refine zE ?_|refine zF ?_)
    refine Ev.prim (or8 (by omega) (by omega)) ?_
    rw [← hx2, ← hx1]
    repeat (first|refine zA ?_|refine zB fun _ _ _=>?_|refine zC fun _ _ _=>?_|refine zD fun _ _=>?_|refine zE ?_|refine zF ?_)
    refine GAcc.push (t := 39) (ds := [i64 (getN (((s.drop 4).drop (6 * i)).take 4)), i64 (getN ((((s.drop 4).drop (6 * i)).drop 4).take 2))]) hA rfl rfl rfl rfl (by decide) (by omega) fun v' B4 H4 hm4 hA4 => ?_
    have hcell4 := hA4.cell
    repeat (first|refine zA ?_|refine zB fun _ _ _=>?_|refine zC fun _ _ _=>?_|refine zD fun _ _=>?_|refine zE ?_|refine zF ?_)
    refine GAcc.stC hA4 fun H5 hA5 => ?_
    repeat (first | (first|refine zA ?_|refine zB fun _ _ _=>?_|refine zC fun _ _ _=>?_|refine zD fun _ _=>?_|refine zE ?_|refine zF ?_) | rw [decide_eq_true (by omega)] | rw [decide_eq_false (by omega)])
    rw [show 4 + 6 * i + 6 = 4 + 6 * (i + 1) by omega]
    have e : verC (decV i (s.drop 4)) ++ [i64 (getN (((s.drop 4).drop (6 * i)).take 4)), i64 (getN ((((s.drop 4).drop (6 * i)).drop 4).take 2))] = verC (decV (i + 1) (s.drop 4)) := by rw [decV_snoc, verC_snoc]
    rw [e] at hA5
    refine (ih (i + 1) B4 H5 v' (by omega) hA5).mono ?_
    rintro o ⟨B', H', v2, h1, h2, h3⟩
    exact ⟨B', H', v2, h1, ⟨hm4.mo.trans h2.mo⟩, h3⟩
def RDecV (B' : AH) (s : List UInt8) (v : Value) : Prop :=
  (decC s = none ∧ v = .tuple #[.agg #[.int .i64 0, .slice none 0 0], .bool false]) ∨ ∃ n l sv, decC s = some (n, l) ∧ v = .tuple #[.agg #[.int .i64 n, sv], .bool true] ∧ ScN B' sv l.length 2 (verC l)
theorem r23Decode_spec {s : List UInt8} (hs : s.length ≤ 1100000) (hS : St H0 B0 B L H) :
    Ev (fun k _ => rn k 32 [str s] H) (fun r => ∃ B', RDecV B' s r.1 ∧ MoC B B' ∧ St H0 B0 B' L r.2) := by
  refine Ev.fn (fun k => f32_eq k _ H) ?_
  repeat (first|refine zA ?_|refine zB fun _ _ _=>?_|refine zC fun _ _ _=>?_|refine zD fun _ _=>?_|refine zE ?_|refine zF ?_)
  rename_i a H1 hS1
  clear hS
  by_cases h0 : s.length < 4
  · rw [decide_eq_true h0]
    repeat (first|refine zA ?_|refine zB fun _ _ _=>?_|refine zC fun _ _ _=>?_|refine zD fun _ _=>?_|refine zE ?_|refine zF ?_)
    have hd : decC s = none := by unfold decC; rw [if_pos (.inl h0)]
    rename_i H2 hS2
    exact Ev.ret ⟨B, .inl ⟨hd, rfl⟩, ⟨Mo.refl B⟩, hS2.drop1⟩
  rw [decide_eq_false h0]
  repeat (first | (first|refine zA ?_|refine zB fun _ _ _=>?_|refine zC fun _ _ _=>?_|refine zD fun _ _=>?_|refine zE ?_|refine zF ?_) | rw [decide_eq_true (by omega)] | rw [decide_eq_false (by omega)])
  by_cases h1 : (s.length - 4) % 6 = 0
  case neg =>
    rw [decide_eq_true (by omega)]
    repeat (first|refine zA ?_|refine zB fun _ _ _=>?_|refine zC fun _ _ _=>?_|refine zD fun _ _=>?_|refine zE ?_|refine zF ?_)
    have hd : decC s = none := by unfold decC; rw [if_pos (.inr h1)]
    rename_i H2 hS2
    exact Ev.ret ⟨B, .inl ⟨hd, rfl⟩, ⟨Mo.refl B⟩, hS2.drop1⟩
  rw [decide_eq_false (by omega)]
  repeat (first|refine zA ?_|refine zB fun _ _ _=>?_|refine zC fun _ _ _=>?_|refine zD fun _ _=>?_|refine zE ?_|refine zF ?_)
  refine Ev.b2 (r23number_spec (s := s) (by omega) (by omega)) ?_
  rintro _ _ h
  cases h
  repeat (first|refine zA ?_|refine zB fun _ _ _=>?_|refine zC fun _ _ _=>?_|refine zD fun _ _=>?_|refine zE ?_|refine zF ?_)
  rename_i c H2 hS2 H3 hS3
  clear hS1 hS2
  refine Ev.bind (Ev.loop (r23dec_loop (s := s) (k := (s.length - 4) / 6) (by omega) (by omega) ((s.length - 4) / 6) 0 B H3 (.slice none 0 0) (by omega) (GAcc.nil hS3))) ?_
  rintro _ ⟨B4, H4, v, rfl, hm4, hA4⟩
  refine Ev.eq (fun k _ => f32_A0_x0 k _ _ H4) ?_
  have hcell := hA4.cell
  obtain ⟨B5, hm5, hN5, hS5⟩ := hA4.freeze
  clear hS3
  repeat (first|refine zA ?_|refine zB fun _ _ _=>?_|refine zC fun _ _ _=>?_|refine zD fun _ _=>?_|refine zE ?_|refine zF ?_)
  have hN5' : ScN B5 v (decV ((s.length - 4) / 6) (s.drop 4)).length 2 (verC (decV ((s.length - 4) / 6) (s.drop 4))) := by rw [decV_len]; exact hN5
  refine Ev.b2 (r23Right_spec hN5' (by rw [decV_len]; omega) hS5) ?_
  rintro _ H6 ⟨rfl, hS6⟩
  dsimp only at hS6
  clear hS5
  by_cases hr : rightC ((getN (s.take 4) : Nat) : Int) (decV ((s.length - 4) / 6) (s.drop 4)) = true
  · rw [hr]
    repeat (first|refine zA ?_|refine zB fun _ _ _=>?_|refine zC fun _ _ _=>?_|refine zD fun _ _=>?_|refine zE ?_|refine zF ?_)
    rename_i H7 hS7
    refine Ev.ret ⟨B5, .inr ⟨_, _, v, ?_, rfl, hN5'⟩, ⟨hm4.mo.trans hm5.mo⟩, hS7.drop1.drop1⟩
    unfold decC
    rw [if_neg (by omega), if_pos hr]
  · have hr2 := hr
    rw [Bool.not_eq_true] at hr2
    rw [hr2]
    repeat (first|refine zA ?_|refine zB fun _ _ _=>?_|refine zC fun _ _ _=>?_|refine zD fun _ _=>?_|refine zE ?_|refine zF ?_)
    rename_i H7 hS7
    refine Ev.ret ⟨B5, .inl ⟨?_, rfl⟩, ⟨hm4.mo.trans hm5.mo⟩, hS7.drop1.drop1⟩
    unfold decC
    rw [if_neg (by omega), if_neg hr]
end
end Go.AM.E
namespace Go.AM.E
open Go Go.AM Go.Proofs
attribute [local irreducible] run bin un ld st box newV mkS fldA fld ixA ix slc slc3 build buildS cv cvS ap cpy lenV gOp pickV b2 aIf aChk evalK resume iterD Option.bind

section
variable {B B0 H0 H : AH} {L : List (Nat × Blk)}
abbrev DK := IsDisk 98 5 158
def DkP (H0 B0 B : AH) (L : List (Nat × Blk)) (p v : Value) (D : Dsk) (r : Value × AH) : Prop := r.1 = v ∧ ∃ Ls B', MoC B B' ∧ DK p D Ls ∧ St H0 B0 B' (Ls ++ L) r.2
theorem Sectors_spec {p : Value} {D : Dsk} {Ls Lx : List (Nat × Blk)} (hD : DK p D Ls) (hO : D.OK) (hS : St H0 B0 B Lx H) (hsub : ∀ x ∈ Ls, x ∈ Lx) :
    Ev (fun k _ => rn k 49 [p] H) (fun r => r = (i64 D.n, H)) := by
  obtain ⟨d, bb, cv, Lc, rfl, hG, rfl⟩ := hD
  have hi : InL d ⟨[sl bb 0 (64 * D.n) (64 * D.n), cv, .int .i64 D.fuse, .bool D.down], 98, .fix⟩ Lx := ⟨hsub _ (.head _)⟩
  refine Ev.fn (fun k => f49_eq k _ H) ?_
  have h1 := hO.n1
  have h2 := hO.n2
  repeat (first|refine zA ?_|refine zB fun _ _ _=>?_|refine zC fun _ _ _=>?_|refine zD fun _ _=>?_|refine zE ?_|refine zF ?_)
  have : 64 * D.n / 64 = D.n := by omega
  rw [this]
  exact Ev.ret rfl
theorem Waiting_spec {p : Value} {D : Dsk} {Ls Lx : List (Nat × Blk)} (hD : DK p D Ls) (hS : St H0 B0 B Lx H) (hsub : ∀ x ∈ Ls, x ∈ Lx) :
    Ev (fun k _ => rn k 50 [p] H) (fun r => r = (i64 D.cache.length, H)) := by
  obtain ⟨d, bb, cv, Lc, rfl, hG, rfl⟩ := hD
  have hi : InL d ⟨[sl bb 0 (64 * D.n) (64 * D.n), cv, .int .i64 D.fuse, .bool D.down], 98, .fix⟩ Lx := ⟨hsub _ (.head _)⟩
  refine Ev.fn (fun k => f50_eq k _ H) ?_
  have := hG.cell
  repeat (first|refine zA ?_|refine zB fun _ _ _=>?_|refine zC fun _ _ _=>?_|refine zD fun _ _=>?_|refine zE ?_|refine zF ?_)
  refine Ev.prim (hG.len (Und.eq (P := Tryz.prog) (t := 96))) ?_
  exact Ev.ret rfl
theorem Down_spec {p : Value} {D : Dsk} {Ls Lx : List (Nat × Blk)} (hD : DK p D Ls) (hS : St H0 B0 B Lx H) (hsub : ∀ x ∈ Ls, x ∈ Lx) :
    Ev (fun k _ => rn k 48 [p] H) (fun r => r = (.bool D.down, H)) := by
  obtain ⟨d, bb, cv, Lc, rfl, hG, rfl⟩ := hD
  have hi : InL d ⟨[sl bb 0 (64 * D.n) (64 * D.n), cv, .int .i64 D.fuse, .bool D.down], 98, .fix⟩ Lx := ⟨hsub _ (.head _)⟩
  refine Ev.fn (fun k => f48_eq k _ H) ?_
  repeat (first|refine zA ?_|refine zB fun _ _ _=>?_|refine zC fun _ _ _=>?_|refine zD fun _ _=>?_|refine zE ?_|refine zF ?_)
  exact Ev.ret rfl
theorem lay_spec {d bb n a : Nat} {cv x y : Value} {bs s : List UInt8} (h2 : n ≤ 1024) (hl : bs.length = 64 * n) (ha : a < n) (hs : s.length ≤ 64)
    (hS : St H0 B0 B ((d, ⟨[sl bb 0 (64 * n) (64 * n), cv, x, y], 98, .fix⟩) :: (bb, ⟨byts bs, 5, .fix⟩) :: L) H) :
    Ev (fun k _ => rn k 90 [ptr d 0, i64 a, str s] H) (fun r => r.1 = .tuple #[] ∧ St H0 B0 B ((d, ⟨[sl bb 0 (64 * n) (64 * n), cv, x, y], 98, .fix⟩) :: (bb, ⟨byts (layB bs a s), 5, .fix⟩) :: L) r.2) := by
  refine Ev.fn (fun k => f90_eq k _ _ _ H) ?_
  repeat (first|refine zA ?_|refine zB fun _ _ _=>?_|refine zC fun _ _ _=>?_|refine zD fun _ _=>?_|refine zE ?_|refine zF ?_)
  refine Ev.prim (slc_own (t := 95) (by omega)) ?_
  rw [if_neg (by omega)]
  refine Ev.cpyStr (t := 95) hS (.tail _ (.head _)) (by omega) (by rw [byts_len]; omega) rfl (.tail _ (.head _)) fun H' hS' => ?_
  refine Ev.ret ⟨rfl, ?_⟩
  rw [byts_lay, Nat.mul_comm 64 a]
  exact hS'
theorem act_spec {d : Nat} {bv cv f : Value} {fu : Int} {dn : Bool} {Q : Value × AH → Prop} (hfu : -1 ≤ fu ∧ fu < 9223372036854775808) (hS : St H0 B0 B ((d, ⟨[bv, cv, .int .i64 fu, .bool dn], 98, .fix⟩) :: L) H)
    (h0 : fu = 0 → ∀ H', St H0 B0 B ((d, ⟨[bv, cv, .int .i64 fu, .bool true], 98, .fix⟩) :: L) H' → Q (.int .i64 7, H'))
    (h1 : fu ≠ 0 → ∀ H', St H0 B0 B ((d, ⟨[bv, cv, .int .i64 (max (fu - 1) (-1)), .bool dn], 98, .fix⟩) :: L) H' → Ev (fun k _ => callY (rn k) f [] H') (fun r => Q (.int .i64 0, r.2))) :
    Ev (fun k _ => rn k 88 [ptr d 0, f] H) Q := by
  refine Ev.fn (fun k => f88_eq k _ _ H) ?_
  repeat (first|refine zA ?_|refine zB fun _ _ _=>?_|refine zC fun _ _ _=>?_|refine zD fun _ _=>?_|refine zE ?_|refine zF ?_)
  by_cases hf : fu = 0
  · rw [decide_eq_true hf]
    repeat (first|refine zA ?_|refine zB fun _ _ _=>?_|refine zC fun _ _ _=>?_|refine zD fun _ _=>?_|refine zE ?_|refine zF ?_)
    exact Ev.ret (h0 hf _ (by assumption))
  · rw [decide_eq_false hf]
    repeat (first|refine zA ?_|refine zB fun _ _ _=>?_|refine zC fun _ _ _=>?_|refine zD fun _ _=>?_|refine zE ?_|refine zF ?_)
    rename_i H1 hS1
    rw [show (if -1 > fu - 1 then (-1 : Int) else fu - 1) = max (fu - 1) (-1) by omega] at hS1
    refine Ev.b2 (h1 hf _ hS1) fun v H' hq => ?_
    exact Ev.ret hq
theorem callY_fn {k : Nat} {g : FuncId} {xs ys : List Value} {args : List Value} {H : AH} (hg : g < yOff) : callY (rn k) (.func (.func g) ⟨xs⟩ ⟨ys⟩) args H = rn k g (xs ++ (args ++ ys)) H := by
  unfold callY callV
  simp only [show Nat.blt g yOff = true by rw [Nat.blt_eq]; exact hg, cond_true]
theorem front3 {x y z d : Nat × Blk} (h : St H0 B0 B (x :: y :: z :: d :: L) H) : St H0 B0 B (d :: x :: y :: z :: L) H := h.perm (List.perm_middle (l₁ := [x, y, z])).symm
theorem back3 {x y z d : Nat × Blk} (h : St H0 B0 B (d :: x :: y :: z :: L) H) : St H0 B0 B (d :: L) H := (h.perm (List.perm_middle (l₁ := [x, y, z]))).drop1.drop1.drop1
theorem toFront {X La : List (Nat × Blk)} (h : St H0 B0 B (La ++ (X ++ L)) H) : St H0 B0 B (X ++ (La ++ L)) H := h.perm (permA La X L)
theorem caCells_snoc (l : List (Nat × List UInt8)) (q : Nat) (s : List UInt8) : caCells (l ++ [(q, s)]) = caCells l ++ [i64 q, str s] := by simp [caCells]
theorem drop_3 {x y z : Nat × Blk} (h : St H0 B0 B (x :: y :: z :: L) H) : St H0 B0 B L H := h.drop1.drop1.drop1
end
end Go.AM.E
namespace Go.AM.E
open Go Go.AM Go.Proofs
attribute [local irreducible] run bin un ld st box newV mkS fldA fld ixA ix slc slc3 build buildS cv cvS ap cpy lenV gOp pickV b2 aIf aChk evalK resume iterD Option.bind

section
variable {B B0 H0 H : AH} {L : List (Nat × Blk)}
theorem Write_spec {p : Value} {D : Dsk} {Ls : List (Nat × Blk)} {i : Int} {s : List UInt8} (hD : DK p D Ls) (hO : D.OK) (hc : D.cache.length < 1000000000000) (hS : St H0 B0 B (Ls ++ L) H) :
    Ev (fun k _ => rn k 83 [p, .int .i64 i, str s] H) (DkP H0 B0 B L p (.int .i64 (D.write i s).1) (D.write i s).2) := by
  have hD0 := hD
  obtain ⟨n, bytes, cache, fu, dn⟩ := D
  obtain ⟨d, bb, cv, Lc, rfl, hG, rfl⟩ := hD
  have h1 := hO.n1
  have h2 := hO.n2
  have hfu := hO.fu
  dsimp only at hS hc h1 h2 hfu hG hD0
  simp only [List.cons_append] at hS
  have hcell := hG.cell
  refine Ev.fn (fun k => f83_eq k _ _ _ H) ?_
  have back : ∀ H', St H0 B0 B ((d, ⟨[sl bb 0 (64 * n) (64 * n), cv, .int .i64 fu, .bool dn], 98, .fix⟩) :: (bb, ⟨byts bytes, 5, .fix⟩) :: (Lc ++ L)) H' → ∃ Ls B', MoC B B' ∧ DK (ptr d 0) ⟨n, bytes, cache, fu, dn⟩ Ls ∧ St H0 B0 B' (Ls ++ L) H' := fun H' h => ⟨_, B, ⟨Mo.refl B⟩, hD0, h⟩
  repeat (first|refine zA ?_|refine zB fun _ _ _=>?_|refine zC fun _ _ _=>?_|refine zD fun _ _=>?_|refine zE ?_|refine zF ?_)
  rename_i b1 H1 hS1 b2 H2 hS2 b3 H3 hS3
  unfold Dsk.write
  dsimp only
  cases dn with
  | true =>
    repeat (first|refine zA ?_|refine zB fun _ _ _=>?_|refine zC fun _ _ _=>?_|refine zD fun _ _=>?_|refine zE ?_|refine zF ?_)
    exact Ev.ret ⟨rfl, back _ (drop_3 hS3)⟩
  | false =>
    repeat (first|refine zA ?_|refine zB fun _ _ _=>?_|refine zC fun _ _ _=>?_|refine zD fun _ _=>?_|refine zE ?_|refine zF ?_)
    rw [if_neg (fun h => by cases h)]
    by_cases hi : i < 0
    · rw [decide_eq_true hi, if_pos (.inl hi)]
      repeat (first|refine zA ?_|refine zB fun _ _ _=>?_|refine zC fun _ _ _=>?_|refine zD fun _ _=>?_|refine zE ?_|refine zF ?_)
      exact Ev.ret ⟨rfl, back _ (drop_3 hS3)⟩
    rw [decide_eq_false hi]
    obtain ⟨q, rfl⟩ : ∃ q : Nat, i = q := ⟨i.toNat, by omega⟩
    repeat (first|refine zA ?_|refine zB fun _ _ _=>?_|refine zC fun _ _ _=>?_|refine zD fun _ _=>?_|refine zE ?_|refine zF ?_)
    refine Ev.b2 (Sectors_spec hD0 hO hS3 ?_) ?_
    · intro x hx
      exact .tail _ (.tail _ (.tail _ (by rw [← List.cons_append, ← List.cons_append]; exact List.mem_append_left _ hx)))
    rintro _ _ ⟨rfl, rfl⟩
    repeat (first|refine zA ?_|refine zB fun _ _ _=>?_|refine zC fun _ _ _=>?_|refine zD fun _ _=>?_|refine zE ?_|refine zF ?_)
    by_cases hq : n ≤ q
    · rw [decide_eq_true hq, if_pos (.inr (.inl (by omega)))]
      repeat (first|refine zA ?_|refine zB fun _ _ _=>?_|refine zC fun _ _ _=>?_|refine zD fun _ _=>?_|refine zE ?_|refine zF ?_)
      exact Ev.ret ⟨rfl, back _ (drop_3 hS3)⟩
    rw [decide_eq_false hq]
    repeat (first|refine zA ?_|refine zB fun _ _ _=>?_|refine zC fun _ _ _=>?_|refine zD fun _ _=>?_|refine zE ?_|refine zF ?_)
    by_cases hl : s.length = 64
    · rw [decide_eq_false (fun h => h hl), if_neg (by omega)]
      repeat (first|refine zA ?_|refine zB fun _ _ _=>?_|refine zC fun _ _ _=>?_|refine zD fun _ _=>?_|refine zE ?_|refine zF ?_)
      rw [show (fun k n : Nat => AM.b2 (rn k 88 [ptr d 0, .func (.func 103) #[] #[ptr b1 0, ptr b2 0, ptr b3 0]] H3) fun v20 h20 => some (v20, h20)) = fun k n => rn k 88 [ptr d 0, .func (.func 103) #[] #[ptr b1 0, ptr b2 0, ptr b3 0]] H3 from funext fun k => funext fun _ => b2_id _]
      refine act_spec hfu (front3 hS3) (fun h0 H' hS' => ?_) (fun h0 H' hS' => ?_)
      · unfold Dsk.act
        dsimp only
        rw [if_pos h0]
        exact ⟨rfl, _, B, ⟨Mo.refl B⟩, ⟨d, bb, cv, Lc, rfl, hG, rfl⟩, back3 hS'⟩
      · unfold Dsk.act
        dsimp only
        rw [if_neg h0]
        simp only [callY_fn (show 103 < yOff by unfold yOff; omega)]
        clear hS hS1 hS2 hS3 back
        refine Ev.fn (fun k => f103_eq k _ _ _ H') ?_
        repeat (first|refine zA ?_|refine zB fun _ _ _=>?_|refine zC fun _ _ _=>?_|refine zD fun _ _=>?_|refine zE ?_|refine zF ?_)
        have hS4 := toFront (X := Lc) (La := [(d, _), (b3, _), (b2, _), (b1, _), (bb, _)]) (L := L) hS'
        refine GAcc.push (ds := [i64 q, str s]) (hG.acc hS4) rfl rfl rfl rfl (by omega) (by omega) fun v' B' H5 hm hA => ?_
        obtain ⟨Lx, hG5, hS5⟩ := hA.grs
        have hS6 := toFront (X := [(d, _), (b3, _), (b2, _), (b1, _), (bb, _)]) (La := Lx) (L := L) hS5
        simp only [List.cons_append, List.nil_append] at hS6
        have hcell5 := hG5.cell
        clear hS' hS4 hS5 hA
        repeat (first|refine zA ?_|refine zB fun _ _ _=>?_|refine zC fun _ _ _=>?_|refine zD fun _ _=>?_|refine zE ?_|refine zF ?_)
        rename_i H6 hS7
        refine Ev.ret ⟨rfl, _, B', hm, ⟨d, bb, v', Lx, rfl, ?_, rfl⟩, back3 hS7⟩
        unfold Dsk.put
        dsimp only
        rw [caCells_snoc, List.length_append]
        exact hG5
    · rw [decide_eq_true hl, if_pos (.inr (.inr hl))]
      repeat (first|refine zA ?_|refine zB fun _ _ _=>?_|refine zC fun _ _ _=>?_|refine zD fun _ _=>?_|refine zE ?_|refine zF ?_)
      exact Ev.ret ⟨rfl, back _ (drop_3 hS3)⟩
end
end Go.AM.E
namespace Go.AM.E
open Go Go.AM Go.Proofs
attribute [local irreducible] run bin un ld st box newV mkS fldA fld ixA ix slc slc3 build buildS cv cvS ap cpy lenV gOp pickV b2 aIf aChk evalK resume iterD Option.bind

section
variable {B B0 H0 H : AH} {L : List (Nat × Blk)}
theorem New_spec {n : Nat} (h1 : 1 ≤ n) (h2 : n ≤ 1024) (hS : St H0 B0 B L H) :
    Ev (fun k _ => rn k 60 [i64 n] H) (fun r => ∃ p Ls B', r.1 = .tuple #[p, .int .i64 0] ∧ MoC B B' ∧ DK p (Dsk.new n) Ls ∧ St H0 B0 B' (Ls ++ L) r.2) := by
  refine Ev.fn (fun k => f60_eq k _ H) ?_
  repeat (first|refine zA ?_|refine zB fun _ _ _=>?_|refine zC fun _ _ _=>?_|refine zD fun _ _=>?_|refine zE ?_|refine zF ?_)
  rw [decide_eq_false (by omega)]
  repeat (first|refine zA ?_|refine zB fun _ _ _=>?_|refine zC fun _ _ _=>?_|refine zD fun _ _=>?_|refine zE ?_|refine zF ?_)
  rw [decide_eq_false (by omega)]
  repeat (first|refine zA ?_|refine zB fun _ _ _=>?_|refine zC fun _ _ _=>?_|refine zD fun _ _=>?_|refine zE ?_|refine zF ?_)
  refine Ev.mkS (t := 95) inferInstance hS (by omega) (by omega) fun bb B' H' hm hS' => ?_
  clear hS
  repeat (first|refine zA ?_|refine zB fun _ _ _=>?_|refine zC fun _ _ _=>?_|refine zD fun _ _=>?_|refine zE ?_|refine zF ?_)
  rename_i d H1 hS1
  refine Ev.ret ⟨_, _, B', rfl, ⟨hm⟩, ⟨d, bb, _, [], rfl, .inl ⟨rfl, rfl, .inl rfl, rfl⟩, rfl⟩, ?_⟩
  unfold Dsk.new
  dsimp only
  rw [byts_rep, Nat.mul_comm 64 n]
  exact hS1
theorem barrier_loop {b1 d bb : Nat} {cv : Value} {Lc : List (Nat × Blk)} {D : Dsk} (hO : D.OK) (hG : GRS 158 2 cv D.cache.length (caCells D.cache) Lc) (hc : D.cache.length < 1000000000000) :
    ∀ (m i : Nat) (B H : AH), i + m = D.cache.length → St H0 B0 B ((b1, ⟨[ptr d 0], 30, .fix⟩) :: (d, ⟨[sl bb 0 (64 * D.n) (64 * D.n), cv, .int .i64 D.fuse, .bool D.down], 98, .fix⟩) :: (bb, ⟨byts (layAll (D.cache.take i) D.bytes), 5, .fix⟩) :: (Lc ++ L)) H →
    Ev (fun k K => f89_L0 k (ptr b1 0) cv (i64 D.cache.length) (i64 i) K H) (fun o => ∃ B' H', o = (.exit 0, f89_X_L0 (ptr b1 0), H') ∧ MoC B B' ∧
      St H0 B0 B' ((b1, ⟨[ptr d 0], 30, .fix⟩) :: (d, ⟨[sl bb 0 (64 * D.n) (64 * D.n), cv, .int .i64 D.fuse, .bool D.down], 98, .fix⟩) :: (bb, ⟨byts (layAll D.cache D.bytes), 5, .fix⟩) :: (Lc ++ L)) H') := by
  intro m
  induction m with
  | zero =>
    intro i B H hi hS
    refine Ev.succ (fun k K => f89_L0_succ k _ _ _ _ K H) ?_
    repeat (first|refine zA ?_|refine zB fun _ _ _=>?_|refine zC fun _ _ _=>?_|refine zD fun _ _=>?_|refine zE ?_|refine zF ?_)
    rw [decide_eq_false (by omega)]
    repeat (first|refine zA ?_|refine zB fun _ _ _=>?_|refine zC fun _ _ _=>?_|refine zD fun _ _=>?_|refine zE ?_|refine zF ?_)
    rw [List.take_of_length_le (by omega)] at hS
    exact Ev.ret ⟨B, H, rfl, ⟨Mo.refl B⟩, hS⟩
  | succ m ih =>
    intro i B H hi hS
    refine Ev.succ (fun k K => f89_L0_succ k _ _ _ _ K H) ?_
    repeat (first|refine zA ?_|refine zB fun _ _ _=>?_|refine zC fun _ _ _=>?_|refine zD fun _ _=>?_|refine zE ?_|refine zF ?_)
    rw [decide_eq_true (by omega)]
    repeat (first|refine zA ?_|refine zB fun _ _ _=>?_|refine zC fun _ _ _=>?_|refine zD fun _ _=>?_|refine zE ?_|refine zF ?_)
    obtain ⟨⟨a, s⟩, ha⟩ : ∃ x, D.cache[i]? = some x := ⟨_, List.getElem?_eq_getElem (by omega)⟩
    have hmem := hO.ca (a, s) (List.mem_of_getElem? ha)
    dsimp only at hmem
    have hN := hG.now hS (fun p hp => .tail _ (.tail _ (.tail _ (List.mem_append_left _ hp))))
    obtain ⟨p, q1, q2⟩ := hN.ldAt (P := Tryz.prog) (t := 96) (k := .i64) (i := i) (by omega) (AggOf.eq (P := Tryz.prog) (t := 158))
    rw [caCells_at ha] at q2
    refine Ev.prim q1 ?_
    refine Ev.prim q2 ?_
    repeat (first|refine zA ?_|refine zB fun _ _ _=>?_|refine zC fun _ _ _=>?_|refine zD fun _ _=>?_|refine zE ?_|refine zF ?_)
    rename_i b2 H2 hS2 H3 hS3
    have hS4 := hS3.perm (show ([(d, _), (bb, _), (b2, _), (b1, _)] ++ (Lc ++ L)).Perm _ from (List.Perm.append_right _ (perm22 _ _ _ _)))
    refine Ev.b2 (lay_spec (n := D.n) hO.n2 (layAll_len _ _ _ hO.len fun p hp => hO.ca p (List.mem_of_mem_take hp)) hmem.1 (by omega) hS4) ?_
    rintro _ H5 ⟨_, hS5⟩
    dsimp only at hS5
    rw [← lay_at ha] at hS5
    repeat (first|refine zA ?_|refine zB fun _ _ _=>?_|refine zC fun _ _ _=>?_|refine zD fun _ _=>?_|refine zE ?_|refine zF ?_)
    have hS6 := (hS5.perm (show ([(b2, _), (b1, _), (d, _), (bb, _)] ++ (Lc ++ L)).Perm _ from (List.Perm.append_right _ (perm22 _ _ _ _)))).drop1
    exact ih (i + 1) B H5 (by omega) hS6
theorem Barrier1_spec {b1 d bb : Nat} {cv : Value} {Lc : List (Nat × Blk)} {D : Dsk} (hO : D.OK) (hG : GRS 158 2 cv D.cache.length (caCells D.cache) Lc) (hc : D.cache.length < 1000000000000)
    (hS : St H0 B0 B ((b1, ⟨[ptr d 0], 30, .fix⟩) :: (d, ⟨[sl bb 0 (64 * D.n) (64 * D.n), cv, .int .i64 D.fuse, .bool D.down], 98, .fix⟩) :: (bb, ⟨byts D.bytes, 5, .fix⟩) :: (Lc ++ L)) H) :
    Ev (fun k _ => rn k 89 [ptr b1 0] H) (DkP H0 B0 B L (ptr d 0) (.tuple #[]) D.flush) := by
  refine Ev.fn (fun k => f89_eq k _ H) ?_
  have hcell := hG.cell
  repeat (first|refine zA ?_|refine zB fun _ _ _=>?_|refine zC fun _ _ _=>?_|refine zD fun _ _=>?_|refine zE ?_|refine zF ?_)
  refine Ev.prim (hG.len (Und.eq (P := Tryz.prog) (t := 96))) ?_
  refine Ev.bind (Ev.loop (barrier_loop hO hG hc D.cache.length 0 B H (by omega) hS)) ?_
  rintro _ ⟨B', H', rfl, hm, hS'⟩
  refine Ev.eq (fun k _ => f89_A0_x0 k _ _) ?_
  clear hS
  repeat (first|refine zA ?_|refine zB fun _ _ _=>?_|refine zC fun _ _ _=>?_|refine zD fun _ _=>?_|refine zE ?_|refine zF ?_)
  rename_i H1 hS1
  have hS2 := (toFront (X := Lc) (La := [(b1, _), (d, _), (bb, _)]) (L := L) hS1)
  refine Ev.ret ⟨rfl, _, B', hm, ⟨d, bb, _, [], rfl, .inl ⟨rfl, rfl, .inl rfl, rfl⟩, rfl⟩, ?_⟩
  have hS3 : St H0 B0 B' ([(b1, _), (d, _), (bb, _)] ++ L) H1 := hS2.drop (List.sublist_append_right _ _)
  exact hS3.drop1
theorem Barrier_spec {p : Value} {D : Dsk} {Ls : List (Nat × Blk)} (hD : DK p D Ls) (hO : D.OK) (hc : D.cache.length < 1000000000000) (hS : St H0 B0 B (Ls ++ L) H) :
    Ev (fun k _ => rn k 64 [p] H) (DkP H0 B0 B L p (.int .i64 D.barrier.1) D.barrier.2) := by
  have hD0 := hD
  obtain ⟨n, bytes, cache, fu, dn⟩ := D
  obtain ⟨d, bb, cv, Lc, rfl, hG, rfl⟩ := hD
  have hfu := hO.fu
  dsimp only at hS hc hfu hG hD0
  simp only [List.cons_append] at hS
  have hcell := hG.cell
  refine Ev.fn (fun k => f64_eq k _ H) ?_
  repeat (first|refine zA ?_|refine zB fun _ _ _=>?_|refine zC fun _ _ _=>?_|refine zD fun _ _=>?_|refine zE ?_|refine zF ?_)
  rename_i b1 H1 hS1
  unfold Dsk.barrier
  dsimp only
  cases dn with
  | true =>
    repeat (first|refine zA ?_|refine zB fun _ _ _=>?_|refine zC fun _ _ _=>?_|refine zD fun _ _=>?_|refine zE ?_|refine zF ?_)
    exact Ev.ret ⟨rfl, _, B, ⟨Mo.refl B⟩, hD0, hS1.drop1⟩
  | false =>
    repeat (first|refine zA ?_|refine zB fun _ _ _=>?_|refine zC fun _ _ _=>?_|refine zD fun _ _=>?_|refine zE ?_|refine zF ?_)
    rw [if_neg (fun h => by cases h)]
    rw [show (fun k n : Nat => AM.b2 (rn k 88 [ptr d 0, .func (.func 89) #[] #[ptr b1 0]] H1) fun v20 h20 => some (v20, h20)) = fun k n => rn k 88 [ptr d 0, .func (.func 89) #[] #[ptr b1 0]] H1 from funext fun k => funext fun _ => b2_id _]
    refine act_spec hfu (hS1.perm (List.Perm.swap _ _ _)) (fun h0 H' hS' => ?_) (fun h0 H' hS' => ?_)
    · unfold Dsk.act
      dsimp only
      rw [if_pos h0]
      exact ⟨rfl, _, B, ⟨Mo.refl B⟩, ⟨d, bb, cv, Lc, rfl, hG, rfl⟩, (hS'.perm (List.Perm.swap _ _ _)).drop1⟩
    · unfold Dsk.act
      dsimp only
      rw [if_neg h0]
      simp only [callY_fn (show 89 < yOff by unfold yOff; omega)]
      refine (Barrier1_spec (D := ⟨n, bytes, cache, max (fu - 1) (-1), false⟩) hO.actD hG hc (hS'.perm (List.Perm.swap _ _ _))).mono ?_
      rintro ⟨v, H2⟩ ⟨_, hq⟩
      exact ⟨rfl, hq⟩
end
end Go.AM.E
namespace Go.AM.E
open Go Go.AM Go.Proofs
attribute [local irreducible] run bin un ld st box newV mkS fldA fld ixA ix slc slc3 build buildS cv cvS ap cpy lenV gOp pickV b2 aIf aChk evalK resume iterD Option.bind

section
variable {B B0 H0 H : AH} {L : List (Nat × Blk)}
def XK (p : Value) (D : Dsk) (Ls : List (Nat × Blk)) : Prop := ∃ x sv cv fx Ls1 Lc, p = ptr x 0 ∧ max fx (-1) = D.fuse ∧ -9223372036854775808 ≤ fx ∧ WRS 9 sv ((secsB D.n D.bytes).map str) Ls1 ∧ GRS 160 2 cv D.cache.length (caCells D.cache) Lc ∧
  Ls = (x, ⟨[sv, cv, .int .i64 fx, .bool D.down], 54, .fix⟩) :: (Ls1 ++ Lc)
theorem XK.ptr {p : Value} {D : Dsk} {Ls : List (Nat × Blk)} (h : XK p D Ls) : ∃ d, p = ptr d 0 := by obtain ⟨d, _, _, _, _, _, hp, _⟩ := h; exact ⟨d, hp⟩
def XkP (H0 B0 B : AH) (L : List (Nat × Blk)) (p v : Value) (D : Dsk) (r : Value × AH) : Prop := r.1 = v ∧ ∃ Ls B', MoC B B' ∧ XK p D Ls ∧ St H0 B0 B' (Ls ++ L) r.2
theorem xact_spec {x : Nat} {sv cv : Value} {fx : Int} {dn : Bool} {Q : Value × AH → Prop} (hf : -9223372036854775808 ≤ fx ∧ fx < 9223372036854775808) [IsCell sv] [IsCell cv] (hS : St H0 B0 B ((x, ⟨[sv, cv, .int .i64 fx, .bool dn], 54, .fix⟩) :: L) H)
    (h0 : fx = 0 → ∀ H', St H0 B0 B ((x, ⟨[sv, cv, .int .i64 fx, .bool true], 54, .fix⟩) :: L) H' → Q (.bool false, H'))
    (h1 : fx ≠ 0 → ∀ fy H', max fy (-1) = max (max fx (-1) - 1) (-1) → -9223372036854775808 ≤ fy → St H0 B0 B ((x, ⟨[sv, cv, .int .i64 fy, .bool dn], 54, .fix⟩) :: L) H' → Q (.bool true, H')) :
    Ev (fun k _ => rn k 91 [ptr x 0] H) Q := by
  refine Ev.fn (fun k => f91_eq k _ H) ?_
  repeat (first|refine zA ?_|refine zB fun _ _ _=>?_|refine zC fun _ _ _=>?_|refine zD fun _ _=>?_|refine zE ?_|refine zF ?_)
  by_cases hz : fx = 0
  · rw [decide_eq_true hz]
    repeat (first|refine zA ?_|refine zB fun _ _ _=>?_|refine zC fun _ _ _=>?_|refine zD fun _ _=>?_|refine zE ?_|refine zF ?_)
    exact Ev.ret (h0 hz _ (by assumption))
  · rw [decide_eq_false hz]
    repeat (first|refine zA ?_|refine zB fun _ _ _=>?_|refine zC fun _ _ _=>?_|refine zD fun _ _=>?_|refine zE ?_|refine zF ?_)
    by_cases hp : fx > 0
    · rw [decide_eq_true hp]
      obtain ⟨f, rfl⟩ : ∃ f : Nat, fx = f := ⟨fx.toNat, by omega⟩
      repeat (first | (first|refine zA ?_|refine zB fun _ _ _=>?_|refine zC fun _ _ _=>?_|refine zD fun _ _=>?_|refine zE ?_|refine zF ?_) | rw [decide_eq_true (by omega)] | rw [decide_eq_false (by omega)])
      exact Ev.ret (h1 hz ((f - 1 : Nat) : Int) _ (by omega) (by omega) (by assumption))
    · rw [decide_eq_false hp]
      repeat (first|refine zA ?_|refine zB fun _ _ _=>?_|refine zC fun _ _ _=>?_|refine zD fun _ _=>?_|refine zE ?_|refine zF ?_)
      exact Ev.ret (h1 hz fx _ (by omega) hf.1 hS)
theorem xWrite_spec {p : Value} {D : Dsk} {Ls : List (Nat × Blk)} {i : Int} {s : List UInt8} (hD : XK p D Ls) (hO : D.OK) (hc : D.cache.length < 1000000000000) (hS : St H0 B0 B (Ls ++ L) H) :
    Ev (fun k _ => rn k 85 [p, .int .i64 i, str s] H) (XkP H0 B0 B L p (.int .i64 (D.write i s).1) (D.write i s).2) := by
  have hD0 := hD
  obtain ⟨n, bytes, cache, fu, dn⟩ := D
  obtain ⟨x, sv, cv, fx, Ls1, Lc, rfl, hfx, hf1, hG1, hG2, rfl⟩ := hD
  have h1 := hO.n1
  have h2 := hO.n2
  have hfu := hO.fu
  dsimp only at hS hc h1 h2 hfu hG1 hG2 hD0 hfx
  simp only [List.cons_append] at hS
  have hcell1 := hG1.cell
  have hcell2 := hG2.cell
  have back : ∀ H', St H0 B0 B ((x, ⟨[sv, cv, .int .i64 fx, .bool dn], 54, .fix⟩) :: (Ls1 ++ Lc ++ L)) H' → ∃ Ls B', MoC B B' ∧ XK (ptr x 0) ⟨n, bytes, cache, fu, dn⟩ Ls ∧ St H0 B0 B' (Ls ++ L) H' := fun H' h => ⟨_, B, ⟨Mo.refl B⟩, hD0, h⟩
  refine Ev.fn (fun k => f85_eq k _ _ _ H) ?_
  unfold Dsk.write
  dsimp only
  have hls := hG1.len (Und.eq (P := Tryz.prog) (t := 51))
  rw [List.length_map, secsB_len] at hls
  repeat (first|refine zA ?_|refine zB fun _ _ _=>?_|refine zC fun _ _ _=>?_|refine zD fun _ _=>?_|refine zE ?_|refine zF ?_)
  cases dn with
  | true =>
    repeat (first|refine zA ?_|refine zB fun _ _ _=>?_|refine zC fun _ _ _=>?_|refine zD fun _ _=>?_|refine zE ?_|refine zF ?_)
    exact Ev.ret ⟨rfl, back _ hS⟩
  | false =>
    repeat (first|refine zA ?_|refine zB fun _ _ _=>?_|refine zC fun _ _ _=>?_|refine zD fun _ _=>?_|refine zE ?_|refine zF ?_)
    rw [if_neg (fun h => by cases h)]
    by_cases hi : i < 0
    · rw [decide_eq_true hi, if_pos (.inl hi)]
      repeat (first|refine zA ?_|refine zB fun _ _ _=>?_|refine zC fun _ _ _=>?_|refine zD fun _ _=>?_|refine zE ?_|refine zF ?_)
      exact Ev.ret ⟨rfl, back _ hS⟩
    rw [decide_eq_false hi]
    obtain ⟨q, rfl⟩ : ∃ q : Nat, i = q := ⟨i.toNat, by omega⟩
    repeat (first|refine zA ?_|refine zB fun _ _ _=>?_|refine zC fun _ _ _=>?_|refine zD fun _ _=>?_|refine zE ?_|refine zF ?_)
    rw [hls, Option.bind_some]
    repeat (first|refine zA ?_|refine zB fun _ _ _=>?_|refine zC fun _ _ _=>?_|refine zD fun _ _=>?_|refine zE ?_|refine zF ?_)
    by_cases hq : n ≤ q
    · rw [decide_eq_true (by omega), if_pos (.inr (.inl (by omega)))]
      repeat (first|refine zA ?_|refine zB fun _ _ _=>?_|refine zC fun _ _ _=>?_|refine zD fun _ _=>?_|refine zE ?_|refine zF ?_)
      exact Ev.ret ⟨rfl, back _ hS⟩
    rw [decide_eq_false (by omega)]
    repeat (first|refine zA ?_|refine zB fun _ _ _=>?_|refine zC fun _ _ _=>?_|refine zD fun _ _=>?_|refine zE ?_|refine zF ?_)
    by_cases hl : s.length = 64
    · rw [decide_eq_false (fun h => h hl), if_neg (by omega)]
      repeat (first|refine zA ?_|refine zB fun _ _ _=>?_|refine zC fun _ _ _=>?_|refine zD fun _ _=>?_|refine zE ?_|refine zF ?_)
      unfold Dsk.act
      dsimp only
      refine Ev.b2 (xact_spec (Q := fun r => (fx = 0 ∧ r.1 = .bool false ∧ St H0 B0 B ((x, ⟨[sv, cv, .int .i64 fx, .bool true], 54, .fix⟩) :: (Ls1 ++ Lc ++ L)) r.2) ∨
        (fx ≠ 0 ∧ ∃ fy, max fy (-1) = max (max fx (-1) - 1) (-1) ∧ -9223372036854775808 ≤ fy ∧ r.1 = .bool true ∧ St H0 B0 B ((x, ⟨[sv, cv, .int .i64 fy, .bool false], 54, .fix⟩) :: (Ls1 ++ Lc ++ L)) r.2)) (by omega) hS (fun h0 H' h => .inl ⟨h0, rfl, h⟩) (fun h0 fy H' e1 e2 h => .inr ⟨h0, fy, e1, e2, rfl, h⟩)) ?_
      rintro _ H1 (⟨h0, rfl, hS1⟩ | ⟨h0, fy, e1, e2, rfl, hS1⟩)
      · dsimp only at hS1
        rw [if_pos (by omega)]
        clear hS back
        repeat (first|refine zA ?_|refine zB fun _ _ _=>?_|refine zC fun _ _ _=>?_|refine zD fun _ _=>?_|refine zE ?_|refine zF ?_)
        exact Ev.ret ⟨rfl, _, B, ⟨Mo.refl B⟩, ⟨x, sv, cv, fx, Ls1, Lc, rfl, hfx, hf1, hG1, hG2, rfl⟩, hS1⟩
      · dsimp only at hS1
        rw [if_neg (by omega)]
        clear hS back
        repeat (first|refine zA ?_|refine zB fun _ _ _=>?_|refine zC fun _ _ _=>?_|refine zD fun _ _=>?_|refine zE ?_|refine zF ?_)
        have hlc := hG2.len (Und.eq (P := Tryz.prog) (t := 52))
        refine Ev.prim hlc ?_
        repeat (first|refine zA ?_|refine zB fun _ _ _=>?_|refine zC fun _ _ _=>?_|refine zD fun _ _=>?_|refine zE ?_|refine zF ?_)
        refine Ev.prim hlc ?_
        refine Ev.prim (hG2.slc3 (P := Tryz.prog) (t := 52) hS1 fun p hp => .tail _ (List.mem_append_left _ (List.mem_append_right _ hp))) ?_
        repeat (first|refine zA ?_|refine zB fun _ _ _=>?_|refine zC fun _ _ _=>?_|refine zD fun _ _=>?_|refine zE ?_|refine zF ?_)
        have hS4 := hS1.perm (L' := Lc ++ ((x, ⟨[sv, cv, .int .i64 fy, .bool false], 54, .fix⟩) :: (Ls1 ++ L))) (by (refine perm_cnt ?_; intro _ a; simp only [List.count_append, List.count_cons, List.cons_append, List.nil_append, List.append_assoc]; try ac_rfl))
        refine GAcc.push (t := 52) (ds := [i64 q, str s]) (hG2.acc hS4) rfl rfl rfl rfl (by omega) (by omega) fun v' B' H5 hm hA => ?_
        obtain ⟨Lx, hG5, hS5⟩ := hA.grs
        have hS6 := hS5.perm (L' := (x, ⟨[sv, cv, .int .i64 fy, .bool false], 54, .fix⟩) :: (Ls1 ++ Lx ++ L)) (by (refine perm_cnt ?_; intro _ a; simp only [List.count_append, List.count_cons, List.cons_append, List.nil_append, List.append_assoc]; try ac_rfl))
        have hcell5 := hG5.cell
        clear hS1 hS4 hS5 hA
        repeat (first|refine zA ?_|refine zB fun _ _ _=>?_|refine zC fun _ _ _=>?_|refine zD fun _ _=>?_|refine zE ?_|refine zF ?_)
        rename_i H6 hS7
        refine Ev.ret ⟨rfl, _, B', hm, ⟨x, sv, v', fy, Ls1, Lx, rfl, ?_, e2, hG1, ?_, rfl⟩, hS7⟩
        · unfold Dsk.put
          dsimp only
          omega
        · unfold Dsk.put
          dsimp only
          rw [caCells_snoc, List.length_append]
          exact hG5
    · rw [decide_eq_true hl, if_pos (.inr (.inr hl))]
      repeat (first|refine zA ?_|refine zB fun _ _ _=>?_|refine zC fun _ _ _=>?_|refine zD fun _ _=>?_|refine zE ?_|refine zF ?_)
      exact Ev.ret ⟨rfl, back _ hS⟩
theorem xRead_spec {p : Value} {D : Dsk} {Ls : List (Nat × Blk)} {i : Int} (hD : XK p D Ls) (hO : D.OK) (hc : D.cache.length < 1000000000000) {Lx : List (Nat × Blk)} (hS : St H0 B0 B Lx H) (hsub : ∀ x ∈ Ls, x ∈ Lx) :
    Ev (fun k _ => rn k 52 [p, .int .i64 i] H) (fun r => r = (.tuple #[str (D.read i).1, .int .i64 (D.read i).2], H)) := by
  obtain ⟨n, bytes, cache, fu, dn⟩ := D
  obtain ⟨x, sv, cv, fx, Ls1, Lc, rfl, hfx, hf1, hG1, hG2, rfl⟩ := hD
  have h1 := hO.n1
  have h2 := hO.n2
  dsimp only at hc h1 h2 hG1 hG2 hfx
  have hcell1 := hG1.cell
  have hcell2 := hG2.cell
  have hxm : InL x ⟨[sv, cv, .int .i64 fx, .bool dn], 54, .fix⟩ Lx := ⟨hsub _ (.head _)⟩
  have hN1 := hG1.now hS (fun p hp => hsub _ (.tail _ (List.mem_append_left _ hp)))
  have hN2 := hG2.now hS (fun p hp => hsub _ (.tail _ (List.mem_append_right _ hp)))
  rw [List.length_map, secsB_len] at hN1
  have hls := hG1.len (Und.eq (P := Tryz.prog) (t := 51))
  rw [List.length_map, secsB_len] at hls
  have hlc := hG2.len (Und.eq (P := Tryz.prog) (t := 52))
  refine Ev.fn (fun k => f52_eq k _ _ H) ?_
  unfold Dsk.read
  dsimp only
  repeat (first|refine zA ?_|refine zB fun _ _ _=>?_|refine zC fun _ _ _=>?_|refine zD fun _ _=>?_|refine zE ?_|refine zF ?_)
  cases dn with
  | true =>
    repeat (first|refine zA ?_|refine zB fun _ _ _=>?_|refine zC fun _ _ _=>?_|refine zD fun _ _=>?_|refine zE ?_|refine zF ?_)
    exact Ev.ret rfl
  | false =>
    repeat (first|refine zA ?_|refine zB fun _ _ _=>?_|refine zC fun _ _ _=>?_|refine zD fun _ _=>?_|refine zE ?_|refine zF ?_)
    rw [if_neg (fun h => by cases h)]
    by_cases hi : i < 0
    · rw [decide_eq_true hi, if_pos (.inl hi)]
      repeat (first|refine zA ?_|refine zB fun _ _ _=>?_|refine zC fun _ _ _=>?_|refine zD fun _ _=>?_|refine zE ?_|refine zF ?_)
      exact Ev.ret rfl
    rw [decide_eq_false hi]
    obtain ⟨q, rfl⟩ : ∃ q : Nat, i = q := ⟨i.toNat, by omega⟩
    repeat (first|refine zA ?_|refine zB fun _ _ _=>?_|refine zC fun _ _ _=>?_|refine zD fun _ _=>?_|refine zE ?_|refine zF ?_)
    rw [hls, Option.bind_some]
    repeat (first|refine zA ?_|refine zB fun _ _ _=>?_|refine zC fun _ _ _=>?_|refine zD fun _ _=>?_|refine zE ?_|refine zF ?_)
    by_cases hq : n ≤ q
    · rw [decide_eq_true (by omega), if_pos (.inr (by omega))]
      repeat (first|refine zA ?_|refine zB fun _ _ _=>?_|refine zC fun _ _ _=>?_|refine zD fun _ _=>?_|refine zE ?_|refine zF ?_)
      exact Ev.ret rfl
    rw [decide_eq_false (by omega), if_neg (by omega)]
    repeat (first|refine zA ?_|refine zB fun _ _ _=>?_|refine zC fun _ _ _=>?_|refine zD fun _ _=>?_|refine zE ?_|refine zF ?_)
    refine Ev.ixN (t := 51) (x := str (sec bytes q)) hN1 q rfl (by omega) (by rw [List.getElem?_map, secsB_at (by omega)]; rfl) fun pp hp => ?_
    refine Ev.prim (hp.eq H (Mo.refl H)) ?_
    have key : ∀ (m k : Nat), k + m = cache.length → Ev (fun K K2 => f52_L0 K (ptr x 0) (i64 q) (str ((find (cache.take k) q).getD (sec bytes q))) (i64 k) K2 H)
        (fun o => o = (.exit 1, f52_X_L0 (str ((find cache q).getD (sec bytes q))), H)) := by
      intro m
      induction m with
      | zero =>
        intro k hk
        refine Ev.succ (fun K K2 => f52_L0_succ K _ _ _ _ K2 H) ?_
        repeat (first|refine zA ?_|refine zB fun _ _ _=>?_|refine zC fun _ _ _=>?_|refine zD fun _ _=>?_|refine zE ?_|refine zF ?_)
        refine Ev.prim hlc ?_
        repeat (first | (first|refine zA ?_|refine zB fun _ _ _=>?_|refine zC fun _ _ _=>?_|refine zD fun _ _=>?_|refine zE ?_|refine zF ?_) | rw [decide_eq_true (by omega)] | rw [decide_eq_false (by omega)])
        rw [List.take_of_length_le (by omega)]
        exact Ev.ret rfl
      | succ m ih =>
        intro k hk
        refine Ev.succ (fun K K2 => f52_L0_succ K _ _ _ _ K2 H) ?_
        repeat (first|refine zA ?_|refine zB fun _ _ _=>?_|refine zC fun _ _ _=>?_|refine zD fun _ _=>?_|refine zE ?_|refine zF ?_)
        refine Ev.prim hlc ?_
        repeat (first | (first|refine zA ?_|refine zB fun _ _ _=>?_|refine zC fun _ _ _=>?_|refine zD fun _ _=>?_|refine zE ?_|refine zF ?_) | rw [decide_eq_true (by omega)] | rw [decide_eq_false (by omega)])
        obtain ⟨⟨a, s⟩, hks⟩ : ∃ e, cache[k]? = some e := ⟨_, List.getElem?_eq_getElem (by omega)⟩
        obtain ⟨e1, e2⟩ := caCells_two hks
        obtain ⟨bp, o, q1, q2⟩ := hN2.at2 (P := Tryz.prog) (t := 52) (k := .i64) (i := k) (by omega)
        have q3 := q2 3 0 _ (AggOf.eq (P := Tryz.prog) (t := 3)) (by decide) e1
        have q4 := q2 9 1 _ (AggOf.eq (P := Tryz.prog) (t := 9)) (by decide) e2
        rw [Nat.add_zero] at q3
        have hst : find (cache.take (k + 1)) q = if a = q then some s else find (cache.take k) q := by
          rw [List.take_add_one, hks]
          exact find_snoc _ _ _ _
        have hih := ih (k + 1) (by omega)
        rw [hst] at hih
        refine Ev.prim q1 ?_
        repeat (first|refine zA ?_|refine zB fun _ _ _=>?_|refine zC fun _ _ _=>?_|refine zD fun _ _=>?_|refine zE ?_|refine zF ?_)
        refine Ev.prim q3 ?_
        repeat (first|refine zA ?_|refine zB fun _ _ _=>?_|refine zC fun _ _ _=>?_|refine zD fun _ _=>?_|refine zE ?_|refine zF ?_)
        by_cases haq : a = q
        · rw [decide_eq_true haq]
          rw [if_pos haq] at hih
          repeat (first|refine zA ?_|refine zB fun _ _ _=>?_|refine zC fun _ _ _=>?_|refine zD fun _ _=>?_|refine zE ?_|refine zF ?_)
          refine Ev.prim q1 ?_
          repeat (first|refine zA ?_|refine zB fun _ _ _=>?_|refine zC fun _ _ _=>?_|refine zD fun _ _=>?_|refine zE ?_|refine zF ?_)
          refine Ev.prim q4 ?_
          repeat (first | (first|refine zA ?_|refine zB fun _ _ _=>?_|refine zC fun _ _ _=>?_|refine zD fun _ _=>?_|refine zE ?_|refine zF ?_) | rw [decide_eq_true (by omega)] | rw [decide_eq_false (by omega)])
          exact hih
        · rw [decide_eq_false haq]
          rw [if_neg haq] at hih
          repeat (first | (first|refine zA ?_|refine zB fun _ _ _=>?_|refine zC fun _ _ _=>?_|refine zD fun _ _=>?_|refine zE ?_|refine zF ?_) | rw [decide_eq_true (by omega)] | rw [decide_eq_false (by omega)])
          exact hih
    refine Ev.bind (Ev.loop (key cache.length 0 (by omega))) ?_
    rintro _ rfl
    refine Ev.eq (fun k _ => f52_A0_x1 k _ H) ?_
    exact Ev.ret rfl
theorem xbar_loop {x n : Nat} {sv cv : Value} {fx : Int} {bytes : List UInt8} {cache : List (Nat × List UInt8)} {Lc : List (Nat × Blk)} (hb : bytes.length = 64 * n) (hca : ∀ p ∈ cache, p.1 < n ∧ p.2.length = 64) (hG2 : GRS 160 2 cv cache.length (caCells cache) Lc) (hc : cache.length < 1000000000000) : ∀ (m k : Nat) (H : AH) (Ls1 : List (Nat × Blk)), k + m = cache.length →
    WRS 9 sv ((secsB n (layAll (cache.take k) bytes)).map str) Ls1 → St H0 B0 B ((x, ⟨[sv, cv, .int .i64 fx, .bool false], 54, .fix⟩) :: (Ls1 ++ (Lc ++ L))) H →
    Ev (fun K K2 => f67_L0 K (ptr x 0) (i64 k) K2 H) (fun o => ∃ H' Ls1', o = (.exit 1, f67_X_L0 (ptr x 0), H') ∧ WRS 9 sv ((secsB n (layAll cache bytes)).map str) Ls1' ∧ St H0 B0 B ((x, ⟨[sv, cv, .int .i64 fx, .bool false], 54, .fix⟩) :: (Ls1' ++ (Lc ++ L))) H') := by
  intro m
  have hcell2 := hG2.cell
  have hlc := hG2.len (Und.eq (P := Tryz.prog) (t := 52))
  induction m with
  | zero =>
    intro k H Ls1 hk hW hS
    have hcell1 := hW.cell
    refine Ev.succ (fun K K2 => f67_L0_succ K _ _ K2 H) ?_
    repeat (first|refine zA ?_|refine zB fun _ _ _=>?_|refine zC fun _ _ _=>?_|refine zD fun _ _=>?_|refine zE ?_|refine zF ?_)
    refine Ev.prim hlc ?_
    repeat (first | (first|refine zA ?_|refine zB fun _ _ _=>?_|refine zC fun _ _ _=>?_|refine zD fun _ _=>?_|refine zE ?_|refine zF ?_) | rw [decide_eq_true (by omega)] | rw [decide_eq_false (by omega)])
    rw [List.take_of_length_le (by omega)] at hW
    exact Ev.ret ⟨H, Ls1, rfl, hW, hS⟩
  | succ m ih =>
    intro k H Ls1 hk hW hS
    have hcell1 := hW.cell
    refine Ev.succ (fun K K2 => f67_L0_succ K _ _ K2 H) ?_
    repeat (first|refine zA ?_|refine zB fun _ _ _=>?_|refine zC fun _ _ _=>?_|refine zD fun _ _=>?_|refine zE ?_|refine zF ?_)
    refine Ev.prim hlc ?_
    repeat (first | (first|refine zA ?_|refine zB fun _ _ _=>?_|refine zC fun _ _ _=>?_|refine zD fun _ _=>?_|refine zE ?_|refine zF ?_) | rw [decide_eq_true (by omega)] | rw [decide_eq_false (by omega)])
    obtain ⟨⟨a, s⟩, hks⟩ : ∃ e, cache[k]? = some e := ⟨_, List.getElem?_eq_getElem (by omega)⟩
    obtain ⟨ha, hs⟩ := hca _ (List.mem_of_getElem? hks)
    dsimp only at ha hs
    have hN2 := hG2.now hS (fun p hp => .tail _ (List.mem_append_right _ (List.mem_append_left _ hp)))
    obtain ⟨e1, e2⟩ := caCells_two hks
    obtain ⟨bp, o, q1, q2⟩ := hN2.at2 (P := Tryz.prog) (t := 52) (k := .i64) (i := k) (by omega)
    have q3 := q2 3 0 _ (AggOf.eq (P := Tryz.prog) (t := 3)) (by decide) e1
    have q4 := q2 9 1 _ (AggOf.eq (P := Tryz.prog) (t := 9)) (by decide) e2
    rw [Nat.add_zero] at q3
    refine Ev.prim q1 ?_
    repeat (first|refine zA ?_|refine zB fun _ _ _=>?_|refine zC fun _ _ _=>?_|refine zD fun _ _=>?_|refine zE ?_|refine zF ?_)
    refine Ev.prim q3 ?_
    repeat (first|refine zA ?_|refine zB fun _ _ _=>?_|refine zC fun _ _ _=>?_|refine zD fun _ _=>?_|refine zE ?_|refine zF ?_)
    refine Ev.prim q1 ?_
    repeat (first|refine zA ?_|refine zB fun _ _ _=>?_|refine zC fun _ _ _=>?_|refine zD fun _ _=>?_|refine zE ?_|refine zF ?_)
    refine Ev.prim q4 ?_
    have hS2 : St H0 B0 B (Ls1 ++ ((x, ⟨[sv, cv, .int .i64 fx, .bool false], 54, .fix⟩) :: (Lc ++ L))) H := hS.perm (by (refine perm_cnt ?_; intro _ a; simp only [List.count_append, List.count_cons, List.cons_append, List.nil_append, List.append_assoc]; try ac_rfl))
    obtain ⟨p, H', Ls1', w1, w2, w3, w4⟩ := hW.store (P := Tryz.prog) (t := 51) (i := a) (w := str s) (AggOf.eq (P := Tryz.prog) (t := 9)) hS2 (by rw [List.length_map, secsB_len]; exact ha) rfl
    refine Ev.prim (w1 .i64) ?_
    refine Ev.prim w2 ?_
    clear hS hS2 hN2
    have hl : (layAll (cache.take k) bytes).length = 64 * n := layAll_len _ _ _ hb fun p hp => hca p (List.mem_of_mem_take hp)
    have e : (secsB n (layAll (cache.take k) bytes)).map str = (secsB n (layAll (cache.take k) bytes)).map str := rfl
    rw [← List.map_set, secsB_lay hl ha hs, ← lay_at hks] at w3
    have hS3 : St H0 B0 B ((x, ⟨[sv, cv, .int .i64 fx, .bool false], 54, .fix⟩) :: (Ls1' ++ (Lc ++ L))) H' := w4.perm (by (refine perm_cnt ?_; intro _ a; simp only [List.count_append, List.count_cons, List.cons_append, List.nil_append, List.append_assoc]; try ac_rfl))
    repeat (first | (first|refine zA ?_|refine zB fun _ _ _=>?_|refine zC fun _ _ _=>?_|refine zD fun _ _=>?_|refine zE ?_|refine zF ?_) | rw [decide_eq_true (by omega)] | rw [decide_eq_false (by omega)])
    exact ih (k + 1) H' Ls1' (by omega) w3 hS3
theorem xBarrier_spec {p : Value} {D : Dsk} {Ls : List (Nat × Blk)} (hD : XK p D Ls) (hO : D.OK) (hc : D.cache.length < 1000000000000) (hS : St H0 B0 B (Ls ++ L) H) :
    Ev (fun k _ => rn k 67 [p] H) (XkP H0 B0 B L p (.int .i64 D.barrier.1) D.barrier.2) := by
  have hD0 := hD
  obtain ⟨n, bytes, cache, fu, dn⟩ := D
  obtain ⟨x, sv, cv, fx, Ls1, Lc, rfl, hfx, hf1, hG1, hG2, rfl⟩ := hD
  have h1 := hO.n1
  have hfu := hO.fu
  have hca := hO.ca
  have hlen := hO.len
  dsimp only at hS hc h1 hfu hG1 hG2 hD0 hfx hca hlen
  simp only [List.cons_append] at hS
  have hcell1 := hG1.cell
  have hcell2 := hG2.cell
  have back : ∀ H', St H0 B0 B ((x, ⟨[sv, cv, .int .i64 fx, .bool dn], 54, .fix⟩) :: (Ls1 ++ Lc ++ L)) H' → ∃ Ls B', MoC B B' ∧ XK (ptr x 0) ⟨n, bytes, cache, fu, dn⟩ Ls ∧ St H0 B0 B' (Ls ++ L) H' := fun H' h => ⟨_, B, ⟨Mo.refl B⟩, hD0, h⟩
  refine Ev.fn (fun k => f67_eq k _ H) ?_
  unfold Dsk.barrier
  dsimp only
  repeat (first|refine zA ?_|refine zB fun _ _ _=>?_|refine zC fun _ _ _=>?_|refine zD fun _ _=>?_|refine zE ?_|refine zF ?_)
  cases dn with
  | true =>
    repeat (first|refine zA ?_|refine zB fun _ _ _=>?_|refine zC fun _ _ _=>?_|refine zD fun _ _=>?_|refine zE ?_|refine zF ?_)
    exact Ev.ret ⟨rfl, back _ hS⟩
  | false =>
    repeat (first|refine zA ?_|refine zB fun _ _ _=>?_|refine zC fun _ _ _=>?_|refine zD fun _ _=>?_|refine zE ?_|refine zF ?_)
    rw [if_neg (fun h => by cases h)]
    unfold Dsk.act
    dsimp only
    refine Ev.b2 (xact_spec (Q := fun r => (fx = 0 ∧ r.1 = .bool false ∧ St H0 B0 B ((x, ⟨[sv, cv, .int .i64 fx, .bool true], 54, .fix⟩) :: (Ls1 ++ Lc ++ L)) r.2) ∨
      (fx ≠ 0 ∧ ∃ fy, max fy (-1) = max (max fx (-1) - 1) (-1) ∧ -9223372036854775808 ≤ fy ∧ r.1 = .bool true ∧ St H0 B0 B ((x, ⟨[sv, cv, .int .i64 fy, .bool false], 54, .fix⟩) :: (Ls1 ++ Lc ++ L)) r.2)) (by omega) hS (fun h0 H' h => .inl ⟨h0, rfl, h⟩) (fun h0 fy H' e1 e2 h => .inr ⟨h0, fy, e1, e2, rfl, h⟩)) ?_
    rintro _ H1 (⟨h0, rfl, hS1⟩ | ⟨h0, fy, e1, e2, rfl, hS1⟩)
    · dsimp only at hS1
      rw [if_pos (by omega)]
      clear hS back
      repeat (first|refine zA ?_|refine zB fun _ _ _=>?_|refine zC fun _ _ _=>?_|refine zD fun _ _=>?_|refine zE ?_|refine zF ?_)
      exact Ev.ret ⟨rfl, _, B, ⟨Mo.refl B⟩, ⟨x, sv, cv, fx, Ls1, Lc, rfl, hfx, hf1, hG1, hG2, rfl⟩, hS1⟩
    · dsimp only at hS1
      rw [if_neg (by omega)]
      clear hS back
      repeat (first|refine zA ?_|refine zB fun _ _ _=>?_|refine zC fun _ _ _=>?_|refine zD fun _ _=>?_|refine zE ?_|refine zF ?_)
      have hS2 : St H0 B0 B ((x, ⟨[sv, cv, .int .i64 fy, .bool false], 54, .fix⟩) :: (Ls1 ++ (Lc ++ L))) H1 := hS1.perm (by (refine perm_cnt ?_; intro _ a; simp only [List.count_append, List.count_cons, List.cons_append, List.nil_append, List.append_assoc]; try ac_rfl))
      refine Ev.bind (Ev.loop (xbar_loop (bytes := bytes) hlen hca hG2 hc cache.length 0 H1 Ls1 (by omega) hG1 hS2)) ?_
      rintro _ ⟨H3, Ls3, rfl, hW3, hS3⟩
      clear hS1 hS2
      have hcell3 := hW3.cell
      refine Ev.eq (fun k _ => f67_A0_x1 k _ H3) ?_
      repeat (first|refine zA ?_|refine zB fun _ _ _=>?_|refine zC fun _ _ _=>?_|refine zD fun _ _=>?_|refine zE ?_|refine zF ?_)
      rename_i H4 hS4
      refine Ev.ret ⟨rfl, _, B, ⟨Mo.refl B⟩, ⟨x, sv, .slice none 0 0, fy, Ls3, [], rfl, ?_, e2, hW3, GRS.nil, rfl⟩, ?_⟩
      · show max fy (-1) = max (fu - 1) (-1)
        omega
      · have h5 : St H0 B0 B ((x, ⟨[sv, .slice none 0 0, .int .i64 fy, .bool false], 54, .fix⟩) :: (Ls3 ++ (Lc ++ L))) H4 := hS4
        rw [List.append_nil]
        exact h5.drop (.cons_cons _ (List.Sublist.append_left (List.sublist_append_right _ _) _))
theorem xNew_loop {n x : Nat} {Lr : List (Nat × Blk)} (hn : n ≤ 1024) : ∀ (m i : Nat) (B H : AH) (sv : Value) (Ls1 : List (Nat × Blk)), i + m = n → WRS 9 sv ((List.replicate i (List.replicate 64 (0 : UInt8))).map str) Ls1 → St H0 B0 B (Ls1 ++ ((x, ⟨[sv, .slice none 0 0, .int .i64 (-1), .bool false], 54, .fix⟩) :: Lr)) H →
    Ev (fun K K2 => f61_L0 K (i64 n) (ptr x 0) (i64 i) K2 H) (fun o => ∃ B' H' sv' Ls1', o = (.exit 0, f61_X_L0 (ptr x 0), H') ∧ MoC B B' ∧ WRS 9 sv' ((List.replicate n (List.replicate 64 (0 : UInt8))).map str) Ls1' ∧ St H0 B0 B' (Ls1' ++ ((x, ⟨[sv', .slice none 0 0, .int .i64 (-1), .bool false], 54, .fix⟩) :: Lr)) H') := by
  intro m
  induction m with
  | zero =>
    intro i B H sv Ls1 hi hW hS
    refine Ev.succ (fun K K2 => f61_L0_succ K _ _ _ K2 H) ?_
    have : i = n := by omega
    subst this
    repeat (first | (first|refine zA ?_|refine zB fun _ _ _=>?_|refine zC fun _ _ _=>?_|refine zD fun _ _=>?_|refine zE ?_|refine zF ?_) | rw [decide_eq_true (by omega)] | rw [decide_eq_false (by omega)])
    exact Ev.ret ⟨B, H, sv, Ls1, rfl, ⟨Mo.refl B⟩, hW, hS⟩
  | succ m ih =>
    intro i B H sv Ls1 hi hW hS
    have hcell1 := hW.cell
    refine Ev.succ (fun K K2 => f61_L0_succ K _ _ _ K2 H) ?_
    have hS0 : St H0 B0 B ((x, ⟨[sv, .slice none 0 0, .int .i64 (-1), .bool false], 54, .fix⟩) :: (Ls1 ++ Lr)) H := hS.perm (by (refine perm_cnt ?_; intro _ a; simp only [List.count_append, List.count_cons, List.cons_append, List.nil_append, List.append_assoc]; try ac_rfl))
    clear hS
    repeat (first | (first|refine zA ?_|refine zB fun _ _ _=>?_|refine zC fun _ _ _=>?_|refine zD fun _ _=>?_|refine zE ?_|refine zF ?_) | rw [decide_eq_true (by omega)] | rw [decide_eq_false (by omega)])
    have hE : Elt Tryz.prog 95 5 (.int .u8 0) 1 := inferInstance
    refine Ev.mkS (t := 95) (m := 64) hE hS0 (by decide) (by decide) fun b2 B3 H3 hm3 hS3 => ?_
    refine Ev.prim (cvS_part (d := 9) (bs := List.replicate 64 0) (by rw [byts_rep]; exact hS3) (.head _) (Nat.le_refl _) (by rw [List.length_replicate]; decide)) ?_
    rw [List.drop_zero, List.take_of_length_le (by rw [List.length_replicate]; exact Nat.le_refl _)]
    have hS4 : St H0 B0 B3 (Ls1 ++ ((x, ⟨[sv, .slice none 0 0, .int .i64 (-1), .bool false], 54, .fix⟩) :: Lr)) H3 := hS3.drop1.perm (by (refine perm_cnt ?_; intro _ a; simp only [List.count_append, List.count_cons, List.cons_append, List.nil_append, List.append_assoc]; try ac_rfl))
    clear hS0 hS3
    refine hW.push (t := 51) (x := str (List.replicate 64 0)) rfl rfl hS4 (by rw [List.length_map, List.length_replicate]; omega) fun v' Lx' H5 hW5 hS5 => ?_
    have hcell5 := hW5.cell
    have hS6 : St H0 B0 B3 ((x, ⟨[sv, .slice none 0 0, .int .i64 (-1), .bool false], 54, .fix⟩) :: (Lx' ++ Lr)) H5 := hS5.perm (by (refine perm_cnt ?_; intro _ a; simp only [List.count_append, List.count_cons, List.cons_append, List.nil_append, List.append_assoc]; try ac_rfl))
    clear hS4 hS5
    repeat (first | (first|refine zA ?_|refine zB fun _ _ _=>?_|refine zC fun _ _ _=>?_|refine zD fun _ _=>?_|refine zE ?_|refine zF ?_) | rw [decide_eq_true (by omega)] | rw [decide_eq_false (by omega)])
    rename_i H7 hS7
    have e : ∀ z : List UInt8, (List.replicate i z).map str ++ [str z] = (List.replicate (i + 1) z).map str := fun z => by rw [List.replicate_succ', List.map_append]; rfl
    rw [e] at hW5
    refine (ih (i + 1) B3 H7 v' Lx' (by omega) hW5 (hS7.perm (by (refine perm_cnt ?_; intro _ a; simp only [List.count_append, List.count_cons, List.cons_append, List.nil_append, List.append_assoc]; try ac_rfl)))).mono ?_
    rintro o ⟨B', H', sv', Ls', h1, h2, h3⟩
    exact ⟨B', H', sv', Ls', h1, ⟨hm3.trans h2.mo⟩, h3⟩
theorem xNew_spec {n : Nat} (h1 : 1 ≤ n) (h2 : n ≤ 1024) (hS : St H0 B0 B L H) :
    Ev (fun k _ => rn k 61 [i64 n] H) (fun r => ∃ x Ls B', r.1 = ptr x 0 ∧ MoC B B' ∧ XK (ptr x 0) (Dsk.new n) Ls ∧ St H0 B0 B' (Ls ++ L) r.2) := by
  refine Ev.fn (fun k => f61_eq k _ H) ?_
  repeat (first | (first|refine zA ?_|refine zB fun _ _ _=>?_|refine zC fun _ _ _=>?_|refine zD fun _ _=>?_|refine zE ?_|refine zF ?_) | rw [decide_eq_true (by omega)] | rw [decide_eq_false (by omega)])
  rename_i x H1 hS1
  clear hS
  refine Ev.bind (Ev.loop (xNew_loop h2 n 0 B H1 (.slice none 0 0) [] (by omega) WRS.nil hS1)) ?_
  rintro _ ⟨B2, H2, sv, Ls1, rfl, hm2, hW2, hS2⟩
  refine Ev.eq (fun k _ => f61_A0_x0 k _ H2) ?_
  refine Ev.ret ⟨x, _, B2, rfl, hm2, ⟨x, sv, .slice none 0 0, -1, Ls1, [], rfl, rfl, by decide, ?_, GRS.nil, rfl⟩, hS2.perm (by (refine perm_cnt ?_; intro _ a; simp only [List.count_append, List.count_cons, List.cons_append, List.nil_append, List.append_assoc]; try ac_rfl))⟩
  show WRS 9 sv ((secsB n (List.replicate (64 * n) 0)).map str) Ls1
  rw [secsB_new (Nat.le_refl n)]
  exact hW2
end
end Go.AM.E
namespace Go.AM.E
open Go Go.AM Go.Proofs
attribute [local irreducible] run bin un ld st box newV mkS fldA fld ixA ix slc slc3 build buildS cv cvS ap cpy lenV gOp pickV b2 aIf aChk evalK resume iterD Option.bind

section
variable {B B0 H0 H : AH} {L : List (Nat × Blk)}
theorem xpWrite_spec {p : Value} {D : Dsk} {Ls : List (Nat × Blk)} {n kind : Int} {t : List UInt8} (hD : XK p D Ls) (hO : D.OK) (hc : D.cache.length + 1 < 1000000000000) (ht : t.length < 9223372036854775808) (hk : -9223372036854775808 ≤ kind ∧ kind < 9223372036854775808) (hS : St H0 B0 B (Ls ++ L) H) :
    Ev (fun k _ => rn k 47 [p, .int .i64 n, .int .i64 kind, str t] H) (XkP H0 B0 B L p (.int .i64 (D.pwrite n kind t).1) (D.pwrite n kind t).2) := by
  refine Ev.fn (fun k => f47_eq k _ _ _ _ H) ?_
  refine Ev.b2 (rSeal_spec ht hk hS) ?_
  rintro _ H1 ⟨rfl, B1, hm1, hS1⟩
  dsimp only at hS1
  clear hS
  unfold Dsk.pwrite
  have hso := @sealR_ok kind t
  generalize sealR kind t = sr at hso
  obtain ⟨s, e⟩ := sr
  dsimp only at hso ⊢
  by_cases h0 : e = 0
  case neg =>
    rw [if_pos (.inl h0), decide_eq_false h0]
    repeat (first|refine zA ?_|refine zB fun _ _ _=>?_|refine zC fun _ _ _=>?_|refine zD fun _ _=>?_|refine zE ?_|refine zF ?_)
    exact Ev.ret ⟨rfl, Ls, B1, hm1, hD, hS1⟩
  rw [decide_eq_true h0]
  by_cases h1 : n < 0
  · rw [if_pos (.inr (.inl h1))]
    repeat (first | (first|refine zA ?_|refine zB fun _ _ _=>?_|refine zC fun _ _ _=>?_|refine zD fun _ _=>?_|refine zE ?_|refine zF ?_) | rw [decide_eq_true (by omega)] | rw [decide_eq_false (by omega)])
    exact Ev.ret ⟨rfl, Ls, B1, hm1, hD, hS1⟩
  by_cases h2 : n > 1048576
  · rw [if_pos (.inr (.inr h2))]
    repeat (first | (first|refine zA ?_|refine zB fun _ _ _=>?_|refine zC fun _ _ _=>?_|refine zD fun _ _=>?_|refine zE ?_|refine zF ?_) | rw [decide_eq_true (by omega)] | rw [decide_eq_false (by omega)])
    exact Ev.ret ⟨rfl, Ls, B1, hm1, hD, hS1⟩
  rw [if_neg (by omega)]
  obtain ⟨m, rfl⟩ : ∃ m : Nat, n = m := ⟨n.toNat, by omega⟩
  have hsl : s.length = 128 := by
    obtain ⟨_, _, _, _, h5, h6⟩ := hso h0
    rw [h6, seal_len h5]
  rw [show (2 : Int) * (m : Int) = ((2 * m : Nat) : Int) by omega, show ((2 * m : Nat) : Int) + 1 = ((2 * m + 1 : Nat) : Int) by omega]
  repeat (first | (first|refine zA ?_|refine zB fun _ _ _=>?_|refine zC fun _ _ _=>?_|refine zD fun _ _=>?_|refine zE ?_|refine zF ?_) | rw [decide_eq_true (by omega)] | rw [decide_eq_false (by omega)])
  refine Ev.prim (show slc Tryz.prog 9 (str s) none (some (.int .i64 64)) = some (str (s.take 64)) from slc_strT (l := s) (i := 64) (by omega)) ?_
  refine Ev.b2 (xWrite_spec (i := ((2 * m : Nat) : Int)) hD hO (by omega) hS1) ?_
  have hwo := hO.write ((2 * m : Nat) : Int) (s.take 64)
  have hwc := write_cache D ((2 * m : Nat) : Int) (s.take 64)
  generalize D.write ((2 * m : Nat) : Int) (s.take 64) = w at hwo hwc
  obtain ⟨w1, w2⟩ := w
  dsimp only at hwo hwc ⊢
  rintro _ H2 ⟨rfl, Ls2, B2, hm2, hD2, hS2⟩
  dsimp only at hS2
  clear hS1
  by_cases hw : w1 = 0
  case neg =>
    rw [if_pos hw]
    repeat (first|refine zA ?_|refine zB fun _ _ _=>?_|refine zC fun _ _ _=>?_|refine zD fun _ _=>?_|refine zE ?_|refine zF ?_)
    rw [decide_eq_true hw]
    repeat (first|refine zA ?_|refine zB fun _ _ _=>?_|refine zC fun _ _ _=>?_|refine zD fun _ _=>?_|refine zE ?_|refine zF ?_)
    exact Ev.ret ⟨rfl, Ls2, B2, ⟨hm1.mo.trans hm2.mo⟩, hD2, hS2⟩
  rw [if_neg (by simpa using hw)]
  repeat (first|refine zA ?_|refine zB fun _ _ _=>?_|refine zC fun _ _ _=>?_|refine zD fun _ _=>?_|refine zE ?_|refine zF ?_)
  rw [decide_eq_false (by simpa using hw)]
  repeat (first | (first|refine zA ?_|refine zB fun _ _ _=>?_|refine zC fun _ _ _=>?_|refine zD fun _ _=>?_|refine zE ?_|refine zF ?_) | rw [decide_eq_true (by omega)] | rw [decide_eq_false (by omega)])
  refine Ev.prim (show slc Tryz.prog 9 (str s) (some (.int .i64 64)) none = some (str (s.drop 64)) from slc_str (l := s) 64 rfl (by omega)) ?_
  refine Ev.b2 (xWrite_spec (i := ((2 * m + 1 : Nat) : Int)) hD2 hwo (by omega) hS2) ?_
  rintro _ H3 ⟨rfl, Ls3, B3, hm3, hD3, hS3⟩
  exact Ev.ret ⟨rfl, Ls3, B3, ⟨hm1.mo.trans (hm2.mo.trans hm3.mo)⟩, hD3, hS3⟩
theorem xpRead_spec {p : Value} {D : Dsk} {Ls : List (Nat × Blk)} {n : Int} (hD : XK p D Ls) (hO : D.OK) (hc : D.cache.length < 1000000000000) {Lx : List (Nat × Blk)} (hS : St H0 B0 B Lx H) (hsub : ∀ x ∈ Ls, x ∈ Lx) :
    Ev (fun k _ => rn k 108 [p, .int .i64 n] H) (fun r => r.1 = OpenV (D.pread n) ∧ ∃ B', MoC B B' ∧ St H0 B0 B' Lx r.2) := by
  refine Ev.fn (fun k => f108_eq k _ _ H) ?_
  unfold Dsk.pread
  by_cases h1 : n < 0
  · rw [if_pos (.inl h1)]
    repeat (first | (first|refine zA ?_|refine zB fun _ _ _=>?_|refine zC fun _ _ _=>?_|refine zD fun _ _=>?_|refine zE ?_|refine zF ?_) | rw [decide_eq_true (by omega)] | rw [decide_eq_false (by omega)])
    exact Ev.ret ⟨rfl, B, ⟨Mo.refl B⟩, hS⟩
  by_cases h2 : n > 1048576
  · rw [if_pos (.inr h2)]
    repeat (first | (first|refine zA ?_|refine zB fun _ _ _=>?_|refine zC fun _ _ _=>?_|refine zD fun _ _=>?_|refine zE ?_|refine zF ?_) | rw [decide_eq_true (by omega)] | rw [decide_eq_false (by omega)])
    exact Ev.ret ⟨rfl, B, ⟨Mo.refl B⟩, hS⟩
  rw [if_neg (by omega)]
  obtain ⟨m, rfl⟩ : ∃ m : Nat, n = m := ⟨n.toNat, by omega⟩
  rw [show (2 : Int) * (m : Int) = ((2 * m : Nat) : Int) by omega, show ((2 * m : Nat) : Int) + 1 = ((2 * m + 1 : Nat) : Int) by omega]
  repeat (first | (first|refine zA ?_|refine zB fun _ _ _=>?_|refine zC fun _ _ _=>?_|refine zD fun _ _=>?_|refine zE ?_|refine zF ?_) | rw [decide_eq_true (by omega)] | rw [decide_eq_false (by omega)])
  have h64a := read_len hO ((2 * m : Nat) : Int)
  have h64b := read_len hO ((2 * m + 1 : Nat) : Int)
  refine Ev.b2 (xRead_spec (i := ((2 * m : Nat) : Int)) hD hO hc hS hsub) ?_
  generalize D.read ((2 * m : Nat) : Int) = ra at h64a
  generalize hrb : D.read ((2 * m + 1 : Nat) : Int) = rb at h64b
  obtain ⟨a, ea⟩ := ra
  obtain ⟨b, eb⟩ := rb
  try dsimp only at h64a h64b ⊢
  rintro _ _ h
  cases h
  repeat (first|refine zA ?_|refine zB fun _ _ _=>?_|refine zC fun _ _ _=>?_|refine zD fun _ _=>?_|refine zE ?_|refine zF ?_)
  by_cases he : ea = 0
  case neg =>
    rw [if_pos he, decide_eq_true he]
    repeat (first|refine zA ?_|refine zB fun _ _ _=>?_|refine zC fun _ _ _=>?_|refine zD fun _ _=>?_|refine zE ?_|refine zF ?_)
    exact Ev.ret ⟨rfl, B, ⟨Mo.refl B⟩, hS⟩
  rw [if_neg (by simpa using he), decide_eq_false (by simpa using he)]
  repeat (first | (first|refine zA ?_|refine zB fun _ _ _=>?_|refine zC fun _ _ _=>?_|refine zD fun _ _=>?_|refine zE ?_|refine zF ?_) | rw [decide_eq_true (by omega)] | rw [decide_eq_false (by omega)])
  refine Ev.b2 (xRead_spec (i := ((2 * m + 1 : Nat) : Int)) hD hO hc hS hsub) ?_
  rw [hrb]
  try dsimp only
  rintro _ _ h
  cases h
  repeat (first|refine zA ?_|refine zB fun _ _ _=>?_|refine zC fun _ _ _=>?_|refine zD fun _ _=>?_|refine zE ?_|refine zF ?_)
  by_cases he2 : eb = 0
  case neg =>
    rw [if_pos he2, decide_eq_true he2]
    repeat (first|refine zA ?_|refine zB fun _ _ _=>?_|refine zC fun _ _ _=>?_|refine zD fun _ _=>?_|refine zE ?_|refine zF ?_)
    exact Ev.ret ⟨rfl, B, ⟨Mo.refl B⟩, hS⟩
  rw [if_neg (by simpa using he2), decide_eq_false (by simpa using he2)]
  repeat (first|refine zA ?_|refine zB fun _ _ _=>?_|refine zC fun _ _ _=>?_|refine zD fun _ _=>?_|refine zE ?_|refine zF ?_)
  refine Ev.b2 (rOpen_spec (b := a ++ b) (by rw [List.length_append]; omega) hS) ?_
  rintro _ H2 ⟨rfl, B2, hm2, hS2⟩
  dsimp only at hS2
  clear hS
  unfold OpenV
  repeat (first|refine zA ?_|refine zB fun _ _ _=>?_|refine zC fun _ _ _=>?_|refine zD fun _ _=>?_|refine zE ?_|refine zF ?_)
  exact Ev.ret ⟨rfl, B2, hm2, hS2⟩
end
end Go.AM.E
namespace Go.AM.E
open Go Go.AM Go.Proofs
attribute [local irreducible] run bin un ld st box newV mkS fldA fld ixA ix slc slc3 build buildS cv cvS ap cpy lenV gOp pickV b2 aIf aChk evalK resume iterD Option.bind

section
variable {B B0 H0 H : AH} {L : List (Nat × Blk)}
theorem callV_fn {k : Nat} {g : FuncId} {xs ys : List Value} {args : List Value} {H : AH} (hg : g < yOff) : callV (rn k) (.func (.func g) ⟨xs⟩ ⟨ys⟩) args H = rn k g (xs ++ (args ++ ys)) H := by
  unfold callV
  simp only [show Nat.blt g yOff = true by rw [Nat.blt_eq]; exact hg, cond_true]
abbrev RdT9 (b1 b2 b3 : Nat) : List Value := f51_T_R0 (ptr b1 0) (ptr b2 0) (ptr b3 0)
theorem read_loop {b bx b1 b2 b3 i : Nat} {cv : Value} {cache : List (Nat × List UInt8)} {Lc : List (Nat × Blk)} (hG : GRS 158 2 cv cache.length (caCells cache) Lc) (hc : cache.length < 1000000000000) :
    ∀ (m : Nat) (B H : AH), m ≤ cache.length → St H0 B0 B ((b, ⟨.int .i64 (0 : Nat) :: RdT9 b1 b2 b3, 7, .loop 51 7⟩) :: (bx, ⟨[cv], 96, .fix⟩) :: (b3, ⟨[.int .i64 0], 36, .fix⟩) :: (b2, ⟨[.string ByteArray.empty], 9, .fix⟩) :: (b1, ⟨[i64 i], 3, .fix⟩) :: (Lc ++ L)) H →
    Ev (fun k K => f105_L0 k (.func (.yield b) #[] #[]) (ptr bx 0) (.int .i64 ((m : Int) - 1)) K H) (fun o => ∃ B' H', MoC B B' ∧
      ((find (cache.take m) i = none ∧ o = (.exit 0, f105_X_L0, H') ∧ St H0 B0 B' ((b, ⟨.int .i64 (xSt .normal : Nat) :: RdT9 b1 b2 b3, 7, .loop 51 7⟩) :: (bx, ⟨[cv], 96, .fix⟩) :: (b3, ⟨[.int .i64 0], 36, .fix⟩) :: (b2, ⟨[.string ByteArray.empty], 9, .fix⟩) :: (b1, ⟨[i64 i], 3, .fix⟩) :: (Lc ++ L)) H') ∨
       ∃ s, find (cache.take m) i = some s ∧ o = (.ret, f105_X_L0, H') ∧ St H0 B0 B' ((b, ⟨.int .i64 (xSt .ret : Nat) :: RdT9 b1 b2 b3, 7, .loop 51 7⟩) :: (bx, ⟨[cv], 96, .fix⟩) :: (b3, ⟨[.int .i64 0], 36, .fix⟩) :: (b2, ⟨[str s], 9, .fix⟩) :: (b1, ⟨[i64 i], 3, .fix⟩) :: (Lc ++ L)) H')) := by
  intro m
  induction m with
  | zero =>
    intro B H hm hS
    refine Ev.succ (fun k K => f105_L0_succ k _ _ _ K H) ?_
    repeat (first|refine zA ?_|refine zB fun _ _ _=>?_|refine zC fun _ _ _=>?_|refine zD fun _ _=>?_|refine zE ?_|refine zF ?_)
    rw [decide_eq_false (by omega)]
    repeat (first|refine zA ?_|refine zB fun _ _ _=>?_|refine zC fun _ _ _=>?_|refine zD fun _ _=>?_|refine zE ?_|refine zF ?_)
    exact Ev.ret ⟨B, H, ⟨Mo.refl B⟩, .inl ⟨rfl, rfl, hS⟩⟩
  | succ m ih =>
    intro B H hm hS
    refine Ev.succ (fun k K => f105_L0_succ k _ _ _ K H) ?_
    rw [show ((m + 1 : Nat) : Int) - 1 = (m : Int) by omega]
    have hcell := hG.cell
    repeat (first|refine zA ?_|refine zB fun _ _ _=>?_|refine zC fun _ _ _=>?_|refine zD fun _ _=>?_|refine zE ?_|refine zF ?_)
    rw [decide_eq_true (by omega)]
    repeat (first|refine zA ?_|refine zB fun _ _ _=>?_|refine zC fun _ _ _=>?_|refine zD fun _ _=>?_|refine zE ?_|refine zF ?_)
    obtain ⟨⟨a, s⟩, ha, htk⟩ := take_ex (l := cache) (m := m) (by omega)
    have hN := hG.now hS (fun p hp => .tail _ (.tail _ (.tail _ (.tail _ (.tail _ (List.mem_append_left _ hp))))))
    obtain ⟨p, q1, q2⟩ := ScN.ldAt (P := Tryz.prog) (t := 96) (k := .i64) (i := m) hN (by omega) (AggOf.eq (P := Tryz.prog) (t := 158))
    rw [caCells_at ha] at q2
    refine Ev.prim q1 ?_
    refine Ev.prim q2 ?_
    rw [htk, find_snoc]
    refine Ev.b2 (Q1 := fun r => ∃ B', MoC B B' ∧ ((a ≠ i ∧ r.1 = .bool true ∧ St H0 B0 B' ((b, ⟨.int .i64 (0 : Nat) :: RdT9 b1 b2 b3, 7, .loop 51 7⟩) :: (bx, ⟨[cv], 96, .fix⟩) :: (b3, ⟨[.int .i64 0], 36, .fix⟩) :: (b2, ⟨[.string ByteArray.empty], 9, .fix⟩) :: (b1, ⟨[i64 i], 3, .fix⟩) :: (Lc ++ L)) r.2) ∨
        (a = i ∧ r.1 = .bool false ∧ St H0 B0 B' ((b, ⟨.int .i64 (xSt .ret : Nat) :: RdT9 b1 b2 b3, 7, .loop 51 7⟩) :: (bx, ⟨[cv], 96, .fix⟩) :: (b3, ⟨[.int .i64 0], 36, .fix⟩) :: (b2, ⟨[str s], 9, .fix⟩) :: (b1, ⟨[i64 i], 3, .fix⟩) :: (Lc ++ L)) r.2)))
      (Ev.fn (fun k => f51_Y0_eq k _ _ _ _ _ b H (hS.get (.head _))) ?_) ?_
    · repeat (first|refine zA ?_|refine zB fun _ _ _=>?_|refine zC fun _ _ _=>?_|refine zD fun _ _=>?_|refine zE ?_|refine zF ?_)
      rename_i bv H1 hS1 H2 hS2
      refine Ev.setSt (c := 0) (d := 1) hS2 (.tail _ (.head _)) (.tail _ (.head _)) fun H3 hS3 => ?_
      clear hS hS1 hS2 hN q1 q2
      repeat (first|refine zA ?_|refine zB fun _ _ _=>?_|refine zC fun _ _ _=>?_|refine zD fun _ _=>?_|refine zE ?_|refine zF ?_)
      by_cases hai : a = i
      · rw [decide_eq_true hai]
        repeat (first|refine zA ?_|refine zB fun _ _ _=>?_|refine zC fun _ _ _=>?_|refine zD fun _ _=>?_|refine zE ?_|refine zF ?_)
        rename_i H4 hS4 H5 hS5
        refine Ev.setSt (c := 1) (d := 2) hS5 (.tail _ (.head _)) (.tail _ (.head _)) fun H6 hS6 => ?_
        exact Ev.ret ⟨B, ⟨Mo.refl B⟩, .inr ⟨hai, rfl, hS6.drop1⟩⟩
      · rw [decide_eq_false hai]
        repeat (first|refine zA ?_|refine zB fun _ _ _=>?_|refine zC fun _ _ _=>?_|refine zD fun _ _=>?_|refine zE ?_|refine zF ?_)
        refine Ev.setSt (c := 1) (d := 0) hS3 (.tail _ (.head _)) (.tail _ (.head _)) fun H6 hS6 => ?_
        exact Ev.ret ⟨B, ⟨Mo.refl B⟩, .inl ⟨hai, rfl, hS6.drop1⟩⟩
    · rintro v H' ⟨B', hm1, ⟨hai, rfl, hS'⟩ | ⟨hai, rfl, hS'⟩⟩
      · rw [if_neg hai]
        clear hS
        repeat (first|refine zA ?_|refine zB fun _ _ _=>?_|refine zC fun _ _ _=>?_|refine zD fun _ _=>?_|refine zE ?_|refine zF ?_)
        refine Ev.prim (bin_sub64 (by omega)) ?_
        refine (ih B' H' (by omega) hS').mono ?_
        rintro o ⟨B2, H2, hm2, h⟩
        exact ⟨B2, H2, ⟨hm1.mo.trans hm2.mo⟩, h⟩
      · rw [if_pos hai]
        clear hS
        repeat (first|refine zA ?_|refine zB fun _ _ _=>?_|refine zC fun _ _ _=>?_|refine zD fun _ _=>?_|refine zE ?_|refine zF ?_)
        exact Ev.ret ⟨B', H', hm1, .inr ⟨s, rfl, rfl, hS'⟩⟩
theorem Read_spec {p : Value} {D : Dsk} {Ls : List (Nat × Blk)} {i : Int} (hD : DK p D Ls) (hO : D.OK) (hc : D.cache.length < 1000000000000) (hS : St H0 B0 B (Ls ++ L) H) :
    Ev (fun k _ => rn k 51 [p, .int .i64 i] H) (fun r => r.1 = .tuple #[str (D.read i).1, .int .i64 (D.read i).2] ∧ ∃ B', MoC B B' ∧ St H0 B0 B' (Ls ++ L) r.2) := by
  have hD0 := hD
  obtain ⟨n, bytes, cache, fu, dn⟩ := D
  obtain ⟨d, bb, cv, Lc, rfl, hG, rfl⟩ := hD
  have h1 := hO.n1
  have h2 := hO.n2
  have hlen := hO.len
  dsimp only at hS hc hG hD0 h1 h2 hlen
  simp only [List.cons_append] at hS ⊢
  have hcell := hG.cell
  refine Ev.fn (fun k => f51_eq k _ _ H) ?_
  repeat (first|refine zA ?_|refine zB fun _ _ _=>?_|refine zC fun _ _ _=>?_|refine zD fun _ _=>?_|refine zE ?_|refine zF ?_)
  rename_i b1 H1 hS1 b2 H2 hS2 b3 H3 hS3
  unfold Dsk.read
  dsimp only
  cases dn with
  | true =>
    clear hS hS1 hS2
    repeat (first|refine zA ?_|refine zB fun _ _ _=>?_|refine zC fun _ _ _=>?_|refine zD fun _ _=>?_|refine zE ?_|refine zF ?_)
    rename_i H4 hS4 H5 hS5
    exact Ev.ret ⟨rfl, B, ⟨Mo.refl B⟩, drop_3 hS5⟩
  | false =>
    clear hS hS1 hS2
    repeat (first|refine zA ?_|refine zB fun _ _ _=>?_|refine zC fun _ _ _=>?_|refine zD fun _ _=>?_|refine zE ?_|refine zF ?_)
    rw [if_neg (fun h => by cases h)]
    by_cases hi : i < 0
    · rw [decide_eq_true hi, if_pos (.inl hi)]
      repeat (first|refine zA ?_|refine zB fun _ _ _=>?_|refine zC fun _ _ _=>?_|refine zD fun _ _=>?_|refine zE ?_|refine zF ?_)
      rename_i H4 hS4 H5 hS5
      exact Ev.ret ⟨rfl, B, ⟨Mo.refl B⟩, drop_3 hS5⟩
    rw [decide_eq_false hi]
    obtain ⟨q, rfl⟩ : ∃ q : Nat, i = q := ⟨i.toNat, by omega⟩
    repeat (first|refine zA ?_|refine zB fun _ _ _=>?_|refine zC fun _ _ _=>?_|refine zD fun _ _=>?_|refine zE ?_|refine zF ?_)
    refine Ev.b2 (Sectors_spec hD0 hO hS3 ?_) ?_
    · intro x hx
      exact .tail _ (.tail _ (.tail _ (by rw [← List.cons_append, ← List.cons_append]; exact List.mem_append_left _ hx)))
    rintro _ _ ⟨rfl, rfl⟩
    repeat (first|refine zA ?_|refine zB fun _ _ _=>?_|refine zC fun _ _ _=>?_|refine zD fun _ _=>?_|refine zE ?_|refine zF ?_)
    by_cases hq : n ≤ q
    · rw [decide_eq_true hq, if_pos (.inr (by omega))]
      repeat (first|refine zA ?_|refine zB fun _ _ _=>?_|refine zC fun _ _ _=>?_|refine zD fun _ _=>?_|refine zE ?_|refine zF ?_)
      rename_i H4 hS4 H5 hS5
      exact Ev.ret ⟨rfl, B, ⟨Mo.refl B⟩, drop_3 hS5⟩
    rw [decide_eq_false hq, if_neg (by omega)]
    repeat (first|refine zA ?_|refine zB fun _ _ _=>?_|refine zC fun _ _ _=>?_|refine zD fun _ _=>?_|refine zE ?_|refine zF ?_)
    refine Ev.b2 (Q1 := fun r => ∃ bx, r.1 = .func (.func 105) #[] #[ptr bx 0] ∧ St H0 B0 B ((bx, ⟨[cv], 96, .fix⟩) :: (b3, ⟨[.int .i64 0], 36, .fix⟩) :: (b2, ⟨[.string ByteArray.empty], 9, .fix⟩) :: (b1, ⟨[i64 q], 3, .fix⟩) :: (d, ⟨[sl bb 0 (64 * n) (64 * n), cv, .int .i64 fu, .bool false], 98, .fix⟩) :: (bb, ⟨byts bytes, 5, .fix⟩) :: (Lc ++ L)) r.2)
      (Ev.fn (fun k => f86_eq k _ H3) ?_) ?_
    · repeat (first|refine zA ?_|refine zB fun _ _ _=>?_|refine zC fun _ _ _=>?_|refine zD fun _ _=>?_|refine zE ?_|refine zF ?_)
      rename_i bx H4 hS4
      exact Ev.ret ⟨bx, rfl, hS4⟩
    rintro _ H4 ⟨bx, rfl, hS4⟩
    simp only [callV_fn (show 105 < yOff by unfold yOff; omega), List.nil_append, List.cons_append]
    have hS5 := hS4.mkB' (.int .i64 0 :: RdT9 b1 b2 b3) 7 (.loop 51 7)
    clear hS3
    have hS6 := toFront (X := Lc) (La := [(H4.length, ⟨.int .i64 0 :: RdT9 b1 b2 b3, 7, .loop 51 7⟩), (bx, ⟨[cv], 96, .fix⟩), (b3, ⟨[.int .i64 0], 36, .fix⟩), (b2, ⟨[.string ByteArray.empty], 9, .fix⟩), (b1, ⟨[i64 q], 3, .fix⟩), (d, ⟨[sl bb 0 (64 * n) (64 * n), cv, .int .i64 fu, .bool false], 98, .fix⟩), (bb, ⟨byts bytes, 5, .fix⟩)]) (L := L) hS5
    have hS7 := toFront (X := [(H4.length, ⟨.int .i64 0 :: RdT9 b1 b2 b3, 7, .loop 51 7⟩), (bx, ⟨[cv], 96, .fix⟩), (b3, ⟨[.int .i64 0], 36, .fix⟩), (b2, ⟨[.string ByteArray.empty], 9, .fix⟩), (b1, ⟨[i64 q], 3, .fix⟩)]) (La := Lc) (L := [(d, ⟨[sl bb 0 (64 * n) (64 * n), cv, .int .i64 fu, .bool false], 98, .fix⟩), (bb, ⟨byts bytes, 5, .fix⟩)] ++ L) hS6
    simp only [List.cons_append, List.nil_append] at hS7
    clear hS4 hS5 hS6
    have key : Ev (fun k _ => rn k 105 [.func (.yield H4.length) #[] #[], ptr bx 0] (mkB H4 (.int .i64 0 :: RdT9 b1 b2 b3) 7 (.loop 51 7))) (fun r => ∃ B', MoC B B' ∧
        ((find cache q = none ∧ St H0 B0 B' ((H4.length, ⟨.int .i64 (xSt .normal : Nat) :: RdT9 b1 b2 b3, 7, .loop 51 7⟩) :: (bx, ⟨[cv], 96, .fix⟩) :: (b3, ⟨[.int .i64 0], 36, .fix⟩) :: (b2, ⟨[.string ByteArray.empty], 9, .fix⟩) :: (b1, ⟨[i64 q], 3, .fix⟩) :: (Lc ++ ([(d, ⟨[sl bb 0 (64 * n) (64 * n), cv, .int .i64 fu, .bool false], 98, .fix⟩), (bb, ⟨byts bytes, 5, .fix⟩)] ++ L))) r.2) ∨
         ∃ s, find cache q = some s ∧ St H0 B0 B' ((H4.length, ⟨.int .i64 (xSt .ret : Nat) :: RdT9 b1 b2 b3, 7, .loop 51 7⟩) :: (bx, ⟨[cv], 96, .fix⟩) :: (b3, ⟨[.int .i64 0], 36, .fix⟩) :: (b2, ⟨[str s], 9, .fix⟩) :: (b1, ⟨[i64 q], 3, .fix⟩) :: (Lc ++ ([(d, ⟨[sl bb 0 (64 * n) (64 * n), cv, .int .i64 fu, .bool false], 98, .fix⟩), (bb, ⟨byts bytes, 5, .fix⟩)] ++ L))) r.2)) := by
      refine Ev.fn (fun k => f105_eq k _ _ _) ?_
      repeat (first|refine zA ?_|refine zB fun _ _ _=>?_|refine zC fun _ _ _=>?_|refine zD fun _ _=>?_|refine zE ?_|refine zF ?_)
      refine Ev.prim (hG.len (Und.eq (P := Tryz.prog) (t := 96))) ?_
      refine Ev.prim (bin_sub64 (by omega)) ?_
      refine Ev.bind (Ev.loop (read_loop hG hc cache.length B _ (Nat.le_refl _) hS7)) ?_
      rw [List.take_length]
      rintro _ ⟨B', H', hm, ⟨hf, rfl, hS'⟩ | ⟨s, hf, rfl, hS'⟩⟩
      · refine Ev.eq (fun k _ => f105_A0_x0 k _) ?_
        exact Ev.ret ⟨B', hm, .inl ⟨hf, hS'⟩⟩
      · refine Ev.eq (fun k _ => f105_A0_ret k _) ?_
        exact Ev.ret ⟨B', hm, .inr ⟨s, hf, hS'⟩⟩
    refine Ev.b2 key ?_
    clear hS7
    rintro _ H5 ⟨B', hm, ⟨hf, hS'⟩ | ⟨s, hf, hS'⟩⟩
    · refine Ev.rgBack hS' fun H6 hS6 => ?_
      refine Ev.eq (fun k _ => f51_B0_normal k _ _ _ _ H6) ?_
      clear hS'
      have hS7 := hS6.perm (show ([(bx, _), (b3, _), (b2, _), (b1, _)] ++ ([(d, _), (bb, _)] ++ (Lc ++ L))).Perm _ from List.Perm.append_left _ (permA [(d, _), (bb, _)] Lc L).symm)
      simp only [List.cons_append, List.nil_append] at hS7
      clear hS6
      repeat (first|refine zA ?_|refine zB fun _ _ _=>?_|refine zC fun _ _ _=>?_|refine zD fun _ _=>?_|refine zE ?_|refine zF ?_)
      refine Ev.prim (slc_own2 (t := 95) (by omega)) ?_
      rw [if_neg (by omega)]
      refine Ev.prim (cvS_part (d := 9) (bs := bytes) hS7 (.tail _ (.tail _ (.tail _ (.tail _ (.tail _ (.head _)))))) (by omega) (by omega)) ?_
      repeat (first|refine zA ?_|refine zB fun _ _ _=>?_|refine zC fun _ _ _=>?_|refine zD fun _ _=>?_|refine zE ?_|refine zF ?_)
      rename_i H8 hS8 H9 hS9
      refine Ev.ret ⟨?_, B', hm, hS9.drop1.drop1.drop1.drop1⟩
      unfold Dsk.look Dsk.sector
      dsimp only
      rw [Int.toNat_natCast, hf]
      simp only [Option.getD_none, Nat.mul_comm 64 q, show (q + 1) * 64 - q * 64 = 64 by omega]
      rfl
    · refine Ev.rgBack hS' fun H6 hS6 => ?_
      refine Ev.eq (fun k _ => f51_B0_ret k _ _ _ _ H6) ?_
      clear hS'
      have hS7 := hS6.perm (show ([(bx, _), (b3, _), (b2, _), (b1, _)] ++ ([(d, _), (bb, _)] ++ (Lc ++ L))).Perm _ from List.Perm.append_left _ (permA [(d, _), (bb, _)] Lc L).symm)
      simp only [List.cons_append, List.nil_append] at hS7
      clear hS6
      repeat (first|refine zA ?_|refine zB fun _ _ _=>?_|refine zC fun _ _ _=>?_|refine zD fun _ _=>?_|refine zE ?_|refine zF ?_)
      refine Ev.ret ⟨?_, B', hm, hS7.drop1.drop1.drop1.drop1⟩
      unfold Dsk.look
      dsimp only
      rw [Int.toNat_natCast, hf]
      rfl
end
end Go.AM.E
namespace Go.AM.E
open Go Go.AM Go.Proofs
attribute [local irreducible] run bin un ld st box newV mkS fldA fld ixA ix slc slc3 build buildS cv cvS ap cpy lenV gOp pickV b2 aIf aChk evalK resume iterD Option.bind

section
variable {B B0 H0 H : AH} {L : List (Nat × Blk)}
theorem pWrite_spec {p : Value} {D : Dsk} {Ls : List (Nat × Blk)} {n kind : Int} {t : List UInt8} (hD : DK p D Ls) (hO : D.OK) (hc : D.cache.length + 1 < 1000000000000) (ht : t.length < 9223372036854775808) (hk : -9223372036854775808 ≤ kind ∧ kind < 9223372036854775808) (hS : St H0 B0 B (Ls ++ L) H) :
    Ev (fun k _ => rn k 45 [p, .int .i64 n, .int .i64 kind, str t] H) (DkP H0 B0 B L p (.int .i64 (D.pwrite n kind t).1) (D.pwrite n kind t).2) := by
  refine Ev.fn (fun k => f45_eq k _ _ _ _ H) ?_
  refine Ev.b2 (Seal_spec ht hk hS) ?_
  rintro _ H1 ⟨rfl, B1, hm1, hS1⟩
  dsimp only at hS1
  clear hS
  unfold SealV Dsk.pwrite
  have hso := @sealR_ok kind t
  generalize sealR kind t = sr at hso
  obtain ⟨s, e⟩ := sr
  dsimp only at hso ⊢
  by_cases h0 : e = 0
  case neg =>
    rw [if_pos (.inl h0)]
    repeat (first|refine zA ?_|refine zB fun _ _ _=>?_|refine zC fun _ _ _=>?_|refine zD fun _ _=>?_|refine zE ?_|refine zF ?_)
    rw [decide_eq_true h0]
    repeat (first|refine zA ?_|refine zB fun _ _ _=>?_|refine zC fun _ _ _=>?_|refine zD fun _ _=>?_|refine zE ?_|refine zF ?_)
    exact Ev.ret ⟨rfl, Ls, B1, hm1, hD, hS1⟩
  by_cases h1 : n < 0
  · rw [if_pos (.inr (.inl h1))]
    repeat (first | (first|refine zA ?_|refine zB fun _ _ _=>?_|refine zC fun _ _ _=>?_|refine zD fun _ _=>?_|refine zE ?_|refine zF ?_) | rw [decide_eq_true (by omega)] | rw [decide_eq_false (by omega)])
    exact Ev.ret ⟨rfl, Ls, B1, hm1, hD, hS1⟩
  by_cases h2 : n > 1048576
  · rw [if_pos (.inr (.inr h2))]
    repeat (first | (first|refine zA ?_|refine zB fun _ _ _=>?_|refine zC fun _ _ _=>?_|refine zD fun _ _=>?_|refine zE ?_|refine zF ?_) | rw [decide_eq_true (by omega)] | rw [decide_eq_false (by omega)])
    exact Ev.ret ⟨rfl, Ls, B1, hm1, hD, hS1⟩
  rw [if_neg (by omega)]
  obtain ⟨m, rfl⟩ : ∃ m : Nat, n = m := ⟨n.toNat, by omega⟩
  have hsl : s.length = 128 := by
    obtain ⟨_, _, _, _, h5, h6⟩ := hso h0
    rw [h6, seal_len h5]
  rw [show (2 : Int) * (m : Int) = ((2 * m : Nat) : Int) by omega, show ((2 * m : Nat) : Int) + 1 = ((2 * m + 1 : Nat) : Int) by omega]
  repeat (first | (first|refine zA ?_|refine zB fun _ _ _=>?_|refine zC fun _ _ _=>?_|refine zD fun _ _=>?_|refine zE ?_|refine zF ?_) | rw [decide_eq_true (by omega)] | rw [decide_eq_false (by omega)])
  refine Ev.prim (show slc Tryz.prog 9 (str s) none (some (.int .i64 64)) = some (str (s.take 64)) from slc_strT (l := s) (i := 64) (by omega)) ?_
  refine Ev.b2 (Write_spec (i := ((2 * m : Nat) : Int)) hD hO (by omega) hS1) ?_
  have hwo := hO.write ((2 * m : Nat) : Int) (s.take 64)
  have hwc := write_cache D ((2 * m : Nat) : Int) (s.take 64)
  generalize D.write ((2 * m : Nat) : Int) (s.take 64) = w at hwo hwc
  obtain ⟨w1, w2⟩ := w
  dsimp only at hwo hwc ⊢
  rintro _ H2 ⟨rfl, Ls2, B2, hm2, hD2, hS2⟩
  dsimp only at hS2
  clear hS1
  by_cases hw : w1 = 0
  case neg =>
    rw [if_pos hw]
    repeat (first|refine zA ?_|refine zB fun _ _ _=>?_|refine zC fun _ _ _=>?_|refine zD fun _ _=>?_|refine zE ?_|refine zF ?_)
    rw [decide_eq_true hw]
    repeat (first|refine zA ?_|refine zB fun _ _ _=>?_|refine zC fun _ _ _=>?_|refine zD fun _ _=>?_|refine zE ?_|refine zF ?_)
    exact Ev.ret ⟨rfl, Ls2, B2, ⟨hm1.mo.trans hm2.mo⟩, hD2, hS2⟩
  rw [if_neg (by simpa using hw)]
  repeat (first|refine zA ?_|refine zB fun _ _ _=>?_|refine zC fun _ _ _=>?_|refine zD fun _ _=>?_|refine zE ?_|refine zF ?_)
  rw [decide_eq_false (by simpa using hw)]
  repeat (first | (first|refine zA ?_|refine zB fun _ _ _=>?_|refine zC fun _ _ _=>?_|refine zD fun _ _=>?_|refine zE ?_|refine zF ?_) | rw [decide_eq_true (by omega)] | rw [decide_eq_false (by omega)])
  refine Ev.prim (show slc Tryz.prog 9 (str s) (some (.int .i64 64)) none = some (str (s.drop 64)) from slc_str (l := s) 64 rfl (by omega)) ?_
  refine Ev.b2 (Write_spec (i := ((2 * m + 1 : Nat) : Int)) hD2 hwo (by omega) hS2) ?_
  rintro _ H3 ⟨rfl, Ls3, B3, hm3, hD3, hS3⟩
  exact Ev.ret ⟨rfl, Ls3, B3, ⟨hm1.mo.trans (hm2.mo.trans hm3.mo)⟩, hD3, hS3⟩
theorem pRead_spec {p : Value} {D : Dsk} {Ls : List (Nat × Blk)} {n : Int} (hD : DK p D Ls) (hO : D.OK) (hc : D.cache.length < 1000000000000) (hS : St H0 B0 B (Ls ++ L) H) :
    Ev (fun k _ => rn k 106 [p, .int .i64 n] H) (fun r => r.1 = OpenV (D.pread n) ∧ ∃ B', MoC B B' ∧ St H0 B0 B' (Ls ++ L) r.2) := by
  refine Ev.fn (fun k => f106_eq k _ _ H) ?_
  unfold Dsk.pread
  by_cases h1 : n < 0
  · rw [if_pos (.inl h1)]
    repeat (first | (first|refine zA ?_|refine zB fun _ _ _=>?_|refine zC fun _ _ _=>?_|refine zD fun _ _=>?_|refine zE ?_|refine zF ?_) | rw [decide_eq_true (by omega)] | rw [decide_eq_false (by omega)])
    exact Ev.ret ⟨rfl, B, ⟨Mo.refl B⟩, hS⟩
  by_cases h2 : n > 1048576
  · rw [if_pos (.inr h2)]
    repeat (first | (first|refine zA ?_|refine zB fun _ _ _=>?_|refine zC fun _ _ _=>?_|refine zD fun _ _=>?_|refine zE ?_|refine zF ?_) | rw [decide_eq_true (by omega)] | rw [decide_eq_false (by omega)])
    exact Ev.ret ⟨rfl, B, ⟨Mo.refl B⟩, hS⟩
  rw [if_neg (by omega)]
  obtain ⟨m, rfl⟩ : ∃ m : Nat, n = m := ⟨n.toNat, by omega⟩
  rw [show (2 : Int) * (m : Int) = ((2 * m : Nat) : Int) by omega, show ((2 * m : Nat) : Int) + 1 = ((2 * m + 1 : Nat) : Int) by omega]
  repeat (first | (first|refine zA ?_|refine zB fun _ _ _=>?_|refine zC fun _ _ _=>?_|refine zD fun _ _=>?_|refine zE ?_|refine zF ?_) | rw [decide_eq_true (by omega)] | rw [decide_eq_false (by omega)])
  have h64a := read_len hO ((2 * m : Nat) : Int)
  have h64b := read_len hO ((2 * m + 1 : Nat) : Int)
  have key : Ev (fun k K => f106_L0 k p (i64 m) (str []) (i64 0) K H) (fun o => ∃ B' H', MoC B B' ∧ St H0 B0 B' (Ls ++ L) H' ∧
      (((D.read ((2 * m : Nat) : Int)).2 ≠ 0 ∧ o = (.ret, f106_X_L0 (.int .i64 0) (str []) (.int .i64 (D.read ((2 * m : Nat) : Int)).2) (str []), H'))
        ∨ ((D.read ((2 * m : Nat) : Int)).2 = 0 ∧ (D.read ((2 * m + 1 : Nat) : Int)).2 ≠ 0 ∧ o = (.ret, f106_X_L0 (.int .i64 0) (str []) (.int .i64 (D.read ((2 * m + 1 : Nat) : Int)).2) (str (D.read ((2 * m : Nat) : Int)).1), H'))
        ∨ ((D.read ((2 * m : Nat) : Int)).2 = 0 ∧ (D.read ((2 * m + 1 : Nat) : Int)).2 = 0 ∧ o = (.exit 0, f106_X_L0 unk unk unk (str ((D.read ((2 * m : Nat) : Int)).1 ++ (D.read ((2 * m + 1 : Nat) : Int)).1)), H')))) := by
    refine Ev.succ (fun k K => f106_L0_succ k _ _ _ _ K H) ?_
    repeat (first | (first|refine zA ?_|refine zB fun _ _ _=>?_|refine zC fun _ _ _=>?_|refine zD fun _ _=>?_|refine zE ?_|refine zF ?_) | rw [decide_eq_true (by omega)] | rw [decide_eq_false (by omega)])
    refine Ev.b2 (Read_spec (i := ((2 * m : Nat) : Int)) hD hO hc (by exact hS)) ?_
    generalize D.read ((2 * m : Nat) : Int) = ra at h64a
    generalize hrb : D.read ((2 * m + 1 : Nat) : Int) = rb at h64b
    obtain ⟨a, ea⟩ := ra
    obtain ⟨b, eb⟩ := rb
    try dsimp only at h64a h64b ⊢
    rintro _ H1 ⟨rfl, B1, hm1, hS1⟩
    try dsimp only at hS1
    clear hS
    repeat (first|refine zA ?_|refine zB fun _ _ _=>?_|refine zC fun _ _ _=>?_|refine zD fun _ _=>?_|refine zE ?_|refine zF ?_)
    by_cases he : ea = 0
    case neg =>
      rw [decide_eq_true he]
      repeat (first|refine zA ?_|refine zB fun _ _ _=>?_|refine zC fun _ _ _=>?_|refine zD fun _ _=>?_|refine zE ?_|refine zF ?_)
      exact Ev.ret ⟨B1, H1, hm1, hS1, .inl ⟨he, rfl⟩⟩
    rw [decide_eq_false (by simpa using he)]
    repeat (first|refine zA ?_|refine zB fun _ _ _=>?_|refine zC fun _ _ _=>?_|refine zD fun _ _=>?_|refine zE ?_|refine zF ?_)
    refine Ev.prim (show bin Tryz.prog .add 9 (str []) (str a) = some (str a) from add_str (a := []) (b := a) (by simp; omega)) ?_
    repeat (first|refine zA ?_|refine zB fun _ _ _=>?_|refine zC fun _ _ _=>?_|refine zD fun _ _=>?_|refine zE ?_|refine zF ?_)
    refine Ev.succ (fun k K => f106_L0_succ k _ _ _ _ K H1) ?_
    repeat (first | (first|refine zA ?_|refine zB fun _ _ _=>?_|refine zC fun _ _ _=>?_|refine zD fun _ _=>?_|refine zE ?_|refine zF ?_) | rw [decide_eq_true (by omega)] | rw [decide_eq_false (by omega)])
    refine Ev.b2 (Read_spec (i := ((2 * m + 1 : Nat) : Int)) hD hO hc (by exact hS1)) ?_
    rw [hrb]
    rintro _ H2 ⟨rfl, B2, hm2, hS2⟩
    dsimp only at hS2
    clear hS1
    repeat (first|refine zA ?_|refine zB fun _ _ _=>?_|refine zC fun _ _ _=>?_|refine zD fun _ _=>?_|refine zE ?_|refine zF ?_)
    by_cases he2 : eb = 0
    case neg =>
      rw [decide_eq_true he2]
      repeat (first|refine zA ?_|refine zB fun _ _ _=>?_|refine zC fun _ _ _=>?_|refine zD fun _ _=>?_|refine zE ?_|refine zF ?_)
      exact Ev.ret ⟨B2, H2, ⟨hm1.mo.trans hm2.mo⟩, hS2, .inr (.inl ⟨he, he2, rfl⟩)⟩
    rw [decide_eq_false (by simpa using he2)]
    repeat (first|refine zA ?_|refine zB fun _ _ _=>?_|refine zC fun _ _ _=>?_|refine zD fun _ _=>?_|refine zE ?_|refine zF ?_)
    refine Ev.prim (add_str (a := a) (b := b) (by omega)) ?_
    repeat (first|refine zA ?_|refine zB fun _ _ _=>?_|refine zC fun _ _ _=>?_|refine zD fun _ _=>?_|refine zE ?_|refine zF ?_)
    refine Ev.succ (fun k K => f106_L0_succ k _ _ _ _ K H2) ?_
    repeat (first | (first|refine zA ?_|refine zB fun _ _ _=>?_|refine zC fun _ _ _=>?_|refine zD fun _ _=>?_|refine zE ?_|refine zF ?_) | rw [decide_eq_true (by omega)] | rw [decide_eq_false (by omega)])
    exact Ev.ret ⟨B2, H2, ⟨hm1.mo.trans hm2.mo⟩, hS2, .inr (.inr ⟨he, he2, rfl⟩)⟩
  refine Ev.bind (Ev.loop key) ?_
  generalize D.read ((2 * m : Nat) : Int) = ra at h64a
  generalize D.read ((2 * m + 1 : Nat) : Int) = rb at h64b
  obtain ⟨a, ea⟩ := ra
  obtain ⟨b, eb⟩ := rb
  try dsimp only at h64a h64b ⊢
  rintro o ⟨B1, H1, hm1, hS1, ⟨he, rfl⟩ | ⟨he, he2, rfl⟩ | ⟨he, he2, rfl⟩⟩
  · rw [if_pos he]
    refine Ev.eq (fun k _ => f106_A0_ret k _ _ _ _ H1) ?_
    exact Ev.ret ⟨rfl, B1, hm1, hS1⟩
  · rw [if_neg (by simpa using he), if_pos he2]
    refine Ev.eq (fun k _ => f106_A0_ret k _ _ _ _ H1) ?_
    exact Ev.ret ⟨rfl, B1, hm1, hS1⟩
  rw [if_neg (by simpa using he), if_neg (by simpa using he2)]
  refine Ev.eq (fun k _ => f106_A0_x0 k _ _ _ _ H1) ?_
  refine Ev.b2 (Open_spec (b := a ++ b) (by rw [List.length_append]; omega) hS1) ?_
  rintro _ H2 ⟨rfl, B2, hm2, hS2⟩
  dsimp only at hS2
  unfold OpenV
  repeat (first|refine zA ?_|refine zB fun _ _ _=>?_|refine zC fun _ _ _=>?_|refine zD fun _ _=>?_|refine zE ?_|refine zF ?_)
  exact Ev.ret ⟨rfl, B2, ⟨hm1.mo.trans hm2.mo⟩, hS2⟩
end
end Go.AM.E
namespace Go.AM.E
open Go Go.AM Go.Proofs
attribute [local irreducible] run bin un ld st box newV mkS fldA fld ixA ix slc slc3 build buildS cv cvS ap cpy lenV gOp pickV b2 aIf aChk evalK resume iterD Option.bind

section
variable {B B0 H0 H : AH} {L : List (Nat × Blk)}
abbrev FR := FRS 3
def PK (p dv : Value) (G : Pgr) (D : Dsk) (Ls : List (Nat × Blk)) : Prop := ∃ pb mb fv Lf Ld, p = ptr pb 0 ∧ DK dv D Ld ∧ FR fv G.fresh Lf ∧ Ls = (pb, ⟨[i64 G.turn, .int .i64 G.root, .map (some mb), dv, fv, .bool G.down], 103, .fix⟩) :: (mb, ⟨entI G.used, 99, .map⟩) :: (Lf ++ Ld)
def PgP (H0 B0 B : AH) (L : List (Nat × Blk)) (p dv v : Value) (G : Pgr) (D : Dsk) (r : Value × AH) : Prop := r.1 = v ∧ ∃ Ls B', MoC B B' ∧ PK p dv G D Ls ∧ St H0 B0 B' (Ls ++ L) r.2
theorem eltI : Elt Tryz.prog 82 3 (.int .i64 0) 8 := inferInstance
theorem pages_spec {dv : Value} {D : Dsk} {Ls Lx : List (Nat × Blk)} (hD : DK dv D Ls) (hO : D.OK) (hS : St H0 B0 B Lx H) (hsub : ∀ x ∈ Ls, x ∈ Lx) :
    Ev (fun k _ => rn k 62 [dv] H) (fun r => r = (i64 (D.n / 2), H)) := by
  refine Ev.fn (fun k => f62_eq k _ H) ?_
  have h2 := hO.n2
  refine Ev.b2 (Sectors_spec hD hO hS hsub) ?_
  rintro v H1 h
  cases h
  repeat (first | (first|refine zA ?_|refine zB fun _ _ _=>?_|refine zC fun _ _ _=>?_|refine zD fun _ _=>?_|refine zE ?_|refine zF ?_) | rw [decide_eq_true (by omega)] | rw [decide_eq_false (by omega)])
  exact Ev.ret rfl
theorem Index_spec {v : Value} {l : List Int} {Lf Lx : List (Nat × Blk)} (x : Int) (hF : FR v l Lf) (hl : l.length < 1000000000000) (hS : St H0 B0 B Lx H) (hsub : ∀ p ∈ Lf, p ∈ Lx) :
    Ev (fun k _ => rn k 81 [v, .int .i64 x] H) (fun r => ∃ j : Int, r = (.int .i64 j, H) ∧ (0 ≤ j ↔ x ∈ l)) := by
  refine Ev.fn (fun k => f81_eq k _ _ H) ?_
  refine Ev.prim (hF.len (Und.eq (P := Tryz.prog) (t := 82))) ?_
  have hN := hF.now hS hsub
  have key : ∀ (m i : Nat), i + m = l.length → (∀ q, q < i → l[q]? ≠ some x) → Ev (fun k K => f81_L0 k v (.int .i64 x) (i64 l.length) (i64 i) K H)
      (fun o => (o = (.exit 0, f81_X_L0 unk, H) ∧ x ∉ l) ∨ (∃ j : Nat, o = (.ret, f81_X_L0 (i64 j), H) ∧ x ∈ l)) := by
    intro m
    induction m with
    | zero =>
      intro i hi hno
      refine Ev.succ (fun k K => f81_L0_succ k _ _ _ _ K H) ?_
      repeat (first|refine zA ?_|refine zB fun _ _ _=>?_|refine zC fun _ _ _=>?_|refine zD fun _ _=>?_|refine zE ?_|refine zF ?_)
      rw [decide_eq_false (by omega)]
      repeat (first|refine zA ?_|refine zB fun _ _ _=>?_|refine zC fun _ _ _=>?_|refine zD fun _ _=>?_|refine zE ?_|refine zF ?_)
      refine Ev.ret (.inl ⟨rfl, fun hx => ?_⟩)
      obtain ⟨q, hq⟩ := List.getElem?_of_mem hx
      exact hno q (by have := (List.getElem?_eq_some_iff.1 hq).1; omega) hq
    | succ m ih =>
      intro i hi hno
      refine Ev.succ (fun k K => f81_L0_succ k _ _ _ _ K H) ?_
      repeat (first|refine zA ?_|refine zB fun _ _ _=>?_|refine zC fun _ _ _=>?_|refine zD fun _ _=>?_|refine zE ?_|refine zF ?_)
      rw [decide_eq_true (by omega)]
      repeat (first|refine zA ?_|refine zB fun _ _ _=>?_|refine zC fun _ _ _=>?_|refine zD fun _ _=>?_|refine zE ?_|refine zF ?_)
      have hx : (intV l)[i]? = some (.int .i64 l[i]) := by unfold intV; rw [List.getElem?_map, List.getElem?_eq_getElem (by omega)]; rfl
      refine Ev.ixN (t := 82) hN i rfl (by omega) hx fun p hp => ?_
      refine Ev.prim (hp.eq H (Mo.refl H)) ?_
      repeat (first|refine zA ?_|refine zB fun _ _ _=>?_|refine zC fun _ _ _=>?_|refine zD fun _ _=>?_|refine zE ?_|refine zF ?_)
      by_cases he : x = l[i]
      · rw [decide_eq_true he]
        repeat (first|refine zA ?_|refine zB fun _ _ _=>?_|refine zC fun _ _ _=>?_|refine zD fun _ _=>?_|refine zE ?_|refine zF ?_)
        exact Ev.ret (.inr ⟨i, rfl, by rw [he]; exact List.getElem_mem _⟩)
      · rw [decide_eq_false he]
        repeat (first | (first|refine zA ?_|refine zB fun _ _ _=>?_|refine zC fun _ _ _=>?_|refine zD fun _ _=>?_|refine zE ?_|refine zF ?_) | rw [decide_eq_true (by omega)] | rw [decide_eq_false (by omega)])
        refine ih (i + 1) (by omega) fun q hq => ?_
        by_cases hqi : q = i
        · subst hqi; rw [List.getElem?_eq_getElem (by omega)]; intro h; exact he (Option.some.inj h).symm
        · exact hno q (by omega)
  refine Ev.bind (Ev.loop (key l.length 0 (by omega) fun q hq => by omega)) ?_
  rintro _ (⟨rfl, hx⟩ | ⟨j, rfl, hx⟩)
  · refine Ev.eq (fun k _ => f81_A0_x0 k _ H) ?_
    exact Ev.ret ⟨-1, rfl, by simp [hx]⟩
  · refine Ev.eq (fun k _ => f81_A0_ret k _ H) ?_
    exact Ev.ret ⟨j, rfl, by simp [hx]⟩
theorem Contains_spec {v : Value} {l : List Int} {Lf Lx : List (Nat × Blk)} (x : Int) (hF : FR v l Lf) (hl : l.length < 1000000000000) (hS : St H0 B0 B Lx H) (hsub : ∀ p ∈ Lf, p ∈ Lx) :
    Ev (fun k _ => rn k 42 [v, .int .i64 x] H) (fun r => r = (.bool (decide (x ∈ l)), H)) := by
  refine Ev.fn (fun k => f42_eq k _ _ H) ?_
  refine Ev.b2 (Index_spec x hF hl hS hsub) ?_
  rintro _ _ ⟨j, h, hj⟩
  cases h
  repeat (first|refine zA ?_|refine zB fun _ _ _=>?_|refine zC fun _ _ _=>?_|refine zD fun _ _=>?_|refine zE ?_|refine zF ?_)
  refine Ev.ret ?_
  rw [decide_eq_decide.2 hj]
theorem may_spec {t : Value} {mb : Nat} {U : List Int} {root x : Int} (hm : InL mb ⟨entI U, 99, .map⟩ L) [IsCell t] (hS : St H0 B0 B L H) :
    Ev (fun k _ => rn k 37 [.agg #[t, .int .i64 root, .map (some mb)], .int .i64 x] H) (fun r => r.1 = .bool (mayR U x) ∧ ∃ b c, St H0 B0 B ((b, c) :: L) r.2) := by
  refine Ev.fn (fun k => f37_eq k _ _ H) ?_
  unfold mayR
  repeat (first|refine zA ?_|refine zB fun _ _ _=>?_|refine zC fun _ _ _=>?_|refine zD fun _ _=>?_|refine zE ?_|refine zF ?_)
  by_cases h0 : x = 0
  · rw [decide_eq_true h0]
    repeat (first|refine zA ?_|refine zB fun _ _ _=>?_|refine zC fun _ _ _=>?_|refine zD fun _ _=>?_|refine zE ?_|refine zF ?_)
    exact Ev.ret ⟨rfl, _, _, by assumption⟩
  rw [decide_eq_false h0]
  repeat (first|refine zA ?_|refine zB fun _ _ _=>?_|refine zC fun _ _ _=>?_|refine zD fun _ _=>?_|refine zE ?_|refine zF ?_)
  by_cases h1 : 2 ≤ x
  · rw [decide_eq_true h1]
    repeat (first|refine zA ?_|refine zB fun _ _ _=>?_|refine zC fun _ _ _=>?_|refine zD fun _ _=>?_|refine zE ?_|refine zF ?_)
    rename_i b H1 hS1
    refine Ev.gPrim (lkI (kt := 3) (et := 4) (Und.eq (P := Tryz.prog) (t := 99)) (Und.eq (P := Tryz.prog) (t := 3)) (by kernel_rfl) hS1 (.tail _ hm.mem)) rfl ?_
    repeat (first|refine zA ?_|refine zB fun _ _ _=>?_|refine zC fun _ _ _=>?_|refine zD fun _ _=>?_|refine zE ?_|refine zF ?_)
    exact Ev.ret ⟨rfl, _, _, hS1⟩
  · rw [decide_eq_false h1]
    repeat (first|refine zA ?_|refine zB fun _ _ _=>?_|refine zC fun _ _ _=>?_|refine zD fun _ _=>?_|refine zE ?_|refine zF ?_)
    exact Ev.ret ⟨rfl, _, _, by assumption⟩
theorem told_spec {pb : Nat} {tv rv mv dv fv : Value} {dn : Bool} {e : Int} {Lx Ly : List (Nat × Blk)} (hm : (pb, ⟨[tv, rv, mv, dv, fv, .bool dn], 103, .fix⟩) ∈ Lx) (hu : Upd pb ⟨[tv, rv, mv, dv, fv, .bool dn], 103, .fix⟩ ⟨[tv, rv, mv, dv, fv, .bool (dn || decide (e = 7))], 103, .fix⟩ Lx Ly) [IsCell tv] [IsCell rv] [IsCell mv] [IsCell dv] [IsCell fv] (hS : St H0 B0 B Lx H) :
    Ev (fun k _ => rn k 44 [ptr pb 0, .int .i64 e] H) (fun r => r.1 = .int .i64 e ∧ St H0 B0 B Ly r.2) := by
  have i1 : InL pb _ Lx := ⟨hm⟩
  refine Ev.fn (fun k => f44_eq k _ _ H) ?_
  cases dn with
  | true =>
    have i2 : UpL pb ⟨[tv, rv, mv, dv, fv, .bool true], 103, .fix⟩ ⟨[tv, rv, mv, dv, fv, .bool true], 103, .fix⟩ Lx Ly := ⟨hu⟩
    repeat (first|refine zA ?_|refine zB fun _ _ _=>?_|refine zC fun _ _ _=>?_|refine zD fun _ _=>?_|refine zE ?_|refine zF ?_)
    exact Ev.ret ⟨rfl, by assumption⟩
  | false =>
    have i2 : UpL pb ⟨[tv, rv, mv, dv, fv, .bool false], 103, .fix⟩ ⟨[tv, rv, mv, dv, fv, .bool (decide (e = 7))], 103, .fix⟩ Lx Ly := ⟨hu⟩
    repeat (first|refine zA ?_|refine zB fun _ _ _=>?_|refine zC fun _ _ _=>?_|refine zD fun _ _=>?_|refine zE ?_|refine zF ?_)
    exact Ev.ret ⟨rfl, by assumption⟩
end
end Go.AM.E
namespace Go.AM.E
open Go Go.AM Go.Proofs
attribute [local irreducible] run bin un ld st box newV mkS fldA fld ixA ix slc slc3 build buildS cv cvS ap cpy lenV gOp pickV b2 aIf aChk evalK resume iterD Option.bind

section
variable {B B0 H0 H : AH} {L : List (Nat × Blk)}
def tB (t : Nat) : List Value := (List.range 6).map fun i => u8 (t / 2 ^ (8 * (5 - i)) % 256)
theorem tB_len (t : Nat) : (tB t).length = 6 := by simp [tB]
theorem text_loop {hb b t : Nat} {rv mv : Value} (ht : t < 4611686018427387904) [IsCell rv] [IsCell mv] : ∀ (m i : Nat) (H : AH), i + m = 6 →
    St H0 B0 B ((b, ⟨(tB t).take i ++ List.replicate (72 - i) (.int .u8 0), 5, .fix⟩) :: (hb, ⟨[i64 t, rv, mv], 101, .fix⟩) :: L) H →
    Ev (fun k K => f87_L0 k (ptr hb 0) (sl b 0 72 72) (i64 i) K H) (fun o => ∃ H', o = (.exit 0, f87_X_L0 (ptr hb 0) (sl b 0 72 72), H') ∧
      St H0 B0 B ((b, ⟨tB t ++ List.replicate 66 (.int .u8 0), 5, .fix⟩) :: (hb, ⟨[i64 t, rv, mv], 101, .fix⟩) :: L) H') := by
  intro m
  induction m with
  | zero =>
    intro i H hi hS
    have : i = 6 := by omega
    subst this
    refine Ev.succ (fun k K => f87_L0_succ k _ _ _ K H) ?_
    repeat (first | (first|refine zA ?_|refine zB fun _ _ _=>?_|refine zC fun _ _ _=>?_|refine zD fun _ _=>?_|refine zE ?_|refine zF ?_) | rw [decide_eq_true (by omega)] | rw [decide_eq_false (by omega)])
    refine Ev.ret ⟨H, rfl, ?_⟩
    rw [List.take_of_length_le (by rw [tB_len]; decide)] at hS
    exact hS
  | succ m ih =>
    intro i H hi hS
    refine Ev.succ (fun k K => f87_L0_succ k _ _ _ K H) ?_
    repeat (first | (first|refine zA ?_|refine zB fun _ _ _=>?_|refine zC fun _ _ _=>?_|refine zD fun _ _=>?_|refine zE ?_|refine zF ?_) | rw [decide_eq_true (by omega)] | rw [decide_eq_false (by omega)])
    refine Ev.prim (shrN (show 8 * (5 - i) < IntKind.i64.bits by show _ < 64; omega)) ?_
    refine Ev.prim (toU8 (Und.eq (P := Tryz.prog) (t := 3)) (Und.eq (P := Tryz.prog) (t := 5))) ?_
    have hE : Elt Tryz.prog 95 5 (.int .u8 0) 1 := inferInstance
    refine Ev.prim (ixA_own hE (show i < 72 by omega)) ?_
    rw [Nat.zero_add]
    have hlen : ((tB t).take i ++ List.replicate (72 - i) (Value.int .u8 0)).length = 72 := by rw [List.length_append, List.length_take, tB_len, List.length_replicate]; omega
    refine Ev.st hS (.head _) (stK_own hE (by rw [hlen]; omega) rfl) rfl (.head _) fun H' hS' => ?_
    repeat (first | (first|refine zA ?_|refine zB fun _ _ _=>?_|refine zC fun _ _ _=>?_|refine zD fun _ _=>?_|refine zE ?_|refine zF ?_) | rw [decide_eq_true (by omega)] | rw [decide_eq_false (by omega)])
    refine ih (i + 1) H' (by omega) ?_
    have e : ((tB t).take i ++ List.replicate (72 - i) (Value.int .u8 0)).set i (u8 (t / 2 ^ (8 * (5 - i)) % 256)) = (tB t).take (i + 1) ++ List.replicate (72 - (i + 1)) (.int .u8 0) := by
      have h6 : (tB t)[i]? = some (u8 (t / 2 ^ (8 * (5 - i)) % 256)) := by unfold tB; rw [List.getElem?_map, List.getElem?_range (by omega)]; rfl
      rw [List.take_add_one, h6]
      have hl : ((tB t).take i).length = i := by rw [List.length_take, tB_len]; omega
      rw [List.set_append_right _ _ (by omega), hl, Nat.sub_self, show 72 - i = (72 - (i + 1)) + 1 by omega, List.replicate_succ]
      simp
    rw [e] at hS'
    exact hS'
theorem tB_bytes (t : Nat) : tB t = byts (turnB t) := by
  unfold tB turnB byts
  rw [List.map_map, List.map_map]
  apply List.map_congr_left
  intro i hi
  have hi : i < 6 := by simpa using hi
  show _ = u8 (UInt8.ofNat (t / 256 ^ (5 - i))).toNat
  rw [show (UInt8.ofNat (t / 256 ^ (5 - i))).toNat = t / 256 ^ (5 - i) % 256 from rfl, Nat.pow_mul]
theorem text_spec {t r mb : Nat} {U : List Int} (ht : t < 4611686018427387904) (hr : r < 65536) (hU : ∀ n ∈ U, 0 ≤ n ∧ n < 512) (hm : (mb, ⟨entI U, 99, .map⟩) ∈ L) (hS : St H0 B0 B L H) :
    Ev (fun k _ => rn k 87 [.agg #[i64 t, i64 r, .map (some mb)]] H) (fun o => o.1 = str (textH t (r : Int) U) ∧ ∃ B', MoC B B' ∧ St H0 B0 B' L o.2) := by
  refine Ev.fn (fun k => f87_eq k _ H) ?_
  repeat (first|refine zA ?_|refine zB fun _ _ _=>?_|refine zC fun _ _ _=>?_|refine zD fun _ _=>?_|refine zE ?_|refine zF ?_)
  rename_i hb H1 hS1
  have hE : Elt Tryz.prog 95 5 (.int .u8 0) 1 := inferInstance
  refine Ev.mkS (t := 95) (m := 72) inferInstance hS1 (by omega) (by omega) fun b B' H2 hm2 hS2 => ?_
  clear hS hS1
  refine Ev.bind (Ev.loop (text_loop ht 6 0 H2 rfl (by simpa using hS2))) ?_
  clear hS2
  rintro _ ⟨H3, rfl, hS3⟩
  refine Ev.eq (fun k _ => f87_A0_x0 k _ _ H3) ?_
  repeat (first|refine zA ?_|refine zB fun _ _ _=>?_|refine zC fun _ _ _=>?_|refine zD fun _ _=>?_|refine zE ?_|refine zF ?_)
  refine Ev.prim (shrL (by decide)) ?_
  refine Ev.prim (toU8 (Und.eq (P := Tryz.prog) (t := 3)) (Und.eq (P := Tryz.prog) (t := 5))) ?_
  repeat (first|refine zA ?_|refine zB fun _ _ _=>?_|refine zC fun _ _ _=>?_|refine zD fun _ _=>?_|refine zE ?_|refine zF ?_)
  refine Ev.prim (show ixA Tryz.prog 95 (sl b 0 72 72) (.int .i64 6) = some (ptr b 6) from ixA_own (i := 6) hE (by decide)) ?_
  refine Ev.st hS3 (.head _) (stK_own (i := 6) hE (by simp [tB_len]) rfl) rfl (.head _) fun H4 hS4 => ?_
  clear hS3
  repeat (first|refine zA ?_|refine zB fun _ _ _=>?_|refine zC fun _ _ _=>?_|refine zD fun _ _=>?_|refine zE ?_|refine zF ?_)
  refine Ev.prim (show ixA Tryz.prog 95 (sl b 0 72 72) (.int .i64 7) = some (ptr b 7) from ixA_own (i := 7) hE (by decide)) ?_
  refine Ev.st hS4 (.head _) (stK_own (i := 7) hE (by simp [tB_len]) rfl) rfl (.head _) fun H5 hS5 => ?_
  clear hS4
  have e : ((tB t ++ List.replicate 66 (Value.int .u8 0)).set 6 (u8 (r / 2 ^ 8 % 256))).set 7 (u8 (r % 256)) = (tB t ++ [u8 (r / 2 ^ 8 % 256), u8 (r % 256)]) ++ List.replicate 64 (.int .u8 0) := by
    rw [List.set_append_right _ _ (by rw [tB_len]; decide), tB_len, List.set_append_right _ _ (by rw [tB_len]; decide), tB_len, List.append_assoc]
    rfl
  rw [e] at hS5
  refine AM.Ev.gText (cs := tB t ++ [u8 (r / 2 ^ 8 % 256), u8 (r % 256)]) hS5 (.tail _ (.head _)) (.tail _ (.tail _ hm)) (.head _) (.head _) (by simp [tB_len]) hU fun H6 hS6 => ?_
  clear hS5
  have e2 : (tB t ++ [u8 (r / 2 ^ 8 % 256), u8 (r % 256)]) ++ bmV U = byts (textH t (r : Int) U) := by
    rw [tB_bytes, bmV_byts]
    unfold textH
    rw [byts_app, byts_app, List.append_assoc]
    congr 2
  rw [e2] at hS6
  refine Ev.prim (cvS_part (d := 9) (bs := textH t (r : Int) U) hS6 (.head _) (by omega) (by rw [textH_len]; omega)) ?_
  rw [List.drop_zero, List.take_of_length_le (by rw [textH_len]; exact Nat.le_refl _)]
  exact Ev.ret ⟨rfl, B', ⟨hm2⟩, hS6.drop1.drop1⟩
theorem hwrite_spec {dv : Value} {D : Dsk} {Ls : List (Nat × Blk)} {t r mb : Nat} {U : List Int} (hD : DK dv D Ls) (hO : D.OK) (hc : D.cache.length + 1 < 1000000000000) (ht : t < 4611686018427387904) (hr : r < 65536) (hU : ∀ n ∈ U, 0 ≤ n ∧ n < 512) (hm : (mb, ⟨entI U, 99, .map⟩) ∈ L) (hS : St H0 B0 B (Ls ++ L) H) :
    Ev (fun k _ => rn k 63 [.agg #[i64 t, i64 r, .map (some mb)], dv] H) (DkP H0 B0 B L dv (.int .i64 (hwrite D t (r : Int) U).1) (hwrite D t (r : Int) U).2) := by
  refine Ev.fn (fun k => f63_eq k _ _ H) ?_
  repeat (first|refine zA ?_|refine zB fun _ _ _=>?_|refine zC fun _ _ _=>?_|refine zD fun _ _=>?_|refine zE ?_|refine zF ?_)
  rename_i hb H1 hS1
  clear hS
  refine Ev.b2 (text_spec ht hr hU (.tail _ (List.mem_append_right _ hm)) hS1) ?_
  rintro _ H2 ⟨rfl, B2, hm2, hS2⟩
  dsimp only at hS2
  clear hS1
  repeat (first|refine zA ?_|refine zB fun _ _ _=>?_|refine zC fun _ _ _=>?_|refine zD fun _ _=>?_|refine zE ?_|refine zF ?_)
  have hS3 : St H0 B0 B2 (Ls ++ ((hb, _) :: L)) H2 := hS2.perm (List.perm_middle)
  refine Ev.b2 (pWrite_spec (n := ((t % 2 : Nat) : Int)) (kind := 1) hD hO hc (by rw [textH_len]; decide) (by decide) hS3) ?_
  rintro _ H3 ⟨rfl, Ls3, B3, hm3, hD3, hS4⟩
  dsimp only at hS4
  refine Ev.ret ⟨rfl, Ls3, B3, ⟨hm2.mo.trans hm3.mo⟩, hD3, ?_⟩
  exact (hS4.perm (List.perm_middle).symm).drop1
end
end Go.AM.E
