/-
  Facts of the abstract evaluator and of the functions that the law reaches, part 4. Conditions: none.
-/
import Derived.Test.YtffdllmhlaecgaaG3DyadRounds
set_option linter.unusedVariables false
set_option linter.unusedSimpArgs false
set_option linter.unnecessarySimpa false
set_option exponentiation.threshold 200000
set_option maxRecDepth 100000
set_option linter.unusedVariables false
set_option linter.unusedSimpArgs false
set_option maxRecDepth 100000
namespace Go.AM.Y
open Go Go.AM Go.Proofs
attribute [local irreducible] run bin un ld st box newV mkS fldA fld ixA ix slc slc3 build buildS cv cvS ap cpy lenV gOp pickV b2 aIf aChk evalK resume iterD Option.bind

theorem limbs_top {n : Nat} (h : n ≠ 0) : (limbs n).getD ((limbs n).length - 1) 0 ≠ 0 := by
  have hl' : (limbs n).length ≠ 0 := fun e => h (limbs_eq_nil.mp (List.length_eq_zero_iff.mp e))
  refine limbs_getLast (n := n) _ ?_
  rw [List.getLast?_eq_getElem?, List.getD_eq_getElem?_getD, List.getElem?_eq_getElem (by omega)]; rfl
theorem rDivMod_spec {B H : AH} {xs ys : List Nat} {a b : Value} (hm : xs.length < 600000) (hm' : ys.length ≤ 3000) (hy : val ys ≠ 0) [ha : RdT B a xs] [hb : RdT B b ys] (hL : Le B H) :
    Ev (fun k _ => rn k 70 [a, b] H) (An B H fun B' v => ∃ q r, v = .tuple #[q, r, .bool true] ∧ RdN B' q (limbs (val xs / val ys)) ∧ RdN B' r (limbs (val xs % val ys))) := by
  refine Ev.fn (fun k => f70_eq k _ _ H) ?_
  have hS := St.start hL
  have ha := ha.rd
  have hb := hb.rd
  have hyl := limbs_length_le (val_lt hb.sm)
  have hxl := limbs_length_le (val_lt ha.sm)
  refine Ev.callD (rTrim_spec (xs := ys) (by omega)) fun v1 B1 H1 hm1 hS1 h1 => ?_
  have hyne : (limbs (val ys)).length ≠ 0 := fun e => hy (limbs_eq_nil.mp (List.length_eq_zero_iff.mp e))
  repeat (first | refine Ev.s ?_ | refine Ev.newC fun _ _ _ => ?_ | refine Ev.boxC fun _ _ _ => ?_ | refine Ev.stC fun _ _ => ?_ | refine Ev.sc (by omega) ?_ | refine Ev.scg (by omega) ?_)
  rw [decide_eq_false hyne]
  repeat (first | refine Ev.s ?_ | refine Ev.newC fun _ _ _ => ?_ | refine Ev.boxC fun _ _ _ => ?_ | refine Ev.stC fun _ _ => ?_ | refine Ev.sc (by omega) ?_ | refine Ev.scg (by omega) ?_)
  by_cases hy1 : (limbs (val ys)).length = 1
  · rw [decide_eq_true hy1]
    have hd : val ys = (limbs (val ys)).getD 0 0 := by
      conv => lhs; rw [← val_limbs (val ys)]
      match limbs (val ys), hy1 with
      | [d], _ => simp [val]
    have hd0 := (small_limbs (val ys)).getD 0
    repeat (first | refine Ev.s ?_ | refine Ev.newC fun _ _ _ => ?_ | refine Ev.boxC fun _ _ _ => ?_ | refine Ev.stC fun _ _ => ?_ | refine Ev.sc (by omega) ?_ | refine Ev.scg (by omega) ?_)
    refine Ev.ixC 0 rfl (by omega) fun p hp => ?_
    rw [← hd] at hd0 hp
    repeat (first | refine Ev.s ?_ | refine Ev.newC fun _ _ _ => ?_ | refine Ev.boxC fun _ _ _ => ?_ | refine Ev.stC fun _ _ => ?_ | refine Ev.sc (by omega) ?_ | refine Ev.scg (by omega) ?_)
    refine Ev.callD (rshort_spec (xs := xs) (d := val ys) hd0 hy (by omega)) fun v3 B3 H3 hm3 hS3 h3 => ?_
    obtain ⟨q, r, rfl, hq, hr⟩ := h3
    repeat (first | refine Ev.s ?_ | refine Ev.newC fun _ _ _ => ?_ | refine Ev.boxC fun _ _ _ => ?_ | refine Ev.stC fun _ _ => ?_ | refine Ev.sc (by omega) ?_ | refine Ev.scg (by omega) ?_)
    exact Ev.doneC ⟨q, r, rfl, hq, hr⟩
  · rw [decide_eq_false hy1]
    have hnb := nbits_val (small_limbs (val ys))
    rw [val_limbs] at hnb
    repeat (first | refine Ev.s ?_ | refine Ev.newC fun _ _ _ => ?_ | refine Ev.boxC fun _ _ _ => ?_ | refine Ev.stC fun _ _ => ?_ | refine Ev.sc (by omega) ?_ | refine Ev.scg (by omega) ?_)
    refine Ev.callD (rBits_spec (xs := limbs (val ys)) (by omega)) fun v2 B2 H2 hm2 hS2 h2 => ?_
    rw [val_limbs] at h2
    subst h2
    repeat (first | refine Ev.s ?_ | refine Ev.newC fun _ _ _ => ?_ | refine Ev.boxC fun _ _ _ => ?_ | refine Ev.stC fun _ _ => ?_ | refine Ev.sc (by omega) ?_ | refine Ev.scg (by omega) ?_)
    generalize hs : 32 * (limbs (val ys)).length - nbits (val ys) = s
    have hs1 : s ≤ 100000 := by omega
    refine Ev.callD (rShl_spec (xs := limbs (val ys)) (n := s) (by omega) (by omega)) fun v3 B3 H3 hm3 hS3 h3 => ?_
    obtain ⟨w3, rfl, hw3⟩ := h3
    rw [val_limbs] at hw3
    repeat (first | refine Ev.s ?_ | refine Ev.newC fun _ _ _ => ?_ | refine Ev.boxC fun _ _ _ => ?_ | refine Ev.stC fun _ _ => ?_ | refine Ev.sc (by omega) ?_ | refine Ev.scg (by omega) ?_)
    refine Ev.callD (rShl_spec (xs := xs) (n := s) (by omega) (by omega)) fun v4 B4 H4 hm4 hS4 h4 => ?_
    obtain ⟨w4, rfl, hw4⟩ := h4
    have l4 : (limbs (val xs * 2 ^ s)).length ≤ xs.length + s / 32 + 1 := Nat.le_trans limbs_shl_len (by omega)
    have l3 : (limbs (val ys * 2 ^ s)).length ≤ ys.length + s / 32 + 1 := Nat.le_trans limbs_shl_len (by omega)
    have hp : 0 < 2 ^ s := Nat.pow_pos (by decide)
    have hYne : val ys * 2 ^ s ≠ 0 := by
      have := Nat.mul_pos (Nat.pos_of_ne_zero hy) hp
      omega
    repeat (first | refine Ev.s ?_ | refine Ev.newC fun _ _ _ => ?_ | refine Ev.boxC fun _ _ _ => ?_ | refine Ev.stC fun _ _ => ?_ | refine Ev.sc (by omega) ?_ | refine Ev.scg (by omega) ?_)
    refine Ev.mkS Ew hS4 (by omega) (by omega) fun bo B5 H5 hm5 hS5 => ?_
    rw [map_replicate] at hS5
    have ha5 : RdN B5 w4 (limbs (val xs * 2 ^ s)) := hw4.mono hm5
    have hb5 : RdN B5 w3 (limbs (val ys * 2 ^ s)) := (hw3.mono hm4.mo).mono hm5
    have eq1 : val xs / val ys = val xs * 2 ^ s / (val ys * 2 ^ s) := (Nat.mul_div_mul_right _ _ hp).symm
    have eq2 : val xs % val ys = val xs * 2 ^ s % (val ys * 2 ^ s) / 2 ^ s := by rw [Nat.mul_mod_mul_right, Nat.mul_div_cancel _ hp]
    rw [eq1, eq2]
    have ht := limbs_top hYne
    have hYl : (limbs (val ys * 2 ^ s)).length ≠ 0 := fun e => hYne (limbs_eq_nil.mp (List.length_eq_zero_iff.mp e))
    generalize val xs * 2 ^ s = X at *
    generalize val ys * 2 ^ s = Y at *
    repeat (first | refine Ev.s ?_ | refine Ev.newC fun _ _ _ => ?_ | refine Ev.boxC fun _ _ _ => ?_ | refine Ev.stC fun _ _ => ?_ | refine Ev.sc (by omega) ?_ | refine Ev.scg (by omega) ?_)
    refine Ev.prim (bin_sub64 (by omega)) ?_
    refine Ev.bind (Ev.loop (rdm_loop (us := limbs X) (ys := limbs Y) (n := (limbs Y).length - 1) (by omega) (by omega) ht (by omega) (limbs X).length (List.replicate (limbs X).length 0) 0 _ B5 H5 (by omega) (by simp) (small_replicate _) (by rw [val_limbs]; omega) (by simp [val]) ha5 hb5 (by rw [limbs_zero]; exact RdN.nil) hS5)) ?_
    rintro _ ⟨zs, r, rv, B6, H6, rfl, hz, hsm, hr, hv, hrv, hm6, hS6⟩
    rw [val_limbs] at hr
    rw [val_limbs, val_limbs] at hv
    refine Ev.eq (fun k _ => f70_A0_x0 k _ _ _ H6) ?_
    have hrl : (limbs r).length ≤ (limbs Y).length := limbs_length_mono (by omega)
    obtain ⟨B7, hm7, hr7, hS7⟩ := hS6.freezeN (n := (limbs X).length) (cap := (limbs X).length) hsm hz.symm (by omega)
    refine Ev.callD (rTrim_spec (xs := zs) (by omega)) fun v8 B8 H8 hm8 hS8 h8 => ?_
    have hrv8 := (hrv.mono hm7).mono hm8.mo
    refine Ev.callD (rShr_spec (xs := limbs r) (n := s) (by omega) (by omega)) fun v9 B9 H9 hm9 hS9 h9 => ?_
    rw [val_limbs] at h9
    refine Ev.doneC ⟨v8, v9, rfl, ?_, ?_⟩
    · rw [hv, Nat.mul_comm, Nat.add_comm, Nat.add_mul_div_right _ _ (by omega), Nat.div_eq_of_lt hr, Nat.zero_add]
      exact h8.mono hm9.mo
    · rw [hv, Nat.mul_add_mod, Nat.mod_eq_of_lt hr]
      exact h9
end Go.AM.Y
set_option linter.unusedVariables false
set_option linter.unusedSimpArgs false
set_option maxRecDepth 100000
namespace Go.AM.Y
open Go Go.AM Go.Proofs
attribute [local irreducible] run bin un ld st box newV mkS fldA fld ixA ix slc slc3 build buildS cv cvS ap cpy lenV gOp pickV b2 aIf aChk evalK resume iterD Option.bind

theorem root_try {s i A rest : Nat} (h : s * s + rest = A) : ((2 * s + 2 ^ i) * 2 ^ i ≤ rest ↔ (s + 2 ^ i) * (s + 2 ^ i) ≤ A) ∧ (s + 2 ^ i) * (s + 2 ^ i) = s * s + (2 * s + 2 ^ i) * 2 ^ i := by
  have e : (s + 2 ^ i) * (s + 2 ^ i) = s * s + (2 * s + 2 ^ i) * 2 ^ i := by
    generalize 2 ^ i = p
    simp only [Nat.add_mul, Nat.mul_add, Nat.mul_assoc]
    have : s * p = p * s := Nat.mul_comm s p
    omega
  exact ⟨by rw [e]; omega, e⟩
theorem sq_le_self (s : Nat) : s ≤ s * s := by
  rcases Nat.eq_zero_or_pos s with h | h
  · subst h; decide
  · exact Nat.le_mul_of_pos_left s h
theorem rsqrt_loop {H0 B0 : AH} {A K : Nat} (hA : (limbs A).length ≤ 3000) :
    ∀ (m s rest : Nat) (v w : Value) (B H : AH), m ≤ 50000 → s * s + rest = A → A < (s + 2 ^ m) * (s + 2 ^ m) → RdN B v (limbs s) → RdN B w (limbs rest) → St H0 B0 B [] H →
    Ev (fun k n => f72_L0 k v w (.int .i64 ((m : Int) - 1)) n H)
      (fun o => ∃ s rest v w B' H', o = (.exit 0, f72_X_L0 v w, H') ∧ s * s + rest = A ∧ A < (s + 1) * (s + 1) ∧ RdN B' v (limbs s) ∧ RdN B' w (limbs rest) ∧ St H0 B0 B' [] H') := by
  intro m
  induction m with
  | zero =>
    intro s rest v w B H hm h1 h2 hv hw hS
    refine Ev.succ (fun k n => f72_L0_succ k _ _ _ n H) ?_
    repeat (first | refine Ev.s ?_ | refine Ev.newC fun _ _ _ => ?_ | refine Ev.boxC fun _ _ _ => ?_ | refine Ev.stC fun _ _ => ?_ | refine Ev.sc (by omega) ?_ | refine Ev.scg (by omega) ?_)
    rw [decide_eq_false (by omega)]
    repeat (first | refine Ev.s ?_ | refine Ev.newC fun _ _ _ => ?_ | refine Ev.boxC fun _ _ _ => ?_ | refine Ev.stC fun _ _ => ?_ | refine Ev.sc (by omega) ?_ | refine Ev.scg (by omega) ?_)
    exact Ev.ret ⟨s, rest, v, w, B, H, rfl, h1, by rw [Nat.pow_zero] at h2; exact h2, hv, hw, hS⟩
  | succ m ih =>
    intro s rest v w B H hm h1 h2 hv hw hS
    refine Ev.succ (fun k n => f72_L0_succ k _ _ _ n H) ?_
    have e : ((m + 1 : Nat) : Int) - 1 = (m : Int) := by omega
    rw [e]
    have hsl : (limbs s).length ≤ 3000 := Nat.le_trans (limbs_length_mono (by have := sq_le_self s; omega)) hA
    have hrl : (limbs rest).length ≤ 3000 := Nat.le_trans (limbs_length_mono (by omega)) hA
    repeat (first | refine Ev.s ?_ | refine Ev.newC fun _ _ _ => ?_ | refine Ev.boxC fun _ _ _ => ?_ | refine Ev.stC fun _ _ => ?_ | refine Ev.sc (by omega) ?_ | refine Ev.scg (by omega) ?_)
    rw [decide_eq_true (by omega)]
    repeat (first | refine Ev.s ?_ | refine Ev.newC fun _ _ _ => ?_ | refine Ev.boxC fun _ _ _ => ?_ | refine Ev.stC fun _ _ => ?_ | refine Ev.sc (by omega) ?_ | refine Ev.scg (by omega) ?_)
    refine Ev.callD (rShl_spec (xs := limbs s) (n := 1) (by omega) (by omega)) fun x1 B1 H1 hm1 hS1 hx1 => ?_
    obtain ⟨x1, rfl, hx1⟩ := hx1
    rw [val_limbs, Nat.pow_one] at hx1
    have l1 : (limbs (s * 2)).length ≤ 3001 := by
      have := limbs_shl_len (x := s) (k := 1)
      rw [Nat.pow_one] at this; omega
    repeat (first | refine Ev.s ?_ | refine Ev.newC fun _ _ _ => ?_ | refine Ev.boxC fun _ _ _ => ?_ | refine Ev.stC fun _ _ => ?_ | refine Ev.sc (by omega) ?_ | refine Ev.scg (by omega) ?_)
    refine Ev.bsC (by decide) fun bw H2 hS2 => ?_
    obtain ⟨B2, hm2, hr2, hS2⟩ := St.freezeN (xs := [1]) (n := 1) (cap := 1) hS2 (fun y hy => by simp at hy; omega) rfl (Nat.le_refl 1)
    refine Ev.callD (rShl_spec (xs := [1]) (n := m) (by simp) (by omega)) fun x3 B3 H3 hm3 hS3 hx3 => ?_
    obtain ⟨x3, rfl, hx3⟩ := hx3
    rw [show val [1] * 2 ^ m = 2 ^ m by simp [val]] at hx3
    have l3 : (limbs (2 ^ m)).length ≤ 1600 := by
      have := limbs_shl_len (x := 1) (k := m)
      have h1l : (limbs 1).length ≤ 1 := limbs_length_le (by decide)
      rw [Nat.one_mul] at this
      omega
    have hx1' := (hx1.mono hm2).mono hm3.mo
    repeat (first | refine Ev.s ?_ | refine Ev.newC fun _ _ _ => ?_ | refine Ev.boxC fun _ _ _ => ?_ | refine Ev.stC fun _ _ => ?_ | refine Ev.sc (by omega) ?_ | refine Ev.scg (by omega) ?_)
    refine Ev.callD (rAdd_spec (xs := limbs (s * 2)) (ys := limbs (2 ^ m)) (by omega) (by omega)) fun x4 B4 H4 hm4 hS4 hx4 => ?_
    rw [val_limbs, val_limbs, Nat.mul_comm s 2] at hx4
    have l4 : (limbs (2 * s + 2 ^ m)).length ≤ 4700 := by
      have := add_len' (s * 2) (2 ^ m)
      rw [Nat.mul_comm s 2] at this l1
      omega
    refine Ev.callD (rShl_spec (xs := limbs (2 * s + 2 ^ m)) (n := m) (by omega) (by omega)) fun x5 B5 H5 hm5 hS5 hx5 => ?_
    obtain ⟨x5, rfl, hx5⟩ := hx5
    rw [val_limbs] at hx5
    have l5 : (limbs ((2 * s + 2 ^ m) * 2 ^ m)).length ≤ 6400 := Nat.le_trans limbs_shl_len (by omega)
    have hw5 := (((hw.mono hm1.mo).mono hm2).mono (hm3.mo.trans hm4.mo)).mono hm5.mo
    have hv5 := (((hv.mono hm1.mo).mono hm2).mono (hm3.mo.trans hm4.mo)).mono hm5.mo
    have hx35 := hx3.mono (hm4.mo.trans hm5.mo)
    obtain ⟨t1, t2⟩ := root_try (i := m) h1
    have h2' : A < (s + 2 ^ m + 2 ^ m) * (s + 2 ^ m + 2 ^ m) := by
      have : s + 2 ^ m + 2 ^ m = s + 2 ^ (m + 1) := by rw [Nat.pow_succ]; omega
      rw [this]; exact h2
    repeat (first | refine Ev.s ?_ | refine Ev.newC fun _ _ _ => ?_ | refine Ev.boxC fun _ _ _ => ?_ | refine Ev.stC fun _ _ => ?_ | refine Ev.sc (by omega) ?_ | refine Ev.scg (by omega) ?_)
    refine Ev.callD (rSub_spec (xs := limbs rest) (ys := limbs ((2 * s + 2 ^ m) * 2 ^ m)) (by omega) (by omega)) fun x6 B6 H6 hm6 hS6 hx6 => ?_
    rw [val_limbs, val_limbs] at hx6
    rcases hx6 with ⟨hlt, rfl⟩ | ⟨hge, d, rfl, hd⟩
    · repeat (first | refine Ev.s ?_ | refine Ev.newC fun _ _ _ => ?_ | refine Ev.boxC fun _ _ _ => ?_ | refine Ev.stC fun _ _ => ?_ | refine Ev.sc (by omega) ?_ | refine Ev.scg (by omega) ?_)
      refine Ev.prim (bin_sub64 (by omega)) ?_
      refine ih s rest v w B6 H6 (by omega) h1 ?_ (hv5.mono hm6.mo) (hw5.mono hm6.mo) hS6
      exact Nat.lt_of_not_le fun h => absurd (t1.mpr h) (by omega)
    · repeat (first | refine Ev.s ?_ | refine Ev.newC fun _ _ _ => ?_ | refine Ev.boxC fun _ _ _ => ?_ | refine Ev.stC fun _ _ => ?_ | refine Ev.sc (by omega) ?_ | refine Ev.scg (by omega) ?_)
      refine Ev.callD (rAdd_spec (xs := limbs s) (ys := limbs (2 ^ m)) (by omega) (by omega)) fun x7 B7 H7 hm7 hS7 hx7 => ?_
      rw [val_limbs, val_limbs] at hx7
      repeat (first | refine Ev.s ?_ | refine Ev.newC fun _ _ _ => ?_ | refine Ev.boxC fun _ _ _ => ?_ | refine Ev.stC fun _ _ => ?_ | refine Ev.sc (by omega) ?_ | refine Ev.scg (by omega) ?_)
      refine Ev.prim (bin_sub64 (by omega)) ?_
      refine ih (s + 2 ^ m) (rest - (2 * s + 2 ^ m) * 2 ^ m) x7 d B7 H7 (by omega) ?_ h2' hx7 (hd.mono hm7.mo) hS7
      rw [t2]
      omega
theorem rSqrt_spec {B H : AH} {xs : List Nat} {a : Value} (hm : xs.length ≤ 3000) [ha : RdT B a xs] (hL : Le B H) :
    Ev (fun k _ => rn k 72 [a] H) (An B H fun B' v => ∃ q r s, v = .tuple #[q, r] ∧ RdN B' q (limbs s) ∧ RdN B' r (limbs (val xs - s * s)) ∧ s * s ≤ val xs ∧ val xs < (s + 1) * (s + 1)) := by
  refine Ev.fn (fun k => f72_eq k _ H) ?_
  have hS := St.start hL
  have ha := ha.rd
  have hxl := limbs_length_le (val_lt ha.sm)
  have hnb := nbits_val ha.sm
  refine Ev.callD (rTrim_spec (xs := xs) (by omega)) fun v1 B1 H1 hm1 hS1 h1 => ?_
  refine Ev.callD (rBits_spec (xs := xs) (by omega)) fun v2 B2 H2 hm2 hS2 h2 => ?_
  subst h2
  repeat (first | refine Ev.s ?_ | refine Ev.newC fun _ _ _ => ?_ | refine Ev.boxC fun _ _ _ => ?_ | refine Ev.stC fun _ _ => ?_ | refine Ev.sc (by omega) ?_ | refine Ev.scg (by omega) ?_)
  refine Ev.prim (bin_sub64 (by omega)) ?_
  have h12 := h1.mono hm2.mo
  have hq : ((nbits (val xs) : Int) - 1).tdiv 2 = (((nbits (val xs) - 1) / 2 : Nat) : Int) := by
    rcases Nat.eq_zero_or_pos (nbits (val xs)) with h | h
    · rw [h]; rfl
    · rw [Int.tdiv_eq_ediv_of_nonneg (by omega)]; omega
  refine Ev.prim (bin_quo (by decide)) ?_
  rw [hq, wrap64 (by omega)]
  have e : (((nbits (val xs) - 1) / 2 : Nat) : Int) = (((nbits (val xs) - 1) / 2 + 1 : Nat) : Int) - 1 := by omega
  rw [e]
  refine Ev.bind (Ev.loop (rsqrt_loop (A := val xs) (K := 0) (by omega) ((nbits (val xs) - 1) / 2 + 1) 0 (val xs) _ v1 B2 H2 (by omega) (by rw [Nat.mul_zero, Nat.zero_add]) ?_ (by rw [limbs_zero]; exact RdN.nil) h12 hS2)) ?_
  · rw [Nat.zero_add, ← Nat.pow_add]
    exact Nat.lt_of_lt_of_le (lt_nbits_self _) (Nat.pow_le_pow_right (by decide) (by omega))
  rintro _ ⟨s, rest, v, w, B3, H3, rfl, r1, r2, hv, hw, hS3⟩
  refine Ev.eq (fun k _ => f72_A0_x0 k _ _ H3) ?_
  refine Ev.doneC ⟨v, w, s, rfl, hv, ?_, by omega, r2⟩
  rw [show val xs - s * s = rest by omega]
  exact hw
end Go.AM.Y
set_option linter.unusedVariables false
set_option linter.unusedSimpArgs false
set_option maxRecDepth 100000
namespace Go.AM.Y
open Go Go.AM Go.Proofs
attribute [local irreducible] run bin un ld st box newV mkS fldA fld ixA ix slc slc3 build buildS cv cvS ap cpy lenV gOp pickV b2 aIf aChk evalK resume iterD Option.bind

theorem rup_loop {H0 B0 : AH} {L : List (Nat × Blk)} {s2 s4 : Value} : ∀ (c : Nat) (n : Int) (xs : List Nat) (m : Value) (B H : AH), n ≤ 100000 * (c : Int) → RdN B m xs → xs.length + 3127 * c < 68719476736 → St H0 B0 B L H → -9223372036854775808 ≤ n → n < 1099511627776 →
    Ev (fun k l => f115_L0 k (.int .i64 n) s2 s4 m l H) (fun o => ∃ B' H' m' ys, o = (.exit 0, f115_X_L0 s2 s4 m', H') ∧ val ys = val xs * 2 ^ n.toNat ∧ ys.length < 68719476736 ∧ RdN B' m' ys ∧ Mo B B' ∧ St H0 B0 B' L H') := by
  intro c
  induction c with
  | zero =>
    intro n xs m B H hn hr hl hS hlo hhi
    refine Ev.succ (fun k l => f115_L0_succ k _ _ _ _ l H) ?_
    repeat (first | refine Ev.s ?_ | refine Ev.newC fun _ _ _ => ?_ | refine Ev.boxC fun _ _ _ => ?_ | refine Ev.stC fun _ _ => ?_ | refine Ev.sc (by omega) ?_ | refine Ev.scg (by omega) ?_)
    rw [decide_eq_false (by omega)]
    repeat (first | refine Ev.s ?_ | refine Ev.newC fun _ _ _ => ?_ | refine Ev.boxC fun _ _ _ => ?_ | refine Ev.stC fun _ _ => ?_ | refine Ev.sc (by omega) ?_ | refine Ev.scg (by omega) ?_)
    exact Ev.ret ⟨B, H, m, xs, rfl, by rw [show n.toNat = 0 by omega, Nat.pow_zero, Nat.mul_one], by omega, hr, Mo.refl B, hS⟩
  | succ c ih =>
    intro n xs m B H hn hr hl hS hlo hhi
    refine Ev.succ (fun k l => f115_L0_succ k _ _ _ _ l H) ?_
    repeat (first | refine Ev.s ?_ | refine Ev.newC fun _ _ _ => ?_ | refine Ev.boxC fun _ _ _ => ?_ | refine Ev.stC fun _ _ => ?_ | refine Ev.sc (by omega) ?_ | refine Ev.scg (by omega) ?_)
    by_cases hg : 0 < n
    · rw [decide_eq_true hg]
      obtain ⟨K, hK⟩ : ∃ K : Nat, (K : Int) = (if (100000 : Int) < n then 100000 else n) := ⟨(if (100000 : Int) < n then 100000 else n).toNat, by split <;> omega⟩
      have hK2 : K ≤ 100000 ∧ (K : Int) ≤ n ∧ n - K ≤ 100000 * (c : Int) := by split at hK <;> omega
      repeat (first | refine Ev.s ?_ | refine Ev.newC fun _ _ _ => ?_ | refine Ev.boxC fun _ _ _ => ?_ | refine Ev.stC fun _ _ => ?_ | refine Ev.sc (by omega) ?_ | refine Ev.scg (by omega) ?_)
      rw [← hK]
      refine Ev.callD (rShl_spec (xs := xs) (n := K) (by omega) (by omega)) fun v B1 H1 hm1 hS1 h1 => ?_
      obtain ⟨w, rfl, hw⟩ := h1
      have h2 := limbs_shl_len (x := val xs) (k := K)
      have h3 := limbs_length_le (val_lt hr.sm)
      repeat (first | refine Ev.s ?_ | refine Ev.newC fun _ _ _ => ?_ | refine Ev.boxC fun _ _ _ => ?_ | refine Ev.stC fun _ _ => ?_ | refine Ev.sc (by omega) ?_ | refine Ev.scg (by omega) ?_)
      refine (ih (n - K) _ w B1 H1 hK2.2.2 hw (by omega) hS1 (by omega) (by omega)).mono fun o ho => ?_
      obtain ⟨B', H', m', ys, q1, q4, q5, q6, q7, q8⟩ := ho
      refine ⟨B', H', m', ys, q1, ?_, q5, q6, hm1.mo.trans q7, q8⟩
      rw [q4, val_limbs, show n.toNat = K + (n - K).toNat by omega, Nat.pow_add, Nat.mul_assoc]
    · rw [decide_eq_false hg]
      repeat (first | refine Ev.s ?_ | refine Ev.newC fun _ _ _ => ?_ | refine Ev.boxC fun _ _ _ => ?_ | refine Ev.stC fun _ _ => ?_ | refine Ev.sc (by omega) ?_ | refine Ev.scg (by omega) ?_)
      exact Ev.ret ⟨B, H, m, xs, rfl, by rw [show n.toNat = 0 by omega, Nat.pow_zero, Nat.mul_one], by omega, hr, Mo.refl B, hS⟩
theorem rup_spec {B H : AH} {xs : List Nat} {m : Value} {neg : Bool} {n : Int} (hl : xs.length < 34359738368) (hn : -9223372036854775808 ≤ n ∧ n < 1000000000) [ha : RdT B m xs] (hL : Le B H) :
    Ev (fun k _ => rn k 115 [.agg #[.bool neg, m], .int .i64 n] H) (An B H fun B' v => IntV B' v (sg neg (val xs) * ((2 ^ n.toNat : Nat) : Int))) := by
  refine Ev.fn (fun k => f115_eq k _ _ H) ?_
  have hS := St.start hL
  have ha := ha.rd
  repeat (first | refine Ev.s ?_ | refine Ev.newC fun _ _ _ => ?_ | refine Ev.boxC fun _ _ _ => ?_ | refine Ev.stC fun _ _ => ?_ | refine Ev.sc (by omega) ?_ | refine Ev.scg (by omega) ?_)
  refine Ev.bind (Ev.loop (rup_loop 10000 n xs m B _ (by omega) ha (by omega) (by assumption) hn.1 (by omega))) ?_
  rintro _ ⟨B1, H1, m1, ys, rfl, q4, q5, q6, q7, q8⟩
  refine Ev.eq (fun k _ => f115_A0_x0 k _ _ _ _) ?_
  repeat (first | refine Ev.s ?_ | refine Ev.newC fun _ _ _ => ?_ | refine Ev.boxC fun _ _ _ => ?_ | refine Ev.stC fun _ _ => ?_ | refine Ev.sc (by omega) ?_ | refine Ev.scg (by omega) ?_)
  refine Ev.callD (rMake_spec (xs := ys) (by omega)) fun v2 B2 H2 hm2 hS2 h2 => ?_
  rw [q4, sg_mul] at h2
  generalize sg neg (val xs) * ((2 ^ n.toNat : Nat) : Int) = Z at *
  obtain ⟨w, rfl, hw⟩ := h2
  repeat (first | refine Ev.s ?_ | refine Ev.newC fun _ _ _ => ?_ | refine Ev.boxC fun _ _ _ => ?_ | refine Ev.stC fun _ _ => ?_ | refine Ev.sc (by omega) ?_ | refine Ev.scg (by omega) ?_)
  exact Ev.doneC ⟨w, rfl, hw⟩
end Go.AM.Y
set_option linter.unusedVariables false
set_option linter.unusedSimpArgs false
set_option maxRecDepth 100000
namespace Go.AM.Y
open Go Go.AM Go.Proofs
attribute [local irreducible] run bin un ld st box newV mkS fldA fld ixA ix slc slc3 build buildS cv cvS ap cpy lenV gOp pickV b2 aIf aChk evalK resume iterD Option.bind

end Go.AM.Y
set_option linter.unusedVariables false
set_option linter.unusedSimpArgs false
set_option maxRecDepth 100000
namespace Go.AM.Y
open Go Go.AM Go.Proofs
attribute [local irreducible] run bin un ld st box newV mkS fldA fld ixA ix slc slc3 build buildS cv cvS ap cpy lenV gOp pickV b2 aIf aChk evalK resume iterD Option.bind

abbrev Dd (x : Dy) (m : Value) : Value := .agg #[.bool x.neg, m, .int .i64 x.e]
def ResD (B : AH) (v : Value) (r : Dy × Int) : Prop := ∃ m, v = .tuple #[Dd r.1 m, .int .i64 r.2] ∧ RdN B m r.1.mag
theorem ResV.d {B : AH} {v : Value} {r : Dy × Int} (h : ResV B v r.1 r.2) : ResD B v r := by obtain ⟨x, rfl, m, rfl, hr⟩ := h; exact ⟨m, rfl, hr⟩
def cutT (x : Dy) (n : Nat) : Dy := ⟨x.neg, x.mag.take n, x.e⟩
theorem told_fit {d : Dy} (h : Fit d) : Fit (toldR 0 d).1 := by
  unfold toldR
  rw [if_neg (by simp)]
  split
  · exact h
  · exact zeroFit
theorem lawcut_spec {B H : AH} {d : Dy} {v : Value} {n : Nat} (hn : n < 1000) (hl : d.mag.length < 9223372036854775808) (hx : DyV B v d) (hL : Le B H) :
    Ev (fun k _ => rn k 20 [v, i64 n] H) (An B H fun B' v => ∃ m, v = Dd (cutT d n) m ∧ RdN B' m (cutT d n).mag) := by
  refine Ev.fn (fun k => f20_eq k _ _ H) ?_
  obtain ⟨m, rfl, hr⟩ := hx
  have hS := St.start hL
  have htk : d.mag.take (min d.mag.length n) = (cutT d n).mag := by
    show _ = d.mag.take n
    by_cases h6 : d.mag.length ≤ n
    · rw [Nat.min_eq_left h6, List.take_length, List.take_of_length_le h6]
    · rw [Nat.min_eq_right (by omega)]
  repeat (first | refine Ev.s ?_ | refine Ev.newC fun _ _ _ => ?_ | refine Ev.boxC fun _ _ _ => ?_ | refine Ev.stC fun _ _ => ?_ | refine Ev.sc (by omega) ?_ | refine Ev.scg (by omega) ?_)
  refine Ev.uptoC (min d.mag.length n) (by split <;> omega) (by omega) fun w hw => ?_
  rw [htk] at hw
  repeat (first | refine Ev.s ?_ | refine Ev.newC fun _ _ _ => ?_ | refine Ev.boxC fun _ _ _ => ?_ | refine Ev.stC fun _ _ => ?_ | refine Ev.sc (by omega) ?_ | refine Ev.scg (by omega) ?_)
  exact Ev.doneC ⟨w, rfl, hw⟩
theorem lawcut_D {B H : AH} {d : Dy} {m : Value} {n : Nat} [hx : RdT B m d.mag] (hn : n < 1000) (hl : d.mag.length < 9223372036854775808) (hL : Le B H) :
    Ev (fun k _ => rn k 20 [Dd d m, i64 n] H) (An B H fun B' v => ∃ m, v = Dd (cutT d n) m ∧ RdN B' m (cutT d n).mag) := lawcut_spec hn hl ⟨m, rfl, hx.rd⟩ hL
section
variable {B H : AH} {x y : Dy} {m m2 : Value}
theorem same_D [hx : RdT B m x.mag] [hy : RdT B m2 x.mag] (hlx : x.mag.length < 34359738368) (hL : Le B H) : Ev (fun k _ => rn k 19 [Dd x m, Dd x m2] H) (An B H fun _ v => v = .bool true) :=
  An.imp (same_spec hlx ⟨m, rfl, hx.rd⟩ ⟨m2, rfl, hy.rd⟩ hL) fun B' v h => by rw [h, decide_eq_true ⟨rfl, rfl, rfl⟩]
end
end Go.AM.Y
set_option linter.unusedVariables false
set_option linter.unusedSimpArgs false
set_option maxRecDepth 100000
namespace Go.AM.Y
open Go Go.AM Go.Proofs
attribute [local irreducible] run bin un ld st box newV mkS fldA fld ixA ix slc slc3 build buildS cv cvS ap cpy lenV gOp pickV b2 aIf aChk evalK resume iterD Option.bind

theorem rprec_spec {H : AH} {p : Int} : Ev (fun k _ => rn k 60 [.int .i64 p] H) (Pu H fun v => v = .bool (decide (2 ≤ p ∧ p ≤ 400))) := by
  refine Ev.fn (fun k => f60_eq k _ H) ?_
  repeat (first | refine Ev.s ?_ | refine Ev.newC fun _ _ _ => ?_ | refine Ev.boxC fun _ _ _ => ?_ | refine Ev.stC fun _ _ => ?_ | refine Ev.sc (by omega) ?_ | refine Ev.scg (by omega) ?_)
  by_cases h : 2 ≤ p
  · rw [decide_eq_true h]
    repeat (first | refine Ev.s ?_ | refine Ev.newC fun _ _ _ => ?_ | refine Ev.boxC fun _ _ _ => ?_ | refine Ev.stC fun _ _ => ?_ | refine Ev.sc (by omega) ?_ | refine Ev.scg (by omega) ?_)
    exact Ev.doneU (by simp [h])
  · rw [decide_eq_false h]
    repeat (first | refine Ev.s ?_ | refine Ev.newC fun _ _ _ => ?_ | refine Ev.boxC fun _ _ _ => ?_ | refine Ev.stC fun _ _ => ?_ | refine Ev.sc (by omega) ?_ | refine Ev.scg (by omega) ?_)
    exact Ev.doneU (by simp [h])
theorem rupMag_spec {B H : AH} {xs : List Nat} {m : Value} {n : Nat} (hl : xs.length < 34359738368) (hn : n < 1000000000) [ha : RdT B m xs] (hL : Le B H) :
    Ev (fun k _ => rn k 69 [m, i64 n] H) (An B H fun B' v => RdN B' v (limbs (val xs * 2 ^ n))) := by
  refine Ev.fn (fun k => f69_eq k _ _ H) ?_
  have hS := St.start hL
  have ha := ha.rd
  repeat (first | refine Ev.s ?_ | refine Ev.newC fun _ _ _ => ?_ | refine Ev.boxC fun _ _ _ => ?_ | refine Ev.stC fun _ _ => ?_ | refine Ev.sc (by omega) ?_ | refine Ev.scg (by omega) ?_)
  refine Ev.callD (rup_spec (xs := xs) (neg := false) hl (by omega)) fun v1 B1 H1 hm1 hS1 h1 => ?_
  have e : (sg false (val xs) * ((2 ^ ((n : Int)).toNat : Nat) : Int)).natAbs = val xs * 2 ^ n := by
    rw [Int.toNat_natCast, Int.natAbs_mul, sg_abs, Int.natAbs_natCast]
  obtain ⟨w, rfl, hw⟩ := h1
  rw [e] at hw
  repeat (first | refine Ev.s ?_ | refine Ev.newC fun _ _ _ => ?_ | refine Ev.boxC fun _ _ _ => ?_ | refine Ev.stC fun _ _ => ?_ | refine Ev.sc (by omega) ?_ | refine Ev.scg (by omega) ?_)
  exact Ev.doneC hw
theorem rcut_spec {B H : AH} {m : Value} {neg sticky away : Bool} {x P : Nat} {e : Int} (hl : (limbs x).length ≤ 3000) (hP : P < 1000000) (he : -2305843009213693952 ≤ e ∧ e < 2305843009213693952) [hr : RdT B m (limbs x)] (hL : Le B H) :
    Ev (fun k _ => rn k 62 [.bool neg, m, .int .i64 e, .bool sticky, i64 P, .bool away] H) (An B H fun B' v => DyV B' v (cutD neg x e sticky P away)) := by
  have hnb := nbits_val (small_limbs x)
  rw [val_limbs] at hnb
  have hS := St.start hL
  have hr := hr.rd
  have j1 : ∀ (b q : Nat) (mq : Value) (e' : Int) (B1 H1 : AH), St H B B1 [(b, ⟨[.bool false, .slice none 0 0, .int .i64 0], 26, .fix⟩)] H1 → RdN B1 mq (limbs q) → (limbs q).length < 34359738368 → (-4611686018427387904 ≤ e' ∧ e' < 4611686018427387904) →
      canon (sg neg q) e' = cutD neg x e sticky P away →
      Ev (fun k _ => f62_J1 k (.bool neg) mq (.int .i64 e') (ptr b 0) H1) (An B H fun B' v => DyV B' v (cutD neg x e sticky P away)) := by
    intro b q mq e' B1 H1 hS1 hr1 hl1 he1 hc
    refine Ev.eq (fun k _ => f62_J1_eq k _ _ _ _ _) ?_
    repeat (first | refine Ev.s ?_ | refine Ev.newC fun _ _ _ => ?_ | refine Ev.boxC fun _ _ _ => ?_ | refine Ev.stC fun _ _ => ?_ | refine Ev.sc (by omega) ?_ | refine Ev.scg (by omega) ?_)
    refine Ev.callD (rnorm_spec (xs := limbs q) hl1 he1) fun v3 B3 H3 hm3 hS3 h3 => ?_
    rw [val_limbs, hc] at h3
    obtain ⟨m3, rfl, hr3⟩ := h3
    generalize cutD neg x e sticky P away = d at *
    repeat (first | refine Ev.s ?_ | refine Ev.newC fun _ _ _ => ?_ | refine Ev.boxC fun _ _ _ => ?_ | refine Ev.stC fun _ _ => ?_ | refine Ev.sc (by omega) ?_ | refine Ev.scg (by omega) ?_)
    exact Ev.doneC ⟨m3, rfl, hr3⟩
  have j0 : ∀ (b q : Nat) (mq : Value) (e' : Int) (s : Bool) (B1 H1 : AH), St H B B1 [(b, ⟨[.bool false, .slice none 0 0, .int .i64 0], 26, .fix⟩)] H1 → RdN B1 mq (limbs q) → (limbs q).length < 17179869184 → (-4611686018427387904 ≤ e' ∧ e' < 4611686018427387904) →
      canon (sg neg (if (s && away) = true then q + 1 else q)) e' = cutD neg x e sticky P away →
      Ev (fun k _ => f62_J0 k (.bool neg) mq (.int .i64 e') (.bool s) (.bool away) (ptr b 0) H1) (An B H fun B' v => DyV B' v (cutD neg x e sticky P away)) := by
    intro b q mq e' s B1 H1 hS1 hr1 hl1 he1 hc
    refine Ev.eq (fun k _ => f62_J0_eq k _ _ _ _ _ _ _) ?_
    cases s with
    | false =>
      repeat (first | refine Ev.s ?_ | refine Ev.newC fun _ _ _ => ?_ | refine Ev.boxC fun _ _ _ => ?_ | refine Ev.stC fun _ _ => ?_ | refine Ev.sc (by omega) ?_ | refine Ev.scg (by omega) ?_)
      exact j1 b q mq e' B1 H1 hS1 hr1 (by omega) he1 hc
    | true =>
      cases away with
      | false =>
        repeat (first | refine Ev.s ?_ | refine Ev.newC fun _ _ _ => ?_ | refine Ev.boxC fun _ _ _ => ?_ | refine Ev.stC fun _ _ => ?_ | refine Ev.sc (by omega) ?_ | refine Ev.scg (by omega) ?_)
        exact j1 b q mq e' B1 H1 hS1 hr1 (by omega) he1 hc
      | true =>
        repeat (first | refine Ev.s ?_ | refine Ev.newC fun _ _ _ => ?_ | refine Ev.boxC fun _ _ _ => ?_ | refine Ev.stC fun _ _ => ?_ | refine Ev.sc (by omega) ?_ | refine Ev.scg (by omega) ?_)
        refine Ev.bsC (by decide) fun bw H2 hS2 => ?_
        obtain ⟨B2, hm2, hr2, hS2⟩ := St.freezeN (xs := [1]) (n := 1) (cap := 1) hS2 (fun y hy => by simp at hy; omega) rfl (Nat.le_refl 1)
        have hr12 := hr1.mono hm2
        refine Ev.callD (rAdd_spec (xs := limbs q) (ys := [1]) (by omega) (by simp)) fun v3 B3 H3 hm3 hS3 h3 => ?_
        rw [val_limbs, show val [1] = 1 from rfl] at h3
        have hlen := succ_len q
        exact j1 b (q + 1) v3 e' B3 H3 hS3 h3 (by omega) he1 hc
  refine Ev.fn (fun k => f62_eq k _ _ _ _ _ _ H) ?_
  repeat (first | refine Ev.s ?_ | refine Ev.newC fun _ _ _ => ?_ | refine Ev.boxC fun _ _ _ => ?_ | refine Ev.stC fun _ _ => ?_ | refine Ev.sc (by omega) ?_ | refine Ev.scg (by omega) ?_)
  refine Ev.callD (rBits_spec (xs := limbs x) (by omega)) fun v2 B2 H2 hm2 hS2 h2 => ?_
  rw [val_limbs] at h2
  subst h2
  have hr2 := hr.mono hm2.mo
  refine Ev.prim (bin_sub64 (by omega)) ?_
  repeat (first | refine Ev.s ?_ | refine Ev.newC fun _ _ _ => ?_ | refine Ev.boxC fun _ _ _ => ?_ | refine Ev.stC fun _ _ => ?_ | refine Ev.sc (by omega) ?_ | refine Ev.scg (by omega) ?_)
  by_cases hn : (0 : Int) < (nbits x : Int) - (P : Int)
  · rw [decide_eq_true hn, show (nbits x : Int) - (P : Int) = ((nbits x - P : Nat) : Int) by omega]
    have hle : (limbs (x / 2 ^ (nbits x - P))).length ≤ (limbs x).length := limbs_length_mono (Nat.div_le_self _ _)
    repeat (first | refine Ev.s ?_ | refine Ev.newC fun _ _ _ => ?_ | refine Ev.boxC fun _ _ _ => ?_ | refine Ev.stC fun _ _ => ?_ | refine Ev.sc (by omega) ?_ | refine Ev.scg (by omega) ?_)
    refine Ev.callD (rShr_spec (xs := limbs x) (n := nbits x - P) (by omega) (by omega)) fun v3 B3 H3 hm3 hS3 h3 => ?_
    rw [val_limbs] at h3
    refine Ev.callD (rShl_spec (xs := limbs (x / 2 ^ (nbits x - P))) (n := nbits x - P) (by omega) (by omega)) fun v4 B4 H4 hm4 hS4 h4 => ?_
    obtain ⟨w4, rfl, hw4⟩ := h4
    rw [val_limbs] at hw4
    have h34 := h3.mono hm4.mo
    have hx4 := (hr2.mono hm3.mo).mono hm4.mo
    have hle4 : (limbs (x / 2 ^ (nbits x - P) * 2 ^ (nbits x - P))).length ≤ (limbs x).length := limbs_length_mono (Nat.div_mul_le_self _ _)
    cases sticky with
    | true =>
      repeat (first | refine Ev.s ?_ | refine Ev.newC fun _ _ _ => ?_ | refine Ev.boxC fun _ _ _ => ?_ | refine Ev.stC fun _ _ => ?_ | refine Ev.sc (by omega) ?_ | refine Ev.scg (by omega) ?_)
      exact j0 _ _ v3 _ true B4 H4 inferInstance h34 (by omega) (by omega) (by unfold cutD; simp)
    | false =>
      repeat (first | refine Ev.s ?_ | refine Ev.newC fun _ _ _ => ?_ | refine Ev.boxC fun _ _ _ => ?_ | refine Ev.stC fun _ _ => ?_ | refine Ev.sc (by omega) ?_ | refine Ev.scg (by omega) ?_)
      refine Ev.callU (rCmp_spec (xs := limbs (x / 2 ^ (nbits x - P) * 2 ^ (nbits x - P))) (ys := limbs x) (by omega) (by omega) hS4.lel) ?_
      rintro _ rfl
      rw [val_limbs, val_limbs]
      repeat (first | refine Ev.s ?_ | refine Ev.newC fun _ _ _ => ?_ | refine Ev.boxC fun _ _ _ => ?_ | refine Ev.stC fun _ _ => ?_ | refine Ev.sc (by omega) ?_ | refine Ev.scg (by omega) ?_)
      have hd : decide (cmpN (x / 2 ^ (nbits x - P) * 2 ^ (nbits x - P)) x ≠ 0) = decide (x % 2 ^ (nbits x - P) ≠ 0) := by
        refine decide_eq_decide.mpr ?_
        have h1 := Nat.div_add_mod x (2 ^ (nbits x - P))
        rw [Nat.mul_comm] at h1
        unfold cmpN
        generalize x / 2 ^ (nbits x - P) * 2 ^ (nbits x - P) = A at *
        generalize x % 2 ^ (nbits x - P) = C at *
        split
        · constructor
          · intro _; omega
          · intro _; decide
        · split
          · omega
          · constructor
            · intro h; exact absurd rfl h
            · intro h; omega
      rw [hd]
      exact j0 _ _ v3 _ _ B4 H4 inferInstance h34 (by omega) (by omega) (by unfold cutD; rw [Bool.false_or])
  · rw [decide_eq_false hn]
    repeat (first | refine Ev.s ?_ | refine Ev.newC fun _ _ _ => ?_ | refine Ev.boxC fun _ _ _ => ?_ | refine Ev.stC fun _ _ => ?_ | refine Ev.sc (by omega) ?_ | refine Ev.scg (by omega) ?_)
    refine j0 _ x m e sticky B2 H2 inferInstance hr2 (by omega) (by omega) ?_
    unfold cutD
    have : nbits x - P = 0 := by omega
    rw [this, Nat.pow_zero, Nat.mod_one, Nat.div_one]
    simp
theorem rRound_dspec {B H : AH} {x : Dy} {v : Value} {p : Int} {up : Bool} (hlx : x.mag.length < 2900) (hx : DyV B v x) (hL : Le B H) :
    Ev (fun k _ => rn k 21 [v, .int .i64 p, .bool up] H) (An B H fun B' v => ResV B' v (roundR x p up).1 (roundR x p up).2) := by
  refine Ev.fn (fun k => f21_eq k _ _ _ H) ?_
  have hx' := hx
  obtain ⟨mx, rfl, hrx⟩ := hx
  have hS := St.start hL
  unfold roundR
  repeat (first | refine Ev.s ?_ | refine Ev.newC fun _ _ _ => ?_ | refine Ev.boxC fun _ _ _ => ?_ | refine Ev.stC fun _ _ => ?_ | refine Ev.sc (by omega) ?_ | refine Ev.scg (by omega) ?_)
  refine Ev.callD (rdRight_spec (by omega) hx') fun v1 B1 H1 hm1 hS1 e1 => ?_
  subst e1
  cases hr : rightD x with
  | false =>
    repeat (first | refine Ev.s ?_ | refine Ev.newC fun _ _ _ => ?_ | refine Ev.boxC fun _ _ _ => ?_ | refine Ev.stC fun _ _ => ?_ | refine Ev.sc (by omega) ?_ | refine Ev.scg (by omega) ?_)
    rw [if_neg (fun h => by cases h.1)]
    exact Ev.doneC ⟨_, rfl, zeroDyV⟩
  | true =>
    have bx := right_bounds hr
    repeat (first | refine Ev.s ?_ | refine Ev.newC fun _ _ _ => ?_ | refine Ev.boxC fun _ _ _ => ?_ | refine Ev.stC fun _ _ => ?_ | refine Ev.sc (by omega) ?_ | refine Ev.scg (by omega) ?_)
    refine Ev.callU rprec_spec ?_
    rintro _ rfl
    by_cases hp : 2 ≤ p ∧ p ≤ 400
    · rw [if_pos ⟨rfl, hp⟩, decide_eq_true hp]
      repeat (first | refine Ev.s ?_ | refine Ev.newC fun _ _ _ => ?_ | refine Ev.boxC fun _ _ _ => ?_ | refine Ev.stC fun _ _ => ?_ | refine Ev.sc (by omega) ?_ | refine Ev.scg (by omega) ?_)
      have hml := right_limbs hr hrx.sm
      have hrx' : RdN B1 mx (limbs (val x.mag)) := by rw [← hml]; exact hrx.mono hm1.mo
      have hlen : (limbs (val x.mag)).length = x.mag.length := by rw [← hml]
      clear hx' hrx
      obtain ⟨P, rfl⟩ : ∃ P : Nat, p = (P : Int) := ⟨p.toNat, by omega⟩
      rw [Int.toNat_natCast]
      refine Ev.callD (rcut_spec (x := val x.mag) (P := P) (by omega) (by omega) (by omega)) fun v5 B5 H5 hm5 hS5 h5 => ?_
      refine Ev.callD (rtold_spec (cutD_fit (by omega) (by omega)) h5) fun v6 B6 H6 hm6 hS6 h6 => ?_
      obtain ⟨o, rfl, mo, rfl, hro⟩ := h6
      repeat (first | refine Ev.s ?_ | refine Ev.newC fun _ _ _ => ?_ | refine Ev.boxC fun _ _ _ => ?_ | refine Ev.stC fun _ _ => ?_ | refine Ev.sc (by omega) ?_ | refine Ev.scg (by omega) ?_)
      exact Ev.doneC ⟨_, rfl, mo, rfl, hro⟩
    · rw [if_neg (fun h => hp h.2), decide_eq_false hp]
      repeat (first | refine Ev.s ?_ | refine Ev.newC fun _ _ _ => ?_ | refine Ev.boxC fun _ _ _ => ?_ | refine Ev.stC fun _ _ => ?_ | refine Ev.sc (by omega) ?_ | refine Ev.scg (by omega) ?_)
      exact Ev.doneC ⟨_, rfl, zeroDyV⟩
end Go.AM.Y
set_option linter.unusedVariables false
set_option linter.unusedSimpArgs false
set_option maxRecDepth 100000
namespace Go.AM.Y
open Go Go.AM Go.Proofs
attribute [local irreducible] run bin un ld st box newV mkS fldA fld ixA ix slc slc3 build buildS cv cvS ap cpy lenV gOp pickV b2 aIf aChk evalK resume iterD Option.bind

theorem rDiv_dspec {B H : AH} {x y : Dy} {v w : Value} {p : Int} {away : Bool} (hlx : x.mag.length < 100) (hly : y.mag.length < 100) (hx : DyV B v x) (hy : DyV B w y) (hL : Le B H) :
    Ev (fun k _ => rn k 23 [v, w, .int .i64 p, .bool away] H) (An B H fun B' v => ResV B' v (divR x y p away).1 (divR x y p away).2) := by
  refine Ev.fn (fun k => f23_eq k _ _ _ _ H) ?_
  have hx' := hx
  have hy' := hy
  obtain ⟨mx, rfl, hrx⟩ := hx
  obtain ⟨my, rfl, hry⟩ := hy
  have hS := St.start hL
  unfold divR
  repeat (first | refine Ev.s ?_ | refine Ev.newC fun _ _ _ => ?_ | refine Ev.boxC fun _ _ _ => ?_ | refine Ev.stC fun _ _ => ?_ | refine Ev.sc (by omega) ?_ | refine Ev.scg (by omega) ?_)
  refine Ev.callD (rdRight_spec (by omega) hx') fun v1 B1 H1 hm1 hS1 e1 => ?_
  subst e1
  repeat (first | refine Ev.s ?_ | refine Ev.newC fun _ _ _ => ?_ | refine Ev.boxC fun _ _ _ => ?_ | refine Ev.stC fun _ _ => ?_ | refine Ev.sc (by omega) ?_ | refine Ev.scg (by omega) ?_)
  refine Ev.callD (rdRight_spec (by omega) (hy'.mono hm1.mo)) fun v2 B2 H2 hm2 hS2 e2 => ?_
  subst e2
  cases rx : rightD x with
  | false =>
    repeat (first | refine Ev.s ?_ | refine Ev.newC fun _ _ _ => ?_ | refine Ev.boxC fun _ _ _ => ?_ | refine Ev.stC fun _ _ => ?_ | refine Ev.sc (by omega) ?_ | refine Ev.scg (by omega) ?_)
    rw [if_neg (by simp)]
    exact Ev.doneC ⟨_, rfl, zeroDyV⟩
  | true =>
    cases ry : rightD y with
    | false =>
      repeat (first | refine Ev.s ?_ | refine Ev.newC fun _ _ _ => ?_ | refine Ev.boxC fun _ _ _ => ?_ | refine Ev.stC fun _ _ => ?_ | refine Ev.sc (by omega) ?_ | refine Ev.scg (by omega) ?_)
      rw [if_neg (by simp)]
      exact Ev.doneC ⟨_, rfl, zeroDyV⟩
    | true =>
      have bx := right_bounds rx
      have bY := right_bounds ry
      repeat (first | refine Ev.s ?_ | refine Ev.newC fun _ _ _ => ?_ | refine Ev.boxC fun _ _ _ => ?_ | refine Ev.stC fun _ _ => ?_ | refine Ev.sc (by omega) ?_ | refine Ev.scg (by omega) ?_)
      refine Ev.callU rprec_spec ?_
      rintro _ rfl
      by_cases hp : 2 ≤ p ∧ p ≤ 400
      · rw [if_pos ⟨rfl, hp⟩, decide_eq_true hp]
        repeat (first | refine Ev.s ?_ | refine Ev.newC fun _ _ _ => ?_ | refine Ev.boxC fun _ _ _ => ?_ | refine Ev.stC fun _ _ => ?_ | refine Ev.sc (by omega) ?_ | refine Ev.scg (by omega) ?_)
        by_cases hy0 : y.mag.length = 0
        · rw [if_pos hy0, decide_eq_true hy0]
          repeat (first | refine Ev.s ?_ | refine Ev.newC fun _ _ _ => ?_ | refine Ev.boxC fun _ _ _ => ?_ | refine Ev.stC fun _ _ => ?_ | refine Ev.sc (by omega) ?_ | refine Ev.scg (by omega) ?_)
          exact Ev.doneC ⟨_, rfl, zeroDyV⟩
        rw [if_neg hy0, decide_eq_false hy0]
        repeat (first | refine Ev.s ?_ | refine Ev.newC fun _ _ _ => ?_ | refine Ev.boxC fun _ _ _ => ?_ | refine Ev.stC fun _ _ => ?_ | refine Ev.sc (by omega) ?_ | refine Ev.scg (by omega) ?_)
        by_cases hx0 : x.mag.length = 0
        · rw [if_pos hx0, decide_eq_true hx0]
          repeat (first | refine Ev.s ?_ | refine Ev.newC fun _ _ _ => ?_ | refine Ev.boxC fun _ _ _ => ?_ | refine Ev.stC fun _ _ => ?_ | refine Ev.sc (by omega) ?_ | refine Ev.scg (by omega) ?_)
          exact Ev.doneC ⟨_, rfl, zeroDyV⟩
        rw [if_neg hx0, decide_eq_false hx0]
        have hnx := nbits_val hrx.sm
        have hny := nbits_val hry.sm
        repeat (first | refine Ev.s ?_ | refine Ev.newC fun _ _ _ => ?_ | refine Ev.boxC fun _ _ _ => ?_ | refine Ev.stC fun _ _ => ?_ | refine Ev.sc (by omega) ?_ | refine Ev.scg (by omega) ?_)
        refine Ev.callD (rBits_spec (xs := y.mag) (by omega)) fun v3 B3 H3 hm3 hS3 h3 => ?_
        subst h3
        repeat (first | refine Ev.s ?_ | refine Ev.newC fun _ _ _ => ?_ | refine Ev.boxC fun _ _ _ => ?_ | refine Ev.stC fun _ _ => ?_ | refine Ev.sc (by omega) ?_ | refine Ev.scg (by omega) ?_)
        refine Ev.callD (rBits_spec (xs := x.mag) (by omega)) fun v4 B4 H4 hm4 hS4 h4 => ?_
        subst h4
        repeat (first | refine Ev.s ?_ | refine Ev.newC fun _ _ _ => ?_ | refine Ev.boxC fun _ _ _ => ?_ | refine Ev.stC fun _ _ => ?_ | refine Ev.sc (by omega) ?_ | refine Ev.scg (by omega) ?_)
        obtain ⟨P, rfl⟩ : ∃ P : Nat, p = (P : Int) := ⟨p.toNat, by omega⟩
        rw [show (if (P : Int) + 2 + (nbits (val y.mag) : Int) - (nbits (val x.mag) : Int) > 0 then (P : Int) + 2 + (nbits (val y.mag) : Int) - (nbits (val x.mag) : Int) else 0) = ((divK x y P : Nat) : Int) by unfold divK; split <;> omega]
        have hK : divK x y P ≤ P + 2 + nbits (val y.mag) := Nat.sub_le _ _
        rw [Int.toNat_natCast]
        have hlim := limbs_length_le (val_lt hrx.sm)
        have hsl := limbs_shl_len (x := val x.mag) (k := divK x y P)
        have hyne : val y.mag ≠ 0 := val_ne (right_limbs ry hry.sm) hy0
        refine Ev.callD (rupMag_spec (xs := x.mag) (n := divK x y P) (by omega) (by omega)) fun v6 B6 H6 hm6 hS6 h6 => ?_
        repeat (first | refine Ev.s ?_ | refine Ev.newC fun _ _ _ => ?_ | refine Ev.boxC fun _ _ _ => ?_ | refine Ev.stC fun _ _ => ?_ | refine Ev.sc (by omega) ?_ | refine Ev.scg (by omega) ?_)
        refine Ev.callD (rDivMod_spec (xs := limbs (val x.mag * 2 ^ divK x y P)) (ys := y.mag) (by omega) (by omega) hyne) fun v7 B7 H7 hm7 hS7 h7 => ?_
        obtain ⟨q, r, rfl, hq, hrem⟩ := h7
        rw [val_limbs] at hq hrem
        have hql := limbs_length_mono (Nat.div_le_self (val x.mag * 2 ^ divK x y P) (val y.mag))
        have hsame : cutD (x.neg != y.neg) (val x.mag * 2 ^ divK x y P / val y.mag) (x.e - y.e - (divK x y P : Nat)) (decide (0 < (limbs (val x.mag * 2 ^ divK x y P % val y.mag)).length)) P (away != (x.neg != y.neg)) = divD x y P away := by
          unfold divD; congr 1; exact decide_eq_decide.mpr (by rw [Nat.pos_iff_ne_zero, ne_eq, List.length_eq_zero_iff, limbs_eq_nil])
        have hfit : Fit (divD x y P away) := cutD_fit (by omega) (by omega)
        repeat (first | refine Ev.s ?_ | refine Ev.newC fun _ _ _ => ?_ | refine Ev.boxC fun _ _ _ => ?_ | refine Ev.stC fun _ _ => ?_ | refine Ev.sc (by omega) ?_ | refine Ev.scg (by omega) ?_)
        refine Ev.callD (rcut_spec (x := val x.mag * 2 ^ divK x y P / val y.mag) (P := P) (by omega) (by omega) (by omega)) fun v9 B9 H9 hm9 hS9 h9 => ?_
        rw [hsame] at h9
        refine Ev.callD (rtold_spec hfit h9) fun v10 B10 H10 hm10 hS10 h10 => ?_
        obtain ⟨o, rfl, mo, rfl, hro⟩ := h10
        repeat (first | refine Ev.s ?_ | refine Ev.newC fun _ _ _ => ?_ | refine Ev.boxC fun _ _ _ => ?_ | refine Ev.stC fun _ _ => ?_ | refine Ev.sc (by omega) ?_ | refine Ev.scg (by omega) ?_)
        exact Ev.doneC ⟨_, rfl, mo, rfl, hro⟩
      · rw [if_neg (fun h => hp h.2), decide_eq_false hp]
        repeat (first | refine Ev.s ?_ | refine Ev.newC fun _ _ _ => ?_ | refine Ev.boxC fun _ _ _ => ?_ | refine Ev.stC fun _ _ => ?_ | refine Ev.sc (by omega) ?_ | refine Ev.scg (by omega) ?_)
        exact Ev.doneC ⟨_, rfl, zeroDyV⟩
theorem rSqrt_dspec {B H : AH} {x : Dy} {v : Value} {p : Int} {away : Bool} (hlx : x.mag.length < 100) (hx : DyV B v x) (hL : Le B H) :
    Ev (fun k _ => rn k 25 [v, .int .i64 p, .bool away] H) (An B H fun B' v => ResV B' v (sqrtR x p away).1 (sqrtR x p away).2) := by
  refine Ev.fn (fun k => f25_eq k _ _ _ H) ?_
  have hx' := hx
  obtain ⟨mx, rfl, hrx⟩ := hx
  have hS := St.start hL
  unfold sqrtR
  repeat (first | refine Ev.s ?_ | refine Ev.newC fun _ _ _ => ?_ | refine Ev.boxC fun _ _ _ => ?_ | refine Ev.stC fun _ _ => ?_ | refine Ev.sc (by omega) ?_ | refine Ev.scg (by omega) ?_)
  refine Ev.callD (rdRight_spec (by omega) hx') fun v1 B1 H1 hm1 hS1 e1 => ?_
  subst e1
  cases hr : rightD x with
  | false =>
    repeat (first | refine Ev.s ?_ | refine Ev.newC fun _ _ _ => ?_ | refine Ev.boxC fun _ _ _ => ?_ | refine Ev.stC fun _ _ => ?_ | refine Ev.sc (by omega) ?_ | refine Ev.scg (by omega) ?_)
    rw [if_neg (fun h => by cases h.1)]
    exact Ev.doneC ⟨_, rfl, zeroDyV⟩
  | true =>
    have bx := right_bounds hr
    repeat (first | refine Ev.s ?_ | refine Ev.newC fun _ _ _ => ?_ | refine Ev.boxC fun _ _ _ => ?_ | refine Ev.stC fun _ _ => ?_ | refine Ev.sc (by omega) ?_ | refine Ev.scg (by omega) ?_)
    refine Ev.callU rprec_spec ?_
    rintro _ rfl
    by_cases hp : 2 ≤ p ∧ p ≤ 400
    · rw [if_pos ⟨rfl, hp⟩, decide_eq_true hp]
      repeat (first | refine Ev.s ?_ | refine Ev.newC fun _ _ _ => ?_ | refine Ev.boxC fun _ _ _ => ?_ | refine Ev.stC fun _ _ => ?_ | refine Ev.sc (by omega) ?_ | refine Ev.scg (by omega) ?_)
      cases hneg : x.neg with
      | true =>
        rw [if_pos rfl]
        rw [hneg] at hS1
        repeat (first | refine Ev.s ?_ | refine Ev.newC fun _ _ _ => ?_ | refine Ev.boxC fun _ _ _ => ?_ | refine Ev.stC fun _ _ => ?_ | refine Ev.sc (by omega) ?_ | refine Ev.scg (by omega) ?_)
        exact Ev.doneC ⟨_, rfl, zeroDyV⟩
      | false =>
        rw [if_neg (by decide)]
        rw [hneg] at hS1
        repeat (first | refine Ev.s ?_ | refine Ev.newC fun _ _ _ => ?_ | refine Ev.boxC fun _ _ _ => ?_ | refine Ev.stC fun _ _ => ?_ | refine Ev.sc (by omega) ?_ | refine Ev.scg (by omega) ?_)
        by_cases hx0 : x.mag.length = 0
        · rw [if_pos hx0, decide_eq_true hx0]
          repeat (first | refine Ev.s ?_ | refine Ev.newC fun _ _ _ => ?_ | refine Ev.boxC fun _ _ _ => ?_ | refine Ev.stC fun _ _ => ?_ | refine Ev.sc (by omega) ?_ | refine Ev.scg (by omega) ?_)
          exact Ev.doneC ⟨_, rfl, zeroDyV⟩
        rw [if_neg hx0, decide_eq_false hx0]
        obtain ⟨P, rfl⟩ : ∃ P : Nat, p = (P : Int) := ⟨p.toNat, by omega⟩
        rw [Int.toNat_natCast]
        have hnx := nbits_val hrx.sm
        repeat (first | refine Ev.s ?_ | refine Ev.newC fun _ _ _ => ?_ | refine Ev.boxC fun _ _ _ => ?_ | refine Ev.stC fun _ _ => ?_ | refine Ev.sc (by omega) ?_ | refine Ev.scg (by omega) ?_)
        refine Ev.callD (rBits_spec (xs := x.mag) (by omega)) fun v4 B4 H4 hm4 hS4 h4 => ?_
        subst h4
        refine Ev.prim (bin_sub64 (by omega)) ?_
        repeat (first | refine Ev.s ?_ | refine Ev.newC fun _ _ _ => ?_ | refine Ev.boxC fun _ _ _ => ?_ | refine Ev.stC fun _ _ => ?_ | refine Ev.sc (by omega) ?_ | refine Ev.scg (by omega) ?_)
        rw [show (if ((2 * P + 4 : Nat) : Int) - (nbits (val x.mag) : Int) > 0 then ((2 * P + 4 : Nat) : Int) - (nbits (val x.mag) : Int) else 0) = ((2 * P + 4 - nbits (val x.mag) : Nat) : Int) by split <;> omega]
        have hrk : rk (nbits (val x.mag)) x.e P ≤ 2 * P + 5 := by unfold rk; omega
        obtain ⟨j, hj⟩ := rk_even (nbits (val x.mag)) x.e P
        obtain ⟨K, hK⟩ : ∃ K, K = rk (nbits (val x.mag)) x.e P := ⟨_, rfl⟩
        have fin : ∀ (b : Nat) (bv : Nat) (B5 H5 : AH), St H B B5 [(b, ⟨[.bool false, .slice none 0 0, .int .i64 0], 26, .fix⟩), (bv, ⟨[.bool false, mx, .int .i64 x.e], 26, .fix⟩)] H5 → RdN B5 mx x.mag →
            Ev (fun k _ => f25_J0 k (i64 P) (.bool away) (ptr bv 0) (ptr b 0) (i64 K) H5) (An B H fun B' v => ResV B' v (toldR 0 (sqrtD x P away)).1 (toldR 0 (sqrtD x P away)).2) := by
          intro b bv B5 H5 hS5 hm5
          refine Ev.eq (fun k _ => f25_J0_eq k _ _ _ _ _ _) ?_
          unfold sqrtD
          rw [← hK] at hrk hj ⊢
          clear hK
          repeat (first | refine Ev.s ?_ | refine Ev.newC fun _ _ _ => ?_ | refine Ev.boxC fun _ _ _ => ?_ | refine Ev.stC fun _ _ => ?_ | refine Ev.sc (by omega) ?_ | refine Ev.scg (by omega) ?_)
          refine Ev.callD (rupMag_spec (xs := x.mag) (n := K) (by omega) (by omega)) fun v6 B6 H6 hm6 hS6 h6 => ?_
          have hlim := limbs_length_le (val_lt hm5.sm)
          have hsl := limbs_shl_len (x := val x.mag) (k := K)
          refine Ev.callD (rSqrt_spec (xs := limbs (val x.mag * 2 ^ K)) (by omega)) fun v7 B7 H7 hm7 hS7 h7 => ?_
          obtain ⟨q, r, s, rfl, hq, hrem, hs1, hs2⟩ := h7
          rw [val_limbs] at hrem hs1 hs2
          rw [isq_eq hs1 hs2]
          repeat (first | refine Ev.s ?_ | refine Ev.newC fun _ _ _ => ?_ | refine Ev.boxC fun _ _ _ => ?_ | refine Ev.stC fun _ _ => ?_ | refine Ev.sc (by omega) ?_ | refine Ev.scg (by omega) ?_)
          rw [hj]
          have eq2 : bin Try.prog .quo 3 (.int .i64 (2 * j)) (.int .i64 2) = some (.int .i64 j) := by
            rw [bin_quo (by decide), show (2 * j).tdiv 2 = j by rw [Int.mul_comm]; exact Int.mul_tdiv_cancel j (by decide), wrap64 (by omega)]
          refine Ev.prim eq2 ?_
          repeat (first | refine Ev.s ?_ | refine Ev.newC fun _ _ _ => ?_ | refine Ev.boxC fun _ _ _ => ?_ | refine Ev.stC fun _ _ => ?_ | refine Ev.sc (by omega) ?_ | refine Ev.scg (by omega) ?_)
          have hsl2 : (limbs s).length ≤ (limbs (val x.mag * 2 ^ K)).length := by
            refine limbs_length_mono ?_
            exact Nat.le_trans (sq_le_self s) hs1
          have hfit : Fit (cutD false s j (decide (0 < (limbs (val x.mag * 2 ^ K - s * s)).length)) P away) := cutD_fit (by omega) (by omega)
          have hsame : cutD false s j (decide (0 < (limbs (val x.mag * 2 ^ K - s * s)).length)) P away = cutD false s (2 * j / 2) (decide (val x.mag * 2 ^ K - s * s ≠ 0)) P away := by
            congr 1
            · omega
            · exact decide_eq_decide.mpr (by rw [Nat.pos_iff_ne_zero, ne_eq, List.length_eq_zero_iff, limbs_eq_nil])
          refine Ev.callD (rcut_spec (neg := false) (x := s) (P := P) (by omega) (by omega) (by omega)) fun v9 B9 H9 hm9 hS9 h9 => ?_
          rw [hsame] at h9 hfit
          generalize cutD false s (2 * j / 2) (decide (val x.mag * 2 ^ K - s * s ≠ 0)) P away = D at *
          refine Ev.callD (rtold_spec hfit h9) fun v10 B10 H10 hm10 hS10 h10 => ?_
          obtain ⟨o, rfl, mo, rfl, hro⟩ := h10
          repeat (first | refine Ev.s ?_ | refine Ev.newC fun _ _ _ => ?_ | refine Ev.boxC fun _ _ _ => ?_ | refine Ev.stC fun _ _ => ?_ | refine Ev.sc (by omega) ?_ | refine Ev.scg (by omega) ?_)
          exact Ev.doneC ⟨_, rfl, mo, rfl, hro⟩
        have hmx4 := (hrx.mono hm1.mo).mono hm4.mo
        repeat (first | refine Ev.s ?_ | refine Ev.newC fun _ _ _ => ?_ | refine Ev.boxC fun _ _ _ => ?_ | refine Ev.stC fun _ _ => ?_ | refine Ev.sc (by omega) ?_ | refine Ev.scg (by omega) ?_)
        refine Ev.prim (bin_rem (by decide)) ?_
        repeat (first | refine Ev.s ?_ | refine Ev.newC fun _ _ _ => ?_ | refine Ev.boxC fun _ _ _ => ?_ | refine Ev.stC fun _ _ => ?_ | refine Ev.sc (by omega) ?_ | refine Ev.scg (by omega) ?_)
        by_cases ho : (x.e - ((2 * P + 4 - nbits (val x.mag) : Nat) : Int)).tmod 2 = 0
        · rw [decide_eq_false (by simpa using ho)]
          repeat (first | refine Ev.s ?_ | refine Ev.newC fun _ _ _ => ?_ | refine Ev.boxC fun _ _ _ => ?_ | refine Ev.stC fun _ _ => ?_ | refine Ev.sc (by omega) ?_ | refine Ev.scg (by omega) ?_)
          have : 2 * P + 4 - nbits (val x.mag) = K := by
            rw [hK]; unfold rk
            rw [← Int.dvd_iff_tmod_eq_zero] at ho
            omega
          rw [this]
          exact fin _ _ B4 H4 hS4 hmx4
        · rw [decide_eq_true ho]
          repeat (first | refine Ev.s ?_ | refine Ev.newC fun _ _ _ => ?_ | refine Ev.boxC fun _ _ _ => ?_ | refine Ev.stC fun _ _ => ?_ | refine Ev.sc (by omega) ?_ | refine Ev.scg (by omega) ?_)
          have : 2 * P + 4 - nbits (val x.mag) + 1 = K := by
            rw [hK]; unfold rk
            rw [← Int.dvd_iff_tmod_eq_zero] at ho
            omega
          rw [this]
          exact fin _ _ B4 H4 hS4 hmx4
    · rw [if_neg (fun h => hp h.2), decide_eq_false hp]
      repeat (first | refine Ev.s ?_ | refine Ev.newC fun _ _ _ => ?_ | refine Ev.boxC fun _ _ _ => ?_ | refine Ev.stC fun _ _ => ?_ | refine Ev.sc (by omega) ?_ | refine Ev.scg (by omega) ?_)
      exact Ev.doneC ⟨_, rfl, zeroDyV⟩
end Go.AM.Y
set_option linter.unusedVariables false
namespace Go.AM
/-- It is so as it stands: M is not even, or it is nought. -/
structure Odd (A e : Int) : Prop where
  z : dz (canon A e) = A
  e : (canon A e).e = e
theorem Odd.of {d : Dy} (h : rightD d = true) (hs : small d.mag) : Odd (dz d) d.e := ⟨by rw [canon_right h hs], by rw [canon_right h hs]⟩
theorem Odd.neg {A e : Int} (h : Odd A e) : (canon A e).neg = decide (A < 0) := canon_neg
theorem Odd.val {A e : Int} (h : Odd A e) : val (canon A e).mag = A.natAbs := by
  have := congrArg Int.natAbs h.z
  unfold dz at this; rwa [sg_abs] at this
theorem Odd.zero : Odd 0 0 := ⟨rfl, rfl⟩
end Go.AM
set_option linter.unusedVariables false
set_option linter.unusedSimpArgs false
set_option maxRecDepth 100000
namespace Go.AM.Y
open Go Go.AM Go.Proofs
attribute [local irreducible] run bin un ld st box newV mkS fldA fld ixA ix slc slc3 build buildS cv cvS ap cpy lenV gOp pickV b2 aIf aChk evalK resume iterD Option.bind

section
variable {B H : AH} {X Y E F : Int} {m m2 : Value}
end
end Go.AM.Y
set_option linter.unusedVariables false
set_option linter.unusedSimpArgs false
set_option maxRecDepth 100000
namespace Go.AM.Y
open Go Go.AM Go.Proofs
attribute [local irreducible] run bin un ld st box newV mkS fldA fld ixA ix slc slc3 build buildS cv cvS ap cpy lenV gOp pickV b2 aIf aChk evalK resume iterD Option.bind

theorem Sqrt_dspec {B H : AH} {x : Dy} {v : Value} {p : Int} {away : Bool} (hlx : x.mag.length < 2000) (hx : DyV B v x) (hL : Le B H) :
    Ev (fun k _ => rn k 24 [v, .int .i64 p, .bool away] H) (An B H fun B' v => ResV B' v (sqrtR x p away).1 (sqrtR x p away).2) := by
  refine Ev.fn (fun k => f24_eq k _ _ _ H) ?_
  obtain ⟨mx, rfl, hrx⟩ := hx
  have hS := St.start hL
  unfold sqrtR
  repeat (first | refine Ev.s ?_ | refine Ev.newC fun _ _ _ => ?_ | refine Ev.boxC fun _ _ _ => ?_ | refine Ev.stC fun _ _ => ?_ | refine Ev.sc (by omega) ?_ | refine Ev.scg (by omega) ?_)
  refine Ev.bsE (by decide) fun bs H2 hS2 => ?_
  cases hr : rightD x with
  | true =>
    have bx := right_bounds hr
    refine Ev.callS (right1_true (xs := x.mag) (by omega) hr) fun v3 B3 H3 hm3 hS3 e3 => ?_
    subst e3
    have hrx := hrx.mono hm3
    repeat (first | refine Ev.s ?_ | refine Ev.newC fun _ _ _ => ?_ | refine Ev.boxC fun _ _ _ => ?_ | refine Ev.stC fun _ _ => ?_ | refine Ev.sc (by omega) ?_ | refine Ev.scg (by omega) ?_)
    by_cases hp : 2 ≤ p ∧ p ≤ 400
    · rw [if_pos ⟨rfl, hp⟩]
      refine Ev.callP (prec_true hp) ?_
      repeat (first | refine Ev.s ?_ | refine Ev.newC fun _ _ _ => ?_ | refine Ev.boxC fun _ _ _ => ?_ | refine Ev.stC fun _ _ => ?_ | refine Ev.sc (by omega) ?_ | refine Ev.scg (by omega) ?_)
      cases hneg : x.neg with
      | true =>
        rw [hneg] at hS3
        repeat (first | refine Ev.s ?_ | refine Ev.newC fun _ _ _ => ?_ | refine Ev.boxC fun _ _ _ => ?_ | refine Ev.stC fun _ _ => ?_ | refine Ev.sc (by omega) ?_ | refine Ev.scg (by omega) ?_)
        refine Ev.callS (must_false (by decide)) fun v5 B5 H5 hm5 hS5 e5 => ?_
        subst e5
        rw [if_pos rfl]
        repeat (first | refine Ev.s ?_ | refine Ev.newC fun _ _ _ => ?_ | refine Ev.boxC fun _ _ _ => ?_ | refine Ev.stC fun _ _ => ?_ | refine Ev.sc (by omega) ?_ | refine Ev.scg (by omega) ?_)
        refine Ev.eq (fun k _ => f24_J0_eq k _ _ _) ?_
        refine Ev.callS (told_spec (xs := []) hS5.drop1 zeroFit RdN.nil) fun v6 B6 H6 hm6 hS6 h6 => ?_
        rw [told_three] at h6
        obtain ⟨o, rfl, mo, rfl, hro⟩ := h6
        repeat (first | refine Ev.s ?_ | refine Ev.newC fun _ _ _ => ?_ | refine Ev.boxC fun _ _ _ => ?_ | refine Ev.stC fun _ _ => ?_ | refine Ev.sc (by omega) ?_ | refine Ev.scg (by omega) ?_)
        exact Ev.doneC ⟨_, rfl, mo, rfl, hro⟩
      | false =>
        rw [hneg] at hS3
        rw [if_neg (by decide)]
        repeat (first | refine Ev.s ?_ | refine Ev.newC fun _ _ _ => ?_ | refine Ev.boxC fun _ _ _ => ?_ | refine Ev.stC fun _ _ => ?_ | refine Ev.sc (by omega) ?_ | refine Ev.scg (by omega) ?_)
        refine Ev.callP must_true ?_
        rw [decide_eq_true rfl]
        repeat (first | refine Ev.s ?_ | refine Ev.newC fun _ _ _ => ?_ | refine Ev.boxC fun _ _ _ => ?_ | refine Ev.stC fun _ _ => ?_ | refine Ev.sc (by omega) ?_ | refine Ev.scg (by omega) ?_)
        refine Ev.callC (dzero_spec (d := ⟨false, x.mag, x.e⟩) ⟨mx, rfl, hrx⟩) fun v5 B5 H5 hm5 hS5 e5 => ?_
        subst e5
        have hrx := hrx.mono hm5
        simp only
        by_cases hx0 : x.mag.length = 0
        · rw [if_pos hx0, decide_eq_true hx0]
          repeat (first | refine Ev.s ?_ | refine Ev.newC fun _ _ _ => ?_ | refine Ev.boxC fun _ _ _ => ?_ | refine Ev.stC fun _ _ => ?_ | refine Ev.sc (by omega) ?_ | refine Ev.scg (by omega) ?_)
          refine Ev.eq (fun k _ => f24_J0_eq k _ _ _) ?_
          refine Ev.callS (told_spec (xs := []) hS5.drop1 zeroFit RdN.nil) fun v6 B6 H6 hm6 hS6 h6 => ?_
          rw [told_zero] at h6
          obtain ⟨o, rfl, mo, rfl, hro⟩ := h6
          repeat (first | refine Ev.s ?_ | refine Ev.newC fun _ _ _ => ?_ | refine Ev.boxC fun _ _ _ => ?_ | refine Ev.stC fun _ _ => ?_ | refine Ev.sc (by omega) ?_ | refine Ev.scg (by omega) ?_)
          exact Ev.doneC ⟨_, rfl, mo, rfl, hro⟩
        rw [if_neg hx0, decide_eq_false hx0]
        obtain ⟨P, rfl⟩ : ∃ P : Nat, p = (P : Int) := ⟨p.toNat, by omega⟩
        rw [Int.toNat_natCast]
        have hnx := nbits_val hrx.sm
        repeat (first | refine Ev.s ?_ | refine Ev.newC fun _ _ _ => ?_ | refine Ev.boxC fun _ _ _ => ?_ | refine Ev.stC fun _ _ => ?_ | refine Ev.sc (by omega) ?_ | refine Ev.scg (by omega) ?_)
        refine Ev.callU (Bits_spec (by omega) hrx (St.lel hS5)) ?_
        rintro _ rfl
        refine Ev.prim (bin_sub64 (by omega)) ?_
        repeat (first | refine Ev.s ?_ | refine Ev.newC fun _ _ _ => ?_ | refine Ev.boxC fun _ _ _ => ?_ | refine Ev.stC fun _ _ => ?_ | refine Ev.sc (by omega) ?_ | refine Ev.scg (by omega) ?_)
        rw [show (if ((2 * P + 4 : Nat) : Int) - (nbits (val x.mag) : Int) > 0 then ((2 * P + 4 : Nat) : Int) - (nbits (val x.mag) : Int) else 0) = ((2 * P + 4 - nbits (val x.mag) : Nat) : Int) by split <;> omega]
        repeat (first | refine Ev.s ?_ | refine Ev.newC fun _ _ _ => ?_ | refine Ev.boxC fun _ _ _ => ?_ | refine Ev.stC fun _ _ => ?_ | refine Ev.sc (by omega) ?_ | refine Ev.scg (by omega) ?_)
        refine Ev.prim (and1 (by omega)) ?_
        repeat (first | refine Ev.s ?_ | refine Ev.newC fun _ _ _ => ?_ | refine Ev.boxC fun _ _ _ => ?_ | refine Ev.stC fun _ _ => ?_ | refine Ev.sc (by omega) ?_ | refine Ev.scg (by omega) ?_)
        rw [show ((2 * P + 4 - nbits (val x.mag) : Nat) : Int) + (x.e - ((2 * P + 4 - nbits (val x.mag) : Nat) : Int)) % 2 = ((rk (nbits (val x.mag)) x.e P : Nat) : Int) by unfold rk; omega]
        have hrk : rk (nbits (val x.mag)) x.e P ≤ 2 * P + 5 := by unfold rk; omega
        obtain ⟨j, hj⟩ := rk_even (nbits (val x.mag)) x.e P
        unfold sqrtD
        generalize rk (nbits (val x.mag)) x.e P = K at *
        repeat (first | refine Ev.s ?_ | refine Ev.newC fun _ _ _ => ?_ | refine Ev.boxC fun _ _ _ => ?_ | refine Ev.stC fun _ _ => ?_ | refine Ev.sc (by omega) ?_ | refine Ev.scg (by omega) ?_)
        refine Ev.callC (up_spec (by omega) (by omega) hrx) fun v6 B6 H6 hm6 hS6 h6 => ?_
        rw [Int.toNat_natCast] at h6
        repeat (first | refine Ev.s ?_ | refine Ev.newC fun _ _ _ => ?_ | refine Ev.boxC fun _ _ _ => ?_ | refine Ev.stC fun _ _ => ?_ | refine Ev.sc (by omega) ?_ | refine Ev.scg (by omega) ?_)
        have hlim := limbs_length_le (val_lt hrx.sm)
        have hsl := limbs_shl_len (x := val x.mag) (k := K)
        have hnb : nbits (val x.mag * 2 ^ K) ≤ nbits (val x.mag) + K := by
          by_cases h0 : val x.mag = 0
          · rw [h0, Nat.zero_mul]; simp [nbits]
          · rw [nbits_mul_pow h0]; omega
        refine Ev.callC (Sqrt_spec h6 (by omega) (by rw [val_limbs]; omega)) fun v7 B7 H7 hm7 hS7 h7 => ?_
        obtain ⟨q, r, s, rfl, hq, hrem, hs1, hs2⟩ := h7
        rw [val_limbs] at hrem hs1 hs2
        rw [isq_eq hs1 hs2]
        repeat (first | refine Ev.s ?_ | refine Ev.newC fun _ _ _ => ?_ | refine Ev.boxC fun _ _ _ => ?_ | refine Ev.stC fun _ _ => ?_ | refine Ev.sc (by omega) ?_ | refine Ev.scg (by omega) ?_)
        rw [hj]
        have eq2 : bin Try.prog .quo 3 (.int .i64 (2 * j)) (.int .i64 2) = some (.int .i64 j) := by
          rw [bin_quo (by decide), show (2 * j).tdiv 2 = j by rw [Int.mul_comm]; exact Int.mul_tdiv_cancel j (by decide), wrap64 (by omega)]
        refine Ev.prim eq2 ?_
        repeat (first | refine Ev.s ?_ | refine Ev.newC fun _ _ _ => ?_ | refine Ev.boxC fun _ _ _ => ?_ | refine Ev.stC fun _ _ => ?_ | refine Ev.sc (by omega) ?_ | refine Ev.scg (by omega) ?_)
        have hS8 := hS7.drop1
        have hsl2 : (limbs s).length ≤ (limbs (val x.mag * 2 ^ K)).length := by
          refine limbs_length_mono ?_
          exact Nat.le_trans (by cases s with | zero => omega | succ s => exact Nat.le_mul_of_pos_left _ (by omega)) hs1
        refine Ev.b2 (cut_spec (neg := false) (P := P) hS8 hq (by omega) (by omega) (by omega)) fun v9 H9 h9 => ?_
        have hfit : Fit (cutD false s j (decide (0 < (limbs (val x.mag * 2 ^ K - s * s)).length)) P away) := cutD_fit (by omega) (by omega)
        have hsame : cutD false s j (decide (0 < (limbs (val x.mag * 2 ^ K - s * s)).length)) P away = cutD false s (2 * j / 2) (decide (val x.mag * 2 ^ K - s * s ≠ 0)) P away := by
          congr 1
          · omega
          · exact decide_eq_decide.mpr (by rw [Nat.pos_iff_ne_zero, ne_eq, List.length_eq_zero_iff, limbs_eq_nil])
        rw [hsame] at h9 hfit
        generalize cutD false s (2 * j / 2) (decide (val x.mag * 2 ^ K - s * s ≠ 0)) P away = D at *
        obtain ⟨B9, m9, e9, hm9, hS9, hr9⟩ := h9
        simp only at e9 hS9
        subst e9
        refine Ev.eq (fun k _ => f24_J0_eq k _ _ _) ?_
        refine Ev.callS (told_spec hS9 hfit hr9) fun v6 B6 H6 hm6 hS6 h6 => ?_
        obtain ⟨o, rfl, mo, rfl, hro⟩ := h6
        repeat (first | refine Ev.s ?_ | refine Ev.newC fun _ _ _ => ?_ | refine Ev.boxC fun _ _ _ => ?_ | refine Ev.stC fun _ _ => ?_ | refine Ev.sc (by omega) ?_ | refine Ev.scg (by omega) ?_)
        exact Ev.doneC ⟨_, rfl, mo, rfl, hro⟩
    · rw [if_neg (fun h => hp h.2)]
      refine Ev.callS (prec_false hp) fun v4 B4 H4 hm4 hS4 e4 => ?_
      subst e4
      repeat (first | refine Ev.s ?_ | refine Ev.newC fun _ _ _ => ?_ | refine Ev.boxC fun _ _ _ => ?_ | refine Ev.stC fun _ _ => ?_ | refine Ev.sc (by omega) ?_ | refine Ev.scg (by omega) ?_)
      refine Ev.eq (fun k _ => f24_J0_eq k _ _ _) ?_
      refine Ev.callS (told_spec (xs := []) hS4.drop1 zeroFit RdN.nil) fun v6 B6 H6 hm6 hS6 h6 => ?_
      rw [told_one] at h6
      obtain ⟨o, rfl, mo, rfl, hro⟩ := h6
      repeat (first | refine Ev.s ?_ | refine Ev.newC fun _ _ _ => ?_ | refine Ev.boxC fun _ _ _ => ?_ | refine Ev.stC fun _ _ => ?_ | refine Ev.sc (by omega) ?_ | refine Ev.scg (by omega) ?_)
      exact Ev.doneC ⟨_, rfl, mo, rfl, hro⟩
  | false =>
    refine Ev.callS (right1_false (xs := x.mag) (by omega) hr) fun v3 B3 H3 hm3 hS3 e3 => ?_
    subst e3
    rw [if_neg (fun h => by cases h.1)]
    repeat (first | refine Ev.s ?_ | refine Ev.newC fun _ _ _ => ?_ | refine Ev.boxC fun _ _ _ => ?_ | refine Ev.stC fun _ _ => ?_ | refine Ev.sc (by omega) ?_ | refine Ev.scg (by omega) ?_)
    refine Ev.eq (fun k _ => f24_J0_eq k _ _ _) ?_
    refine Ev.callS (told_spec (xs := []) hS3.drop1 zeroFit RdN.nil) fun v6 B6 H6 hm6 hS6 h6 => ?_
    rw [told_one] at h6
    obtain ⟨o, rfl, mo, rfl, hro⟩ := h6
    repeat (first | refine Ev.s ?_ | refine Ev.newC fun _ _ _ => ?_ | refine Ev.boxC fun _ _ _ => ?_ | refine Ev.stC fun _ _ => ?_ | refine Ev.sc (by omega) ?_ | refine Ev.scg (by omega) ?_)
    exact Ev.doneC ⟨_, rfl, mo, rfl, hro⟩
end Go.AM.Y
set_option linter.unusedVariables false
set_option linter.unusedSimpArgs false
set_option maxRecDepth 100000
namespace Go.AM.Y
open Go Go.AM Go.Proofs
attribute [local irreducible] run bin un ld st box newV mkS fldA fld ixA ix slc slc3 build buildS cv cvS ap cpy lenV gOp pickV b2 aIf aChk evalK resume iterD Option.bind

section
variable {B H : AH} {X E : Int} {m : Value}
end
end Go.AM.Y
set_option linter.unusedVariables false
set_option linter.unusedSimpArgs false
set_option maxRecDepth 100000
namespace Go.AM.Y
open Go Go.AM Go.Proofs
attribute [local irreducible] run bin un ld st box newV mkS fldA fld ixA ix slc slc3 build buildS cv cvS ap cpy lenV gOp pickV b2 aIf aChk evalK resume iterD Option.bind

section
variable {B H : AH} {x y : Dy} {m m2 : Value} {p : Int} {up : Bool}
theorem round_D [hx : RdT B m x.mag] (hl : x.mag.length < 2900) (hL : Le B H) : Ev (fun k _ => rn k 18 [Dd x m, .int .i64 p, .bool up] H) (An B H fun B' v => ResD B' v (roundR x p up)) :=
  An.imp (Round_dspec (by omega) ⟨m, rfl, hx.rd⟩ hL) fun B' v h => h.d
theorem rround_D [hx : RdT B m x.mag] (hl : x.mag.length < 2900) (hL : Le B H) : Ev (fun k _ => rn k 21 [Dd x m, .int .i64 p, .bool up] H) (An B H fun B' v => ResD B' v (roundR x p up)) :=
  An.imp (rRound_dspec hl ⟨m, rfl, hx.rd⟩ hL) fun B' v h => h.d
theorem div_D [hx : RdT B m x.mag] [hy : RdT B m2 y.mag] (hlx : x.mag.length < 100) (hly : y.mag.length < 100) (hL : Le B H) : Ev (fun k _ => rn k 22 [Dd x m, Dd y m2, .int .i64 p, .bool up] H) (An B H fun B' v => ResD B' v (divR x y p up)) :=
  An.imp (Div_dspec (by omega) (by omega) ⟨m, rfl, hx.rd⟩ ⟨m2, rfl, hy.rd⟩ hL) fun B' v h => h.d
theorem rdiv_D [hx : RdT B m x.mag] [hy : RdT B m2 y.mag] (hlx : x.mag.length < 100) (hly : y.mag.length < 100) (hL : Le B H) : Ev (fun k _ => rn k 23 [Dd x m, Dd y m2, .int .i64 p, .bool up] H) (An B H fun B' v => ResD B' v (divR x y p up)) :=
  An.imp (rDiv_dspec hlx hly ⟨m, rfl, hx.rd⟩ ⟨m2, rfl, hy.rd⟩ hL) fun B' v h => h.d
theorem sqrt_D [hx : RdT B m x.mag] (hl : x.mag.length < 100) (hL : Le B H) : Ev (fun k _ => rn k 24 [Dd x m, .int .i64 p, .bool up] H) (An B H fun B' v => ResD B' v (sqrtR x p up)) :=
  An.imp (Sqrt_dspec (by omega) ⟨m, rfl, hx.rd⟩ hL) fun B' v h => h.d
theorem rsqrt_D [hx : RdT B m x.mag] (hl : x.mag.length < 100) (hL : Le B H) : Ev (fun k _ => rn k 25 [Dd x m, .int .i64 p, .bool up] H) (An B H fun B' v => ResD B' v (sqrtR x p up)) :=
  An.imp (rSqrt_dspec hl ⟨m, rfl, hx.rd⟩ hL) fun B' v h => h.d
end
theorem roundR_len {x : Dy} {p : Int} {up : Bool} (hl : x.mag.length < 100) (hs : small x.mag) : (roundR x p up).1.mag.length < 34359738368 := by
  unfold roundR
  split
  · rename_i h
    have b1 := right_bounds h.1
    have hlim := limbs_length_le (val_lt hs)
    exact (told_fit (cutD_fit (by omega) (by omega))).len
  · simp
theorem divR_len {x y : Dy} {p : Int} {up : Bool} (hlx : x.mag.length < 100) (hly : y.mag.length < 100) (hsx : small x.mag) (hsy : small y.mag) : (divR x y p up).1.mag.length < 34359738368 := by
  unfold divR
  split
  · rename_i h
    rw [Bool.and_eq_true] at h
    have b1 := right_bounds h.1.1
    have b2 := right_bounds h.1.2
    split
    · simp
    · split
      · simp
      · have hny := nbits_val hsy
        have hK : divK x y p.toNat ≤ p.toNat + 2 + nbits (val y.mag) := Nat.sub_le _ _
        have hlim := limbs_length_le (val_lt hsx)
        have hsl := limbs_shl_len (x := val x.mag) (k := divK x y p.toNat)
        have hql := limbs_length_mono (Nat.div_le_self (val x.mag * 2 ^ divK x y p.toNat) (val y.mag))
        exact (told_fit (cutD_fit (by omega) (by omega))).len
  · simp
theorem sqrtR_len {x : Dy} {p : Int} {up : Bool} (hl : x.mag.length < 100) (hs : small x.mag) : (sqrtR x p up).1.mag.length < 34359738368 := by
  unfold sqrtR
  split
  · rename_i h
    have b1 := right_bounds h.1
    split
    · simp
    · split
      · simp
      · unfold sqrtD
        have hrk : rk (nbits (val x.mag)) x.e p.toNat ≤ 2 * p.toNat + 5 := by unfold rk; omega
        generalize rk (nbits (val x.mag)) x.e p.toNat = K at *
        have hlim := limbs_length_le (val_lt hs)
        have hsl := limbs_shl_len (x := val x.mag) (k := K)
        have hq := (isq_spec (val x.mag * 2 ^ K)).1
        have hsl2 : (limbs (isq (val x.mag * 2 ^ K))).length ≤ (limbs (val x.mag * 2 ^ K)).length := limbs_length_mono (Nat.le_trans (sq_le_self _) hq)
        exact (told_fit (cutD_fit (by omega) (by omega))).len
  · simp
theorem rounds_spec {B H : AH} {d e : Dy} {v w : Value} {p : Int} {up : Bool} (hl : d.mag.length < 9223372036854775808) (hl2 : e.mag.length < 9223372036854775808)
    (hx : DyV B v d) (hy : DyV B w e) (hL : Le B H) : Ev (fun k _ => rn k 4 [v, w, .int .i64 p, .bool up] H) (An B H fun _ v => v = .bool true) := by
  refine Ev.fn (fun k => f4_eq k _ _ _ _ H) ?_
  obtain ⟨m1, rfl, hr1⟩ := hx
  obtain ⟨m2, rfl, hr2⟩ := hy
  have hS := St.start hL
  repeat (first | refine Ev.s ?_ | refine Ev.newC fun _ _ _ => ?_ | refine Ev.boxC fun _ _ _ => ?_ | refine Ev.stC fun _ _ => ?_ | refine Ev.sc (by omega) ?_ | refine Ev.scg (by omega) ?_)
  refine Ev.callD examples_spec fun v1 B1 H1 _ hS1 h1 => ?_
  subst h1
  repeat (first | refine Ev.s ?_ | refine Ev.newC fun _ _ _ => ?_ | refine Ev.boxC fun _ _ _ => ?_ | refine Ev.stC fun _ _ => ?_ | refine Ev.sc (by omega) ?_ | refine Ev.scg (by omega) ?_)
  refine Ev.callD (lawcut_D (d := d) (n := 12) (by decide) hl) fun v2 B2 H2 _ hS2 h2 => ?_
  obtain ⟨c1, rfl, hc1⟩ := h2
  have la : (cutT d 12).mag.length ≤ 12 := by show (d.mag.take 12).length ≤ 12; rw [List.length_take]; omega
  generalize cutT d 12 = a at *
  repeat (first | refine Ev.s ?_ | refine Ev.newC fun _ _ _ => ?_ | refine Ev.boxC fun _ _ _ => ?_ | refine Ev.stC fun _ _ => ?_ | refine Ev.sc (by omega) ?_ | refine Ev.scg (by omega) ?_)
  refine Ev.callD (lawcut_D (d := e) (n := 12) (by decide) hl2) fun v3 B3 H3 _ hS3 h3 => ?_
  obtain ⟨c2, rfl, hc2⟩ := h3
  have lb : (cutT e 12).mag.length ≤ 12 := by show (e.mag.take 12).length ≤ 12; rw [List.length_take]; omega
  generalize cutT e 12 = b at *
  repeat (first | refine Ev.s ?_ | refine Ev.newC fun _ _ _ => ?_ | refine Ev.boxC fun _ _ _ => ?_ | refine Ev.stC fun _ _ => ?_ | refine Ev.sc (by omega) ?_ | refine Ev.scg (by omega) ?_)
  have q1 := roundR_len (x := a) (p := p) (up := up) (by omega) hc1.sm
  have q2 := divR_len (x := a) (y := b) (p := p) (up := up) (by omega) (by omega) hc1.sm hc2.sm
  have q3 := sqrtR_len (x := a) (p := p) (up := up) (by omega) hc1.sm
  refine Ev.callD (round_D (x := a) (by omega)) fun v4 B4 H4 _ hS4 h4 => ?_
  obtain ⟨p1, rfl, hp1⟩ := h4
  repeat (first | refine Ev.s ?_ | refine Ev.newC fun _ _ _ => ?_ | refine Ev.boxC fun _ _ _ => ?_ | refine Ev.stC fun _ _ => ?_ | refine Ev.sc (by omega) ?_ | refine Ev.scg (by omega) ?_)
  refine Ev.callD (rround_D (x := a) (by omega)) fun v5 B5 H5 _ hS5 h5 => ?_
  obtain ⟨p2, rfl, hp2⟩ := h5
  generalize roundR a p up = r1 at *
  repeat (first | refine Ev.s ?_ | refine Ev.newC fun _ _ _ => ?_ | refine Ev.boxC fun _ _ _ => ?_ | refine Ev.stC fun _ _ => ?_ | refine Ev.sc (by omega) ?_ | refine Ev.scg (by omega) ?_)
  refine Ev.callD (div_D (x := a) (y := b) (by omega) (by omega)) fun v6 B6 H6 _ hS6 h6 => ?_
  obtain ⟨p3, rfl, hp3⟩ := h6
  repeat (first | refine Ev.s ?_ | refine Ev.newC fun _ _ _ => ?_ | refine Ev.boxC fun _ _ _ => ?_ | refine Ev.stC fun _ _ => ?_ | refine Ev.sc (by omega) ?_ | refine Ev.scg (by omega) ?_)
  refine Ev.callD (rdiv_D (x := a) (y := b) (by omega) (by omega)) fun v7 B7 H7 _ hS7 h7 => ?_
  obtain ⟨p4, rfl, hp4⟩ := h7
  generalize divR a b p up = r2 at *
  repeat (first | refine Ev.s ?_ | refine Ev.newC fun _ _ _ => ?_ | refine Ev.boxC fun _ _ _ => ?_ | refine Ev.stC fun _ _ => ?_ | refine Ev.sc (by omega) ?_ | refine Ev.scg (by omega) ?_)
  refine Ev.callD (sqrt_D (x := a) (by omega)) fun v8 B8 H8 _ hS8 h8 => ?_
  obtain ⟨p5, rfl, hp5⟩ := h8
  repeat (first | refine Ev.s ?_ | refine Ev.newC fun _ _ _ => ?_ | refine Ev.boxC fun _ _ _ => ?_ | refine Ev.stC fun _ _ => ?_ | refine Ev.sc (by omega) ?_ | refine Ev.scg (by omega) ?_)
  refine Ev.callD (rsqrt_D (x := a) (by omega)) fun v9 B9 H9 _ hS9 h9 => ?_
  obtain ⟨p6, rfl, hp6⟩ := h9
  generalize sqrtR a p up = r3 at *
  repeat (first | refine Ev.s ?_ | refine Ev.newC fun _ _ _ => ?_ | refine Ev.boxC fun _ _ _ => ?_ | refine Ev.stC fun _ _ => ?_ | refine Ev.sc (by omega) ?_ | refine Ev.scg (by omega) ?_)
  refine Ev.callD (same_D (x := r1.1) q1) fun v20 B20 H20 _ hS20 h20 => ?_
  subst h20
  repeat (first | refine Ev.s ?_ | refine Ev.newC fun _ _ _ => ?_ | refine Ev.boxC fun _ _ _ => ?_ | refine Ev.stC fun _ _ => ?_ | refine Ev.sc (by omega) ?_ | refine Ev.scg (by omega) ?_)
  refine Ev.callD (same_D (x := r2.1) q2) fun v21 B21 H21 _ hS21 h21 => ?_
  subst h21
  repeat (first | refine Ev.s ?_ | refine Ev.newC fun _ _ _ => ?_ | refine Ev.boxC fun _ _ _ => ?_ | refine Ev.stC fun _ _ => ?_ | refine Ev.sc (by omega) ?_ | refine Ev.scg (by omega) ?_)
  refine Ev.callD (same_D (x := r3.1) q3) fun v22 B22 H22 _ hS22 h22 => ?_
  subst h22
  repeat (first | refine Ev.s ?_ | refine Ev.newC fun _ _ _ => ?_ | refine Ev.boxC fun _ _ _ => ?_ | refine Ev.stC fun _ _ => ?_ | refine Ev.sc (by omega) ?_ | refine Ev.scg (by omega) ?_)
  exact Ev.doneC rfl
theorem coreDyadRounds (H : AH) (vs : List Value) (x : ((Bool × List Int × Unit) × Int × Unit) × ((Bool × List Int × Unit) × Int × Unit) × Int × Bool × Unit) (hK : ∃ v vs', vs = v :: vs' ∧ KvS KDy H x.1 v ∧ ∃ v2 vs2, vs' = v2 :: vs2 ∧ KvS KDy H x.2.1 v2 ∧ ∃ v3 vs3, vs2 = v3 :: vs3 ∧ KvC (Kn.int .i64) H x.2.2.1 v3 ∧ ∃ v4 vs4, vs3 = v4 :: vs4 ∧ KvC Kn.bool H x.2.2.2.1 v4 ∧ vs4 = [])
    (hG : GDy x.1 ∧ GDy x.2.1 ∧ (Lit.int .i64 x.2.2.1).wf = true ∧ True ∧ True) : Ev (fun k _ => rn k 4 vs H) (fun r => r.1 = .bool true) := by
  obtain ⟨v, _, rfl, h1, v2, _, rfl, h2, v3, _, rfl, h3, v4, _, rfl, h4, rfl⟩ := hK
  obtain ⟨g1, g2, g3, g4, _⟩ := hG
  obtain ⟨a1, a2, a3⟩ := dy_open h1 g1
  obtain ⟨b1, b2, b3⟩ := dy_open h2 g2
  have h3 : [v3] = [.int .i64 x.2.2.1] := h3
  cases h3
  have h4 : [v4] = [.bool x.2.2.2.1] := h4
  cases h4
  exact An.tt (rounds_spec a2 b2 a1 b1 ⟨Mo.refl H⟩)
end Go.AM.Y
