/-
  Facts of the abstract evaluator and of the functions that the law reaches, part 2. Conditions: none.
-/
import Derived.Test.YtjhabnaeigipoaaDoorG1ZintBytes
set_option linter.unusedVariables false
set_option linter.unusedSimpArgs false
set_option linter.unnecessarySimpa false
set_option exponentiation.threshold 200000
set_option maxRecDepth 100000
set_option linter.unusedVariables false
set_option linter.unusedSimpArgs false
set_option maxRecDepth 100000
namespace Go.AM.Z
open Go Go.AM Go.Proofs
attribute [local irreducible] run bin un ld st box newV mkS fldA fld ixA ix slc slc3 build buildS cv cvS ap cpy lenV gOp pickV b2 aIf aChk evalK resume iterD Option.bind

theorem or_add {a b i : Nat} (h : a < 2 ^ i) : a ||| b * 2 ^ i = a + b * 2 ^ i := by
  rw [Nat.or_comm, ← Nat.shiftLeft_eq, ← Nat.shiftLeft_add_eq_or_of_lt h, Nat.add_comm]
theorem or_low {o x s : Nat} (ho : o < 2 ^ s) (hs : s < 32) : o ||| x * 2 ^ s % 4294967296 = o + x * 2 ^ s % 4294967296 := by
  have e : x * 2 ^ s % 4294967296 = (x % 2 ^ (32 - s)) * 2 ^ s := by
    rw [show (4294967296 : Nat) = 2 ^ (32 - s) * 2 ^ s by rw [← Nat.pow_add, show 32 - s + s = 32 by omega], Nat.mul_mod_mul_right]
  rw [e, or_add ho]
theorem shl_loop {H0 B0 B : AH} {xs : List Nat} {a : Value} {bo n q s N : Nat} (ha : RdN B a xs) (hn : n = 32 * q + s) (hs : s < 32) (hlen : xs.length < 549755813888) (hq : q < 100000) (hN : N = q + xs.length + 1) :
    ∀ (m i : Nat) (zs : List Nat) (H : AH), i + m = xs.length → zs.length = N → small zs → val (zs.take (q + i + 1)) = 4294967296 ^ q * (val (xs.take i) * 2 ^ s) → zs.getD (q + i) 0 < 2 ^ s →
    St H0 B0 B [(bo, ⟨zs.map u32, 70, .fix⟩)] H →
    Ev (fun k l => f54_L0 k (i64 n) (sl bo 0 N N) a (i64 xs.length) (i64 i) l H)
      (fun o => ∃ zs H, o = (.exit 0, f54_X_L0 (sl bo 0 N N), H) ∧ zs.length = N ∧ small zs ∧ val zs = 4294967296 ^ q * (val xs * 2 ^ s) ∧ St H0 B0 B [(bo, ⟨zs.map u32, 70, .fix⟩)] H) := by
  intro m
  induction m with
  | zero =>
    intro i zs H hi hz hsm hv ho hS
    refine Ev.succ (fun k l => f54_L0_succ k _ _ _ _ _ l H) ?_
    refine Ev.prim lssN ?_
    refine Ev.ifp (fun h => absurd h (by omega)) fun _ => ?_
    refine Ev.ret ⟨zs, H, rfl, hz, hsm, ?_, hS⟩
    have : i = xs.length := by omega
    subst this
    rw [List.take_of_length_le (by omega), List.take_of_length_le (Nat.le_refl _)] at hv
    exact hv
  | succ m ih =>
    intro i zs H hi hz hsm hv ho hS
    refine Ev.succ (fun k l => f54_L0_succ k _ _ _ _ _ l H) ?_
    refine Ev.prim lssN ?_
    refine Ev.ifp (fun _ => ?_) fun h => absurd (by omega) h
    obtain ⟨p, hp1, hp2⟩ := ha.ixN (k := .i64) (i := i) Ew (by omega)
    refine Ev.prim hp1 ?_
    refine Ev.prim (hp2 H hS.le) ?_
    have hx := ha.2.getD i
    generalize hw : xs.getD i 0 = x at *
    refine Ev.prim (toU64 (by omega) Uw Uq) ?_
    refine Ev.prim (by (first | with_reducible exact lssL | with_reducible exact gtrL | with_reducible exact eqlL | with_reducible exact neqL | with_reducible exact leqL | with_reducible exact geqL | with_reducible exact lssN | with_reducible exact gtrN | with_reducible exact eqlN | with_reducible exact neqN | with_reducible exact leqN | with_reducible exact geqN | (with_reducible refine addL ?_; omega) | (with_reducible refine subL ?_; omega) | (with_reducible refine quoL ?_; omega) | (with_reducible refine mulL ?_; omega) | (with_reducible refine lmul ?_; omega) | (with_reducible refine addN ?_; omega) | (with_reducible refine subN ?_; omega) | (with_reducible refine quoN ?_; omega) | (with_reducible refine mulN ?_; omega) | (with_reducible refine addQ ?_; omega) | (with_reducible refine subQ ?_; omega) | (with_reducible refine mulQ ?_; omega) | (with_reducible refine shlQL ?_; omega) | (with_reducible refine shlQ ?_; omega) | (with_reducible refine remL ?_; decide) | (with_reducible refine shrL ?_; decide) | (with_reducible refine remN ?_; omega) | (with_reducible refine toU64 ?_ Uw Uq; omega) | (with_reducible exact toU32 Uq Uw) | exact bin_lss | exact bin_gtr | exact bin_eql | exact bin_neq | exact bin_leq | exact bin_geq | exact lenV_sl Us | exact ext_0 | exact ext_1 | exact ext_2 | exact pick_t | exact pick_f | exact bin_add64 (by omega) | exact bin_sub64 (by omega) | exact un_not | exact cv_int Uq Uw | exact cv_int Uw Uq | exact bin_add | exact bin_sub | exact bin_mul | rfl)) ?_
    rw [show n % 32 = s by omega]
    have hps : 2 ^ s ≤ 2 ^ 31 := Nat.pow_le_pow_right (n := 2) (by decide) (by omega : s ≤ 31)
    rw [show (2 : Nat) ^ 31 = 2147483648 by decide] at hps
    have hxs : x * 2 ^ s ≤ 4294967295 * 2147483648 := Nat.mul_le_mul (by omega) hps
    refine Ev.prim (shlQ ⟨by omega, by omega⟩) ?_
    refine Ev.prim (quoL ⟨by decide, by omega⟩) ?_
    rw [show n / 32 = q by omega]
    refine Ev.prim (addN (by omega)) ?_
    refine Ev.prim (ixA_own Ew (by omega)) ?_
    refine Ev.ldW Ew hS (by (first | exact .head _ | exact .tail _ (.head _) | exact .tail _ (.tail _ (.head _)) | exact .tail _ (.tail _ (.tail _ (.head _))) | exact .tail _ (.tail _ (.tail _ (.tail _ (.head _)))))) (j := q + i) (by omega) (by omega) ?_
    have hoo := hsm.getD (q + i)
    refine Ev.prim (toU32 Uq Uw) ?_
    refine Ev.prim (orW ⟨hoo, Nat.mod_lt _ (by decide)⟩) ?_
    refine Ev.prim (ixA_own Ew (by omega)) ?_
    rw [or_low ho hs]
    generalize ho' : zs.getD (q + i) 0 = o at *
    have hsum : o + x * 2 ^ s % 4294967296 < 4294967296 := by
      rw [← or_low ho hs]; exact Nat.or_lt_two_pow (n := 32) hoo (Nat.mod_lt _ (by decide))
    refine Ev.stW Ew hS (by (first | exact .head _ | exact .tail _ (.head _) | exact .tail _ (.tail _ (.head _)) | exact .tail _ (.tail _ (.tail _ (.head _))) | exact .tail _ (.tail _ (.tail _ (.tail _ (.head _)))))) (j := q + i) (by omega) (by omega) rfl (by simp) (.head _) fun H1 hS1 => ?_
    refine Ev.prim (quoL ⟨by decide, by omega⟩) ?_
    rw [show n / 32 = q by omega]
    refine Ev.prim (addN (by omega)) ?_
    refine Ev.prim (addL (by omega)) ?_
    refine Ev.prim (shrL (by decide)) ?_
    refine Ev.prim (toU32 Uq Uw) ?_
    have hdv : x * 2 ^ s / 2 ^ 32 < 2 ^ s := Nat.div_lt_of_lt_mul (Nat.mul_lt_mul_of_lt_of_le hx (Nat.le_refl _) (Nat.pow_pos (by decide)))
    rw [Nat.mod_eq_of_lt (show x * 2 ^ s / 2 ^ 32 < 4294967296 by omega)]
    refine Ev.prim (ixA_own Ew (by omega)) ?_
    refine Ev.stW Ew hS1 (by (first | exact .head _ | exact .tail _ (.head _) | exact .tail _ (.tail _ (.head _)) | exact .tail _ (.tail _ (.tail _ (.head _))) | exact .tail _ (.tail _ (.tail _ (.tail _ (.head _)))))) (j := q + i + 1) (by simp; omega) (by omega) rfl (by simp) (.head _) fun H2 hS2 => ?_
    refine Ev.prim (addL (by omega)) ?_
    refine ih (i + 1) _ H2 (by omega) (by simp [hz]) ((hsm.set _ hsum).set _ (by omega)) ?_ ?_ hS2
    · rw [show q + (i + 1) + 1 = q + i + 1 + 1 by omega, val_take_set (by simp; omega), val_take_set (by omega), val_take_succ' xs, hw]
      rw [val_take_succ', ho'] at hv
      have e : o + x * 2 ^ s % 4294967296 + 4294967296 * (x * 2 ^ s / 2 ^ 32) = o + x * 2 ^ s := by omega
      generalize x * 2 ^ s % 4294967296 = w1 at *
      generalize x * 2 ^ s / 2 ^ 32 = w2 at *
      have e2 := congrArg (4294967296 ^ (q + i) * ·) e
      simp only [Nat.mul_add] at e2
      rw [Nat.pow_succ, Nat.mul_assoc, Nat.add_mul, Nat.mul_add (4294967296 ^ q), ← hv, Nat.mul_assoc (4294967296 ^ i), ← Nat.mul_assoc (4294967296 ^ q) (4294967296 ^ i), ← Nat.pow_add, Nat.mul_add]
      omega
    · rw [show q + (i + 1) = q + i + 1 by omega, getD_set_self (by simp; omega)]; exact hdv
theorem Shl_spec {B H : AH} {xs : List Nat} {a : Value} {n : Nat} (ha : RdN B a xs) (hm : xs.length < 137438953472) (hn : n ≤ 100000) (hL : Le B H) :
    Ev (fun k _ => rn k 54 [a, i64 n] H) (An B H fun B' v => ∃ w, v = .tuple #[w, .bool true] ∧ RdN B' w (limbs (val xs * 2 ^ n))) := by
  refine Ev.fn (fun k => f54_eq k _ _ H) ?_
  have hx := limbs_length_le (val_lt ha.2)
  refine Ev.prim lssL ?_
  rw [show decide (n < 0) = false from decide_eq_false (by omega)]
  repeat (first | refine Ev.some2 ?_ | refine Ev.some1 ?_ | refine Ev.gDo ?_ | refine Ev.gSkipT ?_ | refine Ev.gSkipF ?_ | refine Ev.gUndef ?_ | refine Ev.gCall ?_ | refine Ev.tt ?_ | refine Ev.ff ?_ | refine Ev.gPrim (by (first | with_reducible exact lssL | with_reducible exact gtrL | with_reducible exact eqlL | with_reducible exact neqL | with_reducible exact leqL | with_reducible exact geqL | with_reducible exact lssN | with_reducible exact gtrN | with_reducible exact eqlN | with_reducible exact neqN | with_reducible exact leqN | with_reducible exact geqN | (with_reducible refine addL ?_; omega) | (with_reducible refine subL ?_; omega) | (with_reducible refine quoL ?_; omega) | (with_reducible refine mulL ?_; omega) | (with_reducible refine lmul ?_; omega) | (with_reducible refine addN ?_; omega) | (with_reducible refine subN ?_; omega) | (with_reducible refine quoN ?_; omega) | (with_reducible refine mulN ?_; omega) | (with_reducible refine addQ ?_; omega) | (with_reducible refine subQ ?_; omega) | (with_reducible refine mulQ ?_; omega) | (with_reducible refine shlQL ?_; omega) | (with_reducible refine shlQ ?_; omega) | (with_reducible refine remL ?_; decide) | (with_reducible refine shrL ?_; decide) | (with_reducible refine remN ?_; omega) | (with_reducible refine toU64 ?_ Uw Uq; omega) | (with_reducible exact toU32 Uq Uw) | exact bin_lss | exact bin_gtr | exact bin_eql | exact bin_neq | exact bin_leq | exact bin_geq | exact lenV_sl Us | exact ext_0 | exact ext_1 | exact ext_2 | exact pick_t | exact pick_f | exact bin_add64 (by omega) | exact bin_sub64 (by omega) | exact un_not | exact cv_int Uq Uw | exact cv_int Uw Uq | exact bin_add | exact bin_sub | exact bin_mul | rfl)) rfl ?_ | refine Ev.prim (by (first | with_reducible exact lssL | with_reducible exact gtrL | with_reducible exact eqlL | with_reducible exact neqL | with_reducible exact leqL | with_reducible exact geqL | with_reducible exact lssN | with_reducible exact gtrN | with_reducible exact eqlN | with_reducible exact neqN | with_reducible exact leqN | with_reducible exact geqN | (with_reducible refine addL ?_; omega) | (with_reducible refine subL ?_; omega) | (with_reducible refine quoL ?_; omega) | (with_reducible refine mulL ?_; omega) | (with_reducible refine lmul ?_; omega) | (with_reducible refine addN ?_; omega) | (with_reducible refine subN ?_; omega) | (with_reducible refine quoN ?_; omega) | (with_reducible refine mulN ?_; omega) | (with_reducible refine addQ ?_; omega) | (with_reducible refine subQ ?_; omega) | (with_reducible refine mulQ ?_; omega) | (with_reducible refine shlQL ?_; omega) | (with_reducible refine shlQ ?_; omega) | (with_reducible refine remL ?_; decide) | (with_reducible refine shrL ?_; decide) | (with_reducible refine remN ?_; omega) | (with_reducible refine toU64 ?_ Uw Uq; omega) | (with_reducible exact toU32 Uq Uw) | exact bin_lss | exact bin_gtr | exact bin_eql | exact bin_neq | exact bin_leq | exact bin_geq | exact lenV_sl Us | exact ext_0 | exact ext_1 | exact ext_2 | exact pick_t | exact pick_f | exact bin_add64 (by omega) | exact bin_sub64 (by omega) | exact un_not | exact cv_int Uq Uw | exact cv_int Uw Uq | exact bin_add | exact bin_sub | exact bin_mul | rfl)) ?_)
  rw [show decide (100000 < n) = false from decide_eq_false (by omega)]
  repeat (first | refine Ev.some2 ?_ | refine Ev.some1 ?_ | refine Ev.gDo ?_ | refine Ev.gSkipT ?_ | refine Ev.gSkipF ?_ | refine Ev.gUndef ?_ | refine Ev.gCall ?_ | refine Ev.tt ?_ | refine Ev.ff ?_ | refine Ev.gPrim (by (first | with_reducible exact lssL | with_reducible exact gtrL | with_reducible exact eqlL | with_reducible exact neqL | with_reducible exact leqL | with_reducible exact geqL | with_reducible exact lssN | with_reducible exact gtrN | with_reducible exact eqlN | with_reducible exact neqN | with_reducible exact leqN | with_reducible exact geqN | (with_reducible refine addL ?_; omega) | (with_reducible refine subL ?_; omega) | (with_reducible refine quoL ?_; omega) | (with_reducible refine mulL ?_; omega) | (with_reducible refine lmul ?_; omega) | (with_reducible refine addN ?_; omega) | (with_reducible refine subN ?_; omega) | (with_reducible refine quoN ?_; omega) | (with_reducible refine mulN ?_; omega) | (with_reducible refine addQ ?_; omega) | (with_reducible refine subQ ?_; omega) | (with_reducible refine mulQ ?_; omega) | (with_reducible refine shlQL ?_; omega) | (with_reducible refine shlQ ?_; omega) | (with_reducible refine remL ?_; decide) | (with_reducible refine shrL ?_; decide) | (with_reducible refine remN ?_; omega) | (with_reducible refine toU64 ?_ Uw Uq; omega) | (with_reducible exact toU32 Uq Uw) | exact bin_lss | exact bin_gtr | exact bin_eql | exact bin_neq | exact bin_leq | exact bin_geq | exact lenV_sl Us | exact ext_0 | exact ext_1 | exact ext_2 | exact pick_t | exact pick_f | exact bin_add64 (by omega) | exact bin_sub64 (by omega) | exact un_not | exact cv_int Uq Uw | exact cv_int Uw Uq | exact bin_add | exact bin_sub | exact bin_mul | rfl)) rfl ?_ | refine Ev.prim (by (first | with_reducible exact lssL | with_reducible exact gtrL | with_reducible exact eqlL | with_reducible exact neqL | with_reducible exact leqL | with_reducible exact geqL | with_reducible exact lssN | with_reducible exact gtrN | with_reducible exact eqlN | with_reducible exact neqN | with_reducible exact leqN | with_reducible exact geqN | (with_reducible refine addL ?_; omega) | (with_reducible refine subL ?_; omega) | (with_reducible refine quoL ?_; omega) | (with_reducible refine mulL ?_; omega) | (with_reducible refine lmul ?_; omega) | (with_reducible refine addN ?_; omega) | (with_reducible refine subN ?_; omega) | (with_reducible refine quoN ?_; omega) | (with_reducible refine mulN ?_; omega) | (with_reducible refine addQ ?_; omega) | (with_reducible refine subQ ?_; omega) | (with_reducible refine mulQ ?_; omega) | (with_reducible refine shlQL ?_; omega) | (with_reducible refine shlQ ?_; omega) | (with_reducible refine remL ?_; decide) | (with_reducible refine shrL ?_; decide) | (with_reducible refine remN ?_; omega) | (with_reducible refine toU64 ?_ Uw Uq; omega) | (with_reducible exact toU32 Uq Uw) | exact bin_lss | exact bin_gtr | exact bin_eql | exact bin_neq | exact bin_leq | exact bin_geq | exact lenV_sl Us | exact ext_0 | exact ext_1 | exact ext_2 | exact pick_t | exact pick_f | exact bin_add64 (by omega) | exact bin_sub64 (by omega) | exact un_not | exact cv_int Uq Uw | exact cv_int Uw Uq | exact bin_add | exact bin_sub | exact bin_mul | rfl)) ?_)
  refine Ev.callU (trim_pure (by omega) ha hL) fun a ha => ?_
  generalize val xs = x at *
  refine Ev.prim (quoL ⟨by decide, by omega⟩) ?_
  refine Ev.prim (ha.lenN Ew) ?_
  refine Ev.prim (addN (by omega)) ?_
  refine Ev.prim (addL (by omega)) ?_
  refine Ev.mkS Ew (St.start hL) (by omega) (by omega) fun bo B1 H1 hm1 hS1 => ?_
  rw [map_replicate] at hS1
  refine Ev.prim (ha.lenN Ew) ?_
  refine Ev.bind (Ev.loop (shl_loop (ha.mono hm1) (n := n) (q := n / 32) (s := n % 32) (by omega) (by omega) (by omega) (by omega) rfl (limbs x).length 0 (List.replicate (n / 32 + (limbs x).length + 1) 0) H1 (by omega) (by simp) (small_replicate _) (by simp [val, val_replicate]) (by rw [getD_zeros]; exact Nat.pow_pos (by decide)) hS1)) ?_
  rintro _ ⟨zs, H2, rfl, hz, hsm, hv, hS2⟩
  refine Ev.eq (fun k _ => f54_A0_x0 k _ H2) ?_
  rw [val_limbs] at hv
  obtain ⟨B4, hm4, hr4, hS4⟩ := hS2.freezeN (n := n / 32 + (limbs x).length + 1) (cap := n / 32 + (limbs x).length + 1) hsm hz.symm (by omega)
  refine Ev.call hS4 (trim_spec (by omega) hr4) fun v B5 H5 hm5 hS5 h5 => ?_
  refine Ev.done hS5 ⟨v, rfl, ?_⟩
  rw [hv, show (4294967296 : Nat) = 2 ^ 32 by decide, ← Nat.pow_mul, Nat.mul_left_comm, ← Nat.pow_add, show 32 * (n / 32) + n % 32 = n by omega] at h5
  exact h5
end Go.AM.Z
set_option linter.unusedVariables false
set_option linter.unusedSimpArgs false
set_option maxRecDepth 100000
namespace Go.AM.Z
open Go Go.AM Go.Proofs
attribute [local irreducible] run bin un ld st box newV mkS fldA fld ixA ix slc slc3 build buildS cv cvS ap cpy lenV gOp pickV b2 aIf aChk evalK resume iterD Option.bind

theorem shr_digit {l : List Nat} (hl : small l) {s i : Nat} (hs : s < 32) : (l.getD i 0 + l.getD (i + 1) 0 * 2 ^ 32) / 2 ^ s % 4294967296 = val l / 2 ^ s / 4294967296 ^ i % 4294967296 := by
  rw [Nat.div_div_eq_div_mul (val l), Nat.mul_comm (2 ^ s) (4294967296 ^ i), ← Nat.div_div_eq_div_mul, (val_div_mod hl i).1]
  have h1 : val (l.drop i) = l.getD i 0 + l.getD (i + 1) 0 * 2 ^ 32 + 2 ^ s * (2 ^ (32 - s) * (4294967296 * val (l.drop (i + 2)))) := by
    rw [← Nat.mul_assoc (2 ^ s), ← Nat.pow_add, show s + (32 - s) = 32 by omega]
    have e := val_drop (l.drop i) 2
    rw [List.drop_drop, val_take_succ', val_take_succ', List.take_zero, val, List.getD_eq_getElem?_getD, List.getD_eq_getElem?_getD, List.getElem?_drop, List.getElem?_drop, ← List.getD_eq_getElem?_getD, ← List.getD_eq_getElem?_getD] at e
    rw [e]; simp only [Nat.add_zero]; omega
  rw [h1, Nat.add_mul_div_left _ _ (Nat.pow_pos (by decide)), Nat.mul_left_comm (2 ^ (32 - s)), Nat.add_mul_mod_self_left]
theorem shr_loop {H0 B0 B : AH} {xs : List Nat} {a : Value} {bo n s : Nat} (ha : RdN B a xs) (hs : s < 32) (hn : n % 32 = s) (hn' : n < 9223372036854775808) (hlen : xs.length < 549755813888) :
    ∀ (m i : Nat) (zs : List Nat) (H : AH), i + m = xs.length → zs.length = xs.length → small zs → val (zs.take i) = val xs / 2 ^ s % 4294967296 ^ i →
    St H0 B0 B [(bo, ⟨zs.map u32, 70, .fix⟩)] H →
    Ev (fun k l => f55_L0 k a (i64 n) (sl bo 0 xs.length xs.length) (i64 xs.length) (i64 i) l H)
      (fun o => ∃ zs H, o = (.exit 0, f55_X_L0 (sl bo 0 xs.length xs.length), H) ∧ zs.length = xs.length ∧ small zs ∧ val zs = val xs / 2 ^ s ∧ St H0 B0 B [(bo, ⟨zs.map u32, 70, .fix⟩)] H) := by
  intro m
  induction m with
  | zero =>
    intro i zs H hi hz hsm hv hS
    refine Ev.succ (fun k l => f55_L0_succ k _ _ _ _ _ l H) ?_
    refine Ev.prim lssN ?_
    refine Ev.ifp (fun h => absurd h (by omega)) fun _ => ?_
    refine Ev.ret ⟨zs, H, rfl, hz, hsm, ?_, hS⟩
    have : i = xs.length := by omega
    subst this
    rw [List.take_of_length_le (by omega), Nat.mod_eq_of_lt (Nat.lt_of_le_of_lt (Nat.div_le_self ..) (val_lt ha.2))] at hv
    exact hv
  | succ m ih =>
    intro i zs H hi hz hsm hv hS
    refine Ev.succ (fun k l => f55_L0_succ k _ _ _ _ _ l H) ?_
    refine Ev.prim lssN ?_
    refine Ev.ifp (fun _ => ?_) fun h => absurd (by omega) h
    have hJ : ∀ w, w = xs.getD i 0 + xs.getD (i + 1) 0 * 2 ^ 32 → Ev (fun k l => f55_J0 k l a (i64 n) (sl bo 0 xs.length xs.length) (i64 i) (u64 w) (i64 xs.length) (i64 i) H)
      (fun o => ∃ zs H, o = (.exit 0, f55_X_L0 (sl bo 0 xs.length xs.length), H) ∧ zs.length = xs.length ∧ small zs ∧ val zs = val xs / 2 ^ s ∧ St H0 B0 B [(bo, ⟨zs.map u32, 70, .fix⟩)] H) := by
      intro w hw
      refine Ev.eq (fun k l => f55_J0_eq k l _ _ _ _ _ _ _ H) ?_
      refine Ev.prim (remL (by decide)) ?_
      rw [hn]
      refine Ev.prim (shrN (by show s < 64; omega)) ?_
      refine Ev.prim (toU32 Uq Uw) ?_
      refine Ev.prim (ixA_own Ew (by omega)) ?_
      refine Ev.stW Ew hS (by (first | exact .head _ | exact .tail _ (.head _) | exact .tail _ (.tail _ (.head _)) | exact .tail _ (.tail _ (.tail _ (.head _))) | exact .tail _ (.tail _ (.tail _ (.tail _ (.head _)))))) (j := i) (by omega) (by omega) rfl (by simp) (.head _) fun H1 hS1 => ?_
      refine Ev.prim (addL (by omega)) ?_
      refine ih (i + 1) _ H1 (by omega) (by simp [hz]) (hsm.set _ (Nat.mod_lt _ (by decide))) ?_ hS1
      rw [val_take_set (by omega), hw, shr_digit ha.2 hs, hv, ← Nat.mod_pow_succ]
    obtain ⟨p, hp1, hp2⟩ := ha.ixN (k := .i64) (i := i) Ew (by omega)
    refine Ev.prim hp1 ?_
    refine Ev.prim (hp2 H hS.le) ?_
    have hx := ha.2.getD i
    have hx1 := ha.2.getD (i + 1)
    refine Ev.prim (toU64 (by omega) Uw Uq) ?_
    refine Ev.prim (addL (by omega)) ?_
    refine Ev.prim (ha.lenN Ew) ?_
    refine Ev.prim lssN ?_
    refine Ev.ifp (fun h => ?_) fun h => ?_
    · refine Ev.prim (addL (by omega)) ?_
      obtain ⟨q, hq1, hq2⟩ := ha.ixN (k := .i64) (i := i + 1) Ew (by omega)
      refine Ev.prim hq1 ?_
      refine Ev.prim (hq2 H hS.le) ?_
      refine Ev.prim (toU64 (by omega) Uw Uq) ?_
      refine Ev.prim (shlQL ⟨by decide, by omega⟩) ?_
      refine Ev.prim (orQ ⟨by omega, by omega⟩) ?_
      exact hJ _ (by rw [or_add (by omega)])
    · exact hJ _ (by rw [show xs.getD (i + 1) 0 = 0 by rw [List.getD_eq_getElem?_getD, List.getElem?_eq_none (by omega)]; rfl]; omega)
theorem Shr_spec {B H : AH} {xs : List Nat} {a : Value} {n : Nat} (ha : RdN B a xs) (hm : xs.length < 137438953472) (hn : n < 9223372036854775808) (hL : Le B H) :
    Ev (fun k _ => rn k 55 [a, i64 n] H) (An B H fun B' v => RdN B' v (limbs (val xs / 2 ^ n))) := by
  refine Ev.fn (fun k => f55_eq k _ _ H) ?_
  have hx := limbs_length_le (val_lt ha.2)
  refine Ev.callU (trim_pure (by omega) ha hL) fun a ha => ?_
  generalize val xs = x at *
  have hS := St.start hL
  refine Ev.prim lssL ?_
  refine Ev.ifp (fun h => absurd h (by omega)) fun _ => ?_
  refine Ev.prim (quoL ⟨by decide, by omega⟩) ?_
  refine Ev.prim (ha.lenN Ew) ?_
  refine Ev.prim geqN ?_
  have hpow : 2 ^ n = 4294967296 ^ (n / 32) * 2 ^ (n % 32) := by
    rw [show (4294967296 : Nat) = 2 ^ 32 by decide, ← Nat.pow_mul, ← Nat.pow_add, Nat.div_add_mod]
  refine Ev.ifp (fun h => ?_) fun h => ?_
  · refine Ev.done hS ?_
    have h1 := val_lt (small_limbs x)
    rw [val_limbs] at h1
    have h2 : x < 4294967296 ^ (n / 32) := Nat.lt_of_lt_of_le h1 (Nat.pow_le_pow_right (by decide) h)
    rw [hpow, ← Nat.div_div_eq_div_mul, Nat.div_eq_of_lt h2, Nat.zero_div, limbs_zero]
    exact RdN.nil
  · refine Ev.prim (quoL ⟨by decide, by omega⟩) ?_
    obtain ⟨a2, hp1, ha2⟩ := ha.fromN (k := .i64) (i := n / 32) Ew (by omega)
    refine Ev.prim hp1 ?_
    have hl : ((limbs x).drop (n / 32)).length ≤ (limbs x).length := by rw [List.length_drop]; omega
    have hval : val ((limbs x).drop (n / 32)) / 2 ^ (n % 32) = x / 2 ^ n := by
      rw [← (val_div_mod (small_limbs x) (n / 32)).1, val_limbs, hpow, Nat.div_div_eq_div_mul]
    generalize (limbs x).drop (n / 32) = l at *
    refine Ev.prim (ha2.lenN Ew) ?_
    refine Ev.mkS Ew hS (by omega) (by omega) fun bo B1 H1 hm1 hS1 => ?_
    rw [map_replicate] at hS1
    refine Ev.prim (ha2.lenN Ew) ?_
    refine Ev.bind (Ev.loop (shr_loop (ha2.mono hm1) (n := n) (s := n % 32) (by omega) rfl hn (by omega) l.length 0 (List.replicate l.length 0) H1 (by omega) (by simp) (small_replicate _) (by simp [val, Nat.mod_one]) hS1)) ?_
    rintro _ ⟨zs, H2, rfl, hz, hsm, hv, hS2⟩
    refine Ev.eq (fun k _ => f55_A0_x0 k _ H2) ?_
    obtain ⟨B4, hm4, hr4, hS4⟩ := hS2.freezeN (n := l.length) (cap := l.length) hsm hz.symm (by omega)
    refine Ev.call hS4 (trim_spec (by omega) hr4) fun v B5 H5 hm5 hS5 h5 => ?_
    refine Ev.done hS5 ?_
    rw [hv, hval] at h5
    exact h5
end Go.AM.Z
set_option linter.unusedVariables false
set_option linter.unusedSimpArgs false
set_option maxRecDepth 100000
namespace Go.AM.Z
open Go Go.AM Go.Proofs
attribute [local irreducible] run bin un ld st box newV mkS fldA fld ixA ix slc slc3 build buildS cv cvS ap cpy lenV gOp pickV b2 aIf aChk evalK resume iterD Option.bind

theorem LZ_spec {H : AH} {x : Nat} (hx : x < 4294967296) : Ev (fun k _ => rn k 89 [u32 x] H) (Pu H fun v => v = i64 (32 - nbits x)) := by
  refine Ev.fn (fun k => f89_eq k _ H) ?_
  refine Ev.callU (Len32_spec hx) ?_
  rintro _ rfl
  have h : nbits x ≤ 32 := nbits_le.mpr hx
  refine Ev.prim (subN (a := 32) ⟨h, by decide⟩) ?_
  exact Ev.doneU rfl
theorem Div32_spec {H : AH} {r x d : Nat} (hr : r < d) (hx : x < 4294967296) (hd : d < 4294967296) : Ev (fun k _ => rn k 88 [u32 r, u32 x, u32 d] H)
    (fun o => o = (.tuple #[u32 ((r * 4294967296 + x) / d), u32 ((r * 4294967296 + x) % d)], H)) := by
  refine Ev.fn (fun k => f88_eq k _ _ _ H) ?_
  refine Ev.prim neqL ?_
  rw [show decide (d ≠ 0) = true from decide_eq_true (by omega)]
  repeat (first | refine Ev.some2 ?_ | refine Ev.some1 ?_ | refine Ev.gDo ?_ | refine Ev.gSkipT ?_ | refine Ev.gSkipF ?_ | refine Ev.gUndef ?_ | refine Ev.gCall ?_ | refine Ev.tt ?_ | refine Ev.ff ?_ | refine Ev.gPrim (by (first | with_reducible exact lssL | with_reducible exact gtrL | with_reducible exact eqlL | with_reducible exact neqL | with_reducible exact leqL | with_reducible exact geqL | with_reducible exact lssN | with_reducible exact gtrN | with_reducible exact eqlN | with_reducible exact neqN | with_reducible exact leqN | with_reducible exact geqN | (with_reducible refine addL ?_; omega) | (with_reducible refine subL ?_; omega) | (with_reducible refine quoL ?_; omega) | (with_reducible refine mulL ?_; omega) | (with_reducible refine lmul ?_; omega) | (with_reducible refine addN ?_; omega) | (with_reducible refine subN ?_; omega) | (with_reducible refine quoN ?_; omega) | (with_reducible refine mulN ?_; omega) | (with_reducible refine addQ ?_; omega) | (with_reducible refine subQ ?_; omega) | (with_reducible refine mulQ ?_; omega) | (with_reducible refine shlQL ?_; omega) | (with_reducible refine shlQ ?_; omega) | (with_reducible refine remL ?_; decide) | (with_reducible refine shrL ?_; decide) | (with_reducible refine remN ?_; omega) | (with_reducible refine toU64 ?_ Uw Uq; omega) | (with_reducible exact toU32 Uq Uw) | exact bin_lss | exact bin_gtr | exact bin_eql | exact bin_neq | exact bin_leq | exact bin_geq | exact lenV_sl Us | exact ext_0 | exact ext_1 | exact ext_2 | exact pick_t | exact pick_f | exact bin_add64 (by omega) | exact bin_sub64 (by omega) | exact un_not | exact cv_int Uq Uw | exact cv_int Uw Uq | exact bin_add | exact bin_sub | exact bin_mul | rfl)) rfl ?_ | refine Ev.prim (by (first | with_reducible exact lssL | with_reducible exact gtrL | with_reducible exact eqlL | with_reducible exact neqL | with_reducible exact leqL | with_reducible exact geqL | with_reducible exact lssN | with_reducible exact gtrN | with_reducible exact eqlN | with_reducible exact neqN | with_reducible exact leqN | with_reducible exact geqN | (with_reducible refine addL ?_; omega) | (with_reducible refine subL ?_; omega) | (with_reducible refine quoL ?_; omega) | (with_reducible refine mulL ?_; omega) | (with_reducible refine lmul ?_; omega) | (with_reducible refine addN ?_; omega) | (with_reducible refine subN ?_; omega) | (with_reducible refine quoN ?_; omega) | (with_reducible refine mulN ?_; omega) | (with_reducible refine addQ ?_; omega) | (with_reducible refine subQ ?_; omega) | (with_reducible refine mulQ ?_; omega) | (with_reducible refine shlQL ?_; omega) | (with_reducible refine shlQ ?_; omega) | (with_reducible refine remL ?_; decide) | (with_reducible refine shrL ?_; decide) | (with_reducible refine remN ?_; omega) | (with_reducible refine toU64 ?_ Uw Uq; omega) | (with_reducible exact toU32 Uq Uw) | exact bin_lss | exact bin_gtr | exact bin_eql | exact bin_neq | exact bin_leq | exact bin_geq | exact lenV_sl Us | exact ext_0 | exact ext_1 | exact ext_2 | exact pick_t | exact pick_f | exact bin_add64 (by omega) | exact bin_sub64 (by omega) | exact un_not | exact cv_int Uq Uw | exact cv_int Uw Uq | exact bin_add | exact bin_sub | exact bin_mul | rfl)) ?_)
  rw [show decide (d ≤ r) = false from decide_eq_false (by omega)]
  repeat (first | refine Ev.some2 ?_ | refine Ev.some1 ?_ | refine Ev.gDo ?_ | refine Ev.gSkipT ?_ | refine Ev.gSkipF ?_ | refine Ev.gUndef ?_ | refine Ev.gCall ?_ | refine Ev.tt ?_ | refine Ev.ff ?_ | refine Ev.gPrim (by (first | with_reducible exact lssL | with_reducible exact gtrL | with_reducible exact eqlL | with_reducible exact neqL | with_reducible exact leqL | with_reducible exact geqL | with_reducible exact lssN | with_reducible exact gtrN | with_reducible exact eqlN | with_reducible exact neqN | with_reducible exact leqN | with_reducible exact geqN | (with_reducible refine addL ?_; omega) | (with_reducible refine subL ?_; omega) | (with_reducible refine quoL ?_; omega) | (with_reducible refine mulL ?_; omega) | (with_reducible refine lmul ?_; omega) | (with_reducible refine addN ?_; omega) | (with_reducible refine subN ?_; omega) | (with_reducible refine quoN ?_; omega) | (with_reducible refine mulN ?_; omega) | (with_reducible refine addQ ?_; omega) | (with_reducible refine subQ ?_; omega) | (with_reducible refine mulQ ?_; omega) | (with_reducible refine shlQL ?_; omega) | (with_reducible refine shlQ ?_; omega) | (with_reducible refine remL ?_; decide) | (with_reducible refine shrL ?_; decide) | (with_reducible refine remN ?_; omega) | (with_reducible refine toU64 ?_ Uw Uq; omega) | (with_reducible exact toU32 Uq Uw) | exact bin_lss | exact bin_gtr | exact bin_eql | exact bin_neq | exact bin_leq | exact bin_geq | exact lenV_sl Us | exact ext_0 | exact ext_1 | exact ext_2 | exact pick_t | exact pick_f | exact bin_add64 (by omega) | exact bin_sub64 (by omega) | exact un_not | exact cv_int Uq Uw | exact cv_int Uw Uq | exact bin_add | exact bin_sub | exact bin_mul | rfl)) rfl ?_ | refine Ev.prim (by (first | with_reducible exact lssL | with_reducible exact gtrL | with_reducible exact eqlL | with_reducible exact neqL | with_reducible exact leqL | with_reducible exact geqL | with_reducible exact lssN | with_reducible exact gtrN | with_reducible exact eqlN | with_reducible exact neqN | with_reducible exact leqN | with_reducible exact geqN | (with_reducible refine addL ?_; omega) | (with_reducible refine subL ?_; omega) | (with_reducible refine quoL ?_; omega) | (with_reducible refine mulL ?_; omega) | (with_reducible refine lmul ?_; omega) | (with_reducible refine addN ?_; omega) | (with_reducible refine subN ?_; omega) | (with_reducible refine quoN ?_; omega) | (with_reducible refine mulN ?_; omega) | (with_reducible refine addQ ?_; omega) | (with_reducible refine subQ ?_; omega) | (with_reducible refine mulQ ?_; omega) | (with_reducible refine shlQL ?_; omega) | (with_reducible refine shlQ ?_; omega) | (with_reducible refine remL ?_; decide) | (with_reducible refine shrL ?_; decide) | (with_reducible refine remN ?_; omega) | (with_reducible refine toU64 ?_ Uw Uq; omega) | (with_reducible exact toU32 Uq Uw) | exact bin_lss | exact bin_gtr | exact bin_eql | exact bin_neq | exact bin_leq | exact bin_geq | exact lenV_sl Us | exact ext_0 | exact ext_1 | exact ext_2 | exact pick_t | exact pick_f | exact bin_add64 (by omega) | exact bin_sub64 (by omega) | exact un_not | exact cv_int Uq Uw | exact cv_int Uw Uq | exact bin_add | exact bin_sub | exact bin_mul | rfl)) ?_)
  refine Ev.eq (fun k _ => f88_J0_eq k _ _ _ H) ?_
  refine Ev.prim (toU64 (by omega) Uw Uq) ?_
  refine Ev.prim (shlQL ⟨by decide, by omega⟩) ?_
  refine Ev.prim (toU64 (by omega) Uw Uq) ?_
  refine Ev.prim (orQ ⟨by omega, by omega⟩) ?_
  rw [Nat.or_comm, or_add (by omega), show x + r * 2 ^ 32 = r * 4294967296 + x by omega]
  have hq : (r * 4294967296 + x) / d < 4294967296 := Nat.div_lt_of_lt_mul (by
    have : (r + 1) * 4294967296 ≤ d * 4294967296 := Nat.mul_le_mul_right _ hr
    omega)
  have hm : (r * 4294967296 + x) % d < d := Nat.mod_lt _ (by omega)
  refine Ev.prim (toU64 (by omega) Uw Uq) ?_
  refine Ev.prim (quoQ ⟨by omega, by omega⟩) ?_
  refine Ev.prim (toU32 Uq Uw) ?_
  refine Ev.prim (toU64 (by omega) Uw Uq) ?_
  refine Ev.prim (remN (by omega)) ?_
  refine Ev.prim (toU32 Uq Uw) ?_
  rw [Nat.mod_eq_of_lt hq, Nat.mod_eq_of_lt (show (r * 4294967296 + x) % d < 4294967296 by omega)]
  exact Ev.ret rfl
theorem short_loop {H0 B0 B : AH} {xs : List Nat} {a : Value} {bo d : Nat} (ha : RdN B a xs) (hd : d < 4294967296) (hlen : xs.length < 549755813888) :
    ∀ (m i : Nat) (zs : List Nat) (r : Nat) (H : AH), i + m = xs.length → zs.length = xs.length → small zs → r < d → val (xs.drop m) = d * val (zs.drop m) + r →
    St H0 B0 B [(bo, ⟨zs.map u32, 70, .fix⟩)] H →
    Ev (fun k n => f74_L0 k a (u32 d) (sl bo 0 xs.length xs.length) (u32 r) (i64 xs.length) (i64 i) n H)
      (fun o => ∃ zs r H, o = (.exit 0, f74_X_L0 (sl bo 0 xs.length xs.length) (u32 r), H) ∧ zs.length = xs.length ∧ small zs ∧ r < d ∧ val xs = d * val zs + r ∧ St H0 B0 B [(bo, ⟨zs.map u32, 70, .fix⟩)] H) := by
  intro m
  induction m with
  | zero =>
    intro i zs r H hi hz hsm hr hv hS
    refine Ev.succ (fun k n => f74_L0_succ k _ _ _ _ _ _ n H) ?_
    refine Ev.prim lssN ?_
    refine Ev.ifp (fun h => absurd h (by omega)) fun _ => ?_
    exact Ev.ret ⟨zs, r, H, rfl, hz, hsm, hr, hv, hS⟩
  | succ m ih =>
    intro i zs r H hi hz hsm hr hv hS
    refine Ev.succ (fun k n => f74_L0_succ k _ _ _ _ _ _ n H) ?_
    refine Ev.prim lssN ?_
    refine Ev.ifp (fun _ => ?_) fun h => absurd (by omega) h
    refine Ev.prim (ha.lenN Ew) ?_
    refine Ev.prim (subL (by omega)) ?_
    refine Ev.prim (subN (by omega)) ?_
    obtain ⟨p, hp1, hp2⟩ := ha.ixN (k := .i64) (i := xs.length - 1 - i) Ew (by omega)
    refine Ev.prim hp1 ?_
    refine Ev.prim (hp2 H hS.le) ?_
    rw [show xs.length - 1 - i = m by omega]
    have hx := ha.2.getD m
    refine Ev.callP (Div32_spec hr hx hd) ?_
    refine Ev.prim ext_0 ?_
    refine Ev.prim ext_1 ?_
    refine Ev.prim (ixA_own Ew (by omega)) ?_
    refine Ev.stW Ew hS (by (first | exact .head _ | exact .tail _ (.head _) | exact .tail _ (.tail _ (.head _)) | exact .tail _ (.tail _ (.tail _ (.head _))) | exact .tail _ (.tail _ (.tail _ (.tail _ (.head _)))))) (j := m) (by omega) (by omega) rfl (by simp) (.head _) fun H1 hS1 => ?_
    refine Ev.prim (addL (by omega)) ?_
    have hq : (r * 4294967296 + xs.getD m 0) / d < 4294967296 := Nat.div_lt_of_lt_mul (by
      have : (r + 1) * 4294967296 ≤ d * 4294967296 := Nat.mul_le_mul_right _ hr
      omega)
    refine ih (i + 1) _ _ H1 (by omega) (by simp [hz]) (hsm.set _ hq) (Nat.mod_lt _ (by omega)) ?_ hS1
    rw [List.drop_set, if_neg (by omega), Nat.sub_self, List.drop_eq_getElem_cons (by omega), List.drop_eq_getElem_cons (l := zs) (by omega), List.set_cons_zero, val, val, hv]
    have e := Nat.div_add_mod (r * 4294967296 + xs.getD m 0) d
    rw [List.getD_eq_getElem?_getD, List.getElem?_eq_getElem (by omega)] at e ⊢
    simp only [Option.getD_some] at e ⊢
    generalize (r * 4294967296 + xs[m]) / d = q1 at *
    generalize (r * 4294967296 + xs[m]) % d = q2 at *
    rw [Nat.mul_add d, Nat.mul_left_comm d]
    omega
theorem short_spec {B H : AH} {xs : List Nat} {a : Value} {d : Nat} (ha : RdN B a xs) (hd : d < 4294967296) (hd0 : d ≠ 0) (hm : xs.length < 137438953472) (hL : Le B H) :
    Ev (fun k _ => rn k 74 [a, u32 d] H) (An B H fun B' v => ∃ q r, v = .tuple #[q, r, .bool true] ∧ RdN B' q (limbs (val xs / d)) ∧ RdN B' r (limbs (val xs % d))) := by
  refine Ev.fn (fun k => f74_eq k _ _ H) ?_
  refine Ev.prim (ha.lenN Ew) ?_
  refine Ev.mkS Ew (St.start hL) (by omega) (by omega) fun bo B1 H1 hm1 hS1 => ?_
  rw [map_replicate] at hS1
  refine Ev.prim (ha.lenN Ew) ?_
  refine Ev.bind (Ev.loop (short_loop (ha.mono hm1) (d := d) hd (by omega) xs.length 0 (List.replicate xs.length 0) 0 H1 (by omega) (by simp) (small_replicate _) (by omega) (by simp [val]) hS1)) ?_
  rintro _ ⟨zs, r, H2, rfl, hz, hsm, hr, hv, hS2⟩
  refine Ev.eq (fun k _ => f74_A0_x0 k _ _ H2) ?_
  obtain ⟨B4, hm4, hr4, hS4⟩ := hS2.freezeN (n := xs.length) (cap := xs.length) hsm hz.symm (by omega)
  refine Ev.call hS4 (Trim_spec (by omega) hr4) fun v B5 H5 hm5 hS5 h5 => ?_
  refine Ev.prim (toU64 (by omega) Uw Uq) ?_
  refine Ev.call hS5 (From_spec (by omega)) fun v2 B6 H6 hm6 hS6 h6 => ?_
  refine Ev.done hS6 ⟨v, v2, rfl, ?_, ?_⟩
  · rw [hv, Nat.mul_comm, Nat.add_comm, Nat.add_mul_div_right _ _ (by omega), Nat.div_eq_of_lt hr, Nat.zero_add]
    exact h5.mono hm6
  · rw [hv, Nat.mul_add_mod, Nat.mod_eq_of_lt hr]
    exact h6
end Go.AM.Z
set_option linter.unusedVariables false
set_option linter.unusedSimpArgs false
set_option maxRecDepth 100000
namespace Go.AM.Z
open Go Go.AM Go.Proofs
attribute [local irreducible] run bin un ld st box newV mkS fldA fld ixA ix slc slc3 build buildS cv cvS ap cpy lenV gOp pickV b2 aIf aChk evalK resume iterD Option.bind

theorem take_loop {H0 B0 B : AH} {L : List (Nat × Blk)} {us ys : List Nat} {b : Value} {bu g j N cap : Nat} (hb : RdN B b ys) (hg : g < 4294967296) (hN : j + N ≤ us.length) (hyN : ys.length < N) (hlen : us.length < 549755813888) :
    ∀ (m i : Nat) (zs : List Nat) (c bo : Nat) (H : AH), i + m = ys.length → zs.length = us.length → small zs → c < 4294967296 → bo ≤ 1 →
    val zs + 4294967296 ^ j * (g * val (ys.take i)) = val us + 4294967296 ^ (j + i) * (c + bo) → zs.take j = us.take j → zs.drop (j + N) = us.drop (j + N) →
    St H0 B0 B ((bu, ⟨zs.map u32, 70, .fix⟩) :: L) H →
    Ev (fun k n => f90_L0 k (sl bu j N cap) b (u64 g) (u64 c) (u32 bo) b (i64 ys.length) (i64 i) n H)
      (fun o => ∃ zs c bo H, o = (.exit 0, f90_X_L0 (sl bu j N cap) b (u64 c) (u32 bo), H) ∧ zs.length = us.length ∧ small zs ∧ c < 4294967296 ∧ bo ≤ 1 ∧
        val zs + 4294967296 ^ j * (g * val ys) = val us + 4294967296 ^ (j + ys.length) * (c + bo) ∧ zs.take j = us.take j ∧ zs.drop (j + N) = us.drop (j + N) ∧ St H0 B0 B ((bu, ⟨zs.map u32, 70, .fix⟩) :: L) H) := by
  intro m
  induction m with
  | zero =>
    intro i zs c bo H hi hz hsm hc hbo hv ht hdr hS
    refine Ev.succ (fun k n => f90_L0_succ k _ _ _ _ _ _ _ _ n H) ?_
    refine Ev.prim lssN ?_
    refine Ev.ifp (fun h => absurd h (by omega)) fun _ => ?_
    refine Ev.ret ⟨zs, c, bo, H, rfl, hz, hsm, hc, hbo, ?_, ht, hdr, hS⟩
    have : i = ys.length := by omega
    subst this
    rw [List.take_of_length_le (Nat.le_refl _)] at hv
    exact hv
  | succ m ih =>
    intro i zs c bo H hi hz hsm hc hbo hv ht hdr hS
    refine Ev.succ (fun k n => f90_L0_succ k _ _ _ _ _ _ _ _ n H) ?_
    refine Ev.prim lssN ?_
    refine Ev.ifp (fun _ => ?_) fun h => absurd (by omega) h
    obtain ⟨p, hp1, hp2⟩ := hb.ixN (k := .i64) (i := i) Ew (by omega)
    refine Ev.prim hp1 ?_
    refine Ev.prim (hp2 H hS.le) ?_
    have hy := hb.2.getD i
    have hxy : ys.getD i 0 * g ≤ 4294967295 * 4294967295 := Nat.mul_le_mul (by omega) (by omega)
    have ho := hsm.getD (j + i)
    refine Ev.prim (toU64 (by omega) Uw Uq) ?_
    refine Ev.prim (mulQ (by omega)) ?_
    refine Ev.prim (addQ (by omega)) ?_
    refine Ev.prim (shrL (by decide)) ?_
    refine Ev.prim (ixA_own Ew (by omega)) ?_
    refine Ev.ldW Ew hS (.head _) (j := j + i) (by omega) rfl ?_
    refine Ev.prim (toU32 Uq Uw) ?_
    refine Ev.callP (Sub32_spec ho (Nat.mod_lt _ (by decide)) hbo) ?_
    refine Ev.prim ext_0 ?_
    refine Ev.prim ext_1 ?_
    refine Ev.prim (ixA_own Ew (by omega)) ?_
    refine Ev.stW Ew hS (.head _) (j := j + i) (by omega) rfl rfl (by simp) (.head _) fun H1 hS1 => ?_
    refine Ev.prim (addL (by omega)) ?_
    refine ih (i + 1) _ _ _ H1 (by omega) (by simp [hz]) (hsm.set _ (Nat.mod_lt _ (by decide))) (by omega) (by split <;> omega) ?_ (by rw [List.take_set_of_le (by omega)]; exact ht) (by rw [List.drop_set_of_lt (by omega)]; exact hdr) hS1
    have e1 := val_set (zs := zs) (j := j + i) (w := (zs.getD (j + i) 0 + 8589934592 - (ys.getD i 0 * g + c) % 4294967296 - bo) % 4294967296) (by omega)
    have e2 : (zs.getD (j + i) 0 + 8589934592 - (ys.getD i 0 * g + c) % 4294967296 - bo) % 4294967296 + ((ys.getD i 0 * g + c) % 4294967296 + bo) = zs.getD (j + i) 0 + 4294967296 * (if zs.getD (j + i) 0 < (ys.getD i 0 * g + c) % 4294967296 + bo then 1 else 0) := by
      have := Nat.mod_lt (ys.getD i 0 * g + c) (show 0 < 4294967296 by decide)
      split <;> omega
    have e3 : ys.getD i 0 * g + c = (ys.getD i 0 * g + c) % 4294967296 + 4294967296 * ((ys.getD i 0 * g + c) / 2 ^ 32) := by omega
    rw [val_take_succ']
    generalize (if zs.getD (j + i) 0 < (ys.getD i 0 * g + c) % 4294967296 + bo then 1 else 0) = bo' at *
    generalize (zs.getD (j + i) 0 + 8589934592 - (ys.getD i 0 * g + c) % 4294967296 - bo) % 4294967296 = w at *
    generalize (ys.getD i 0 * g + c) % 4294967296 = s1 at *
    generalize (ys.getD i 0 * g + c) / 2 ^ 32 = s2 at *
    generalize zs.getD (j + i) 0 = o at *
    generalize ys.getD i 0 = y at *
    have e4 := congrArg (4294967296 ^ (j + i) * ·) e2
    have e5 := congrArg (4294967296 ^ (j + i) * ·) e3
    simp only [Nat.mul_add] at e4 e5
    rw [show j + (i + 1) = j + i + 1 by omega, Nat.pow_succ, Nat.mul_assoc, Nat.mul_add g, Nat.mul_left_comm g, Nat.mul_add (4294967296 ^ j), ← Nat.mul_assoc (4294967296 ^ j) (4294967296 ^ i), ← Nat.pow_add, Nat.mul_comm g y]
    simp only [Nat.mul_add] at hv ⊢
    omega
theorem take_spec {H0 B0 B : AH} {L : List (Nat × Blk)} {us ys : List Nat} {b : Value} {bu g j cap : Nat} {H : AH} (hb : RdN B b ys) (hg : g < 4294967296) (hN : j + (ys.length + 1) ≤ us.length) (hlen : us.length < 549755813888) (hsm : small us)
    (hS : St H0 B0 B ((bu, ⟨us.map u32, 70, .fix⟩) :: L) H) :
    Ev (fun k _ => rn k 90 [sl bu j (ys.length + 1) cap, b, u64 g] H)
      (fun r => ∃ zs bo H, r = (.bool (decide (0 < bo)), H) ∧ zs.length = us.length ∧ small zs ∧ bo ≤ 1 ∧ val zs + 4294967296 ^ j * (g * val ys) = val us + 4294967296 ^ (j + (ys.length + 1)) * bo ∧
        zs.take j = us.take j ∧ zs.drop (j + (ys.length + 1)) = us.drop (j + (ys.length + 1)) ∧ St H0 B0 B ((bu, ⟨zs.map u32, 70, .fix⟩) :: L) H) := by
  refine Ev.fn (fun k => f90_eq k _ _ _ H) ?_
  refine Ev.prim (hb.lenN Ew) ?_
  refine Ev.bind (Ev.loop (take_loop (N := ys.length + 1) hb hg hN (by omega) hlen ys.length 0 us 0 0 H (by omega) rfl hsm (by decide) (by decide) (by simp [val]) rfl rfl hS)) ?_
  rintro _ ⟨zs, c, bo, H1, rfl, hz, hsm, hc, hbo, hv, ht, hdr, hS⟩
  refine Ev.eq (fun k _ => f90_A0_x0 k _ _ _ _ H1) ?_
  refine Ev.prim (hb.lenN Ew) ?_
  refine Ev.prim (hb.lenN Ew) ?_
  refine Ev.prim (ixA_own Ew (by omega)) ?_
  have ho := hsm.getD (j + ys.length)
  refine Ev.ldW Ew hS (.head _) (j := j + ys.length) (by omega) rfl ?_
  refine Ev.prim (toU32 Uq Uw) ?_
  rw [Nat.mod_eq_of_lt hc]
  refine Ev.callP (Sub32_spec ho hc hbo) ?_
  refine Ev.prim ext_0 ?_
  refine Ev.prim ext_1 ?_
  refine Ev.prim (ixA_own Ew (by omega)) ?_
  refine Ev.stW Ew hS (.head _) (j := j + ys.length) (by omega) rfl rfl (by simp) (.head _) fun H1 hS1 => ?_
  refine Ev.prim gtrL ?_
  refine Ev.ret ⟨_, _, H1, rfl, by simp [hz], hsm.set _ (Nat.mod_lt _ (by decide)), by split <;> omega, ?_, by rw [List.take_set_of_le (by omega)]; exact ht, by rw [List.drop_set_of_lt (by omega)]; exact hdr, hS1⟩
  have e1 := val_set (zs := zs) (j := j + ys.length) (w := (zs.getD (j + ys.length) 0 + 8589934592 - c - bo) % 4294967296) (by omega)
  have e2 : (zs.getD (j + ys.length) 0 + 8589934592 - c - bo) % 4294967296 + (c + bo) = zs.getD (j + ys.length) 0 + 4294967296 * (if zs.getD (j + ys.length) 0 < c + bo then 1 else 0) := by
    split <;> omega
  generalize (if zs.getD (j + ys.length) 0 < c + bo then 1 else 0) = bo' at *
  generalize (zs.getD (j + ys.length) 0 + 8589934592 - c - bo) % 4294967296 = w at *
  generalize zs.getD (j + ys.length) 0 = o at *
  have e4 := congrArg (4294967296 ^ (j + ys.length) * ·) e2
  simp only [Nat.mul_add] at e4
  rw [show j + (ys.length + 1) = j + ys.length + 1 by omega, Nat.pow_succ, Nat.mul_assoc]
  simp only [Nat.mul_add] at hv
  omega
theorem give_loop {H0 B0 B : AH} {L : List (Nat × Blk)} {us ys : List Nat} {b : Value} {bu j N cap : Nat} (hb : RdN B b ys) (hN : j + N ≤ us.length) (hyN : ys.length < N) (hlen : us.length < 549755813888) :
    ∀ (m i : Nat) (zs : List Nat) (c : Nat) (H : AH), i + m = ys.length → zs.length = us.length → small zs → c ≤ 1 →
    val zs + 4294967296 ^ (j + i) * c = val us + 4294967296 ^ j * val (ys.take i) → zs.take j = us.take j → zs.drop (j + N) = us.drop (j + N) →
    St H0 B0 B ((bu, ⟨zs.map u32, 70, .fix⟩) :: L) H →
    Ev (fun k n => f91_L0 k (sl bu j N cap) b (u32 c) b (i64 ys.length) (i64 i) n H)
      (fun o => ∃ zs c H, o = (.exit 0, f91_X_L0 (sl bu j N cap) b (u32 c), H) ∧ zs.length = us.length ∧ small zs ∧ c ≤ 1 ∧
        val zs + 4294967296 ^ (j + ys.length) * c = val us + 4294967296 ^ j * val ys ∧ zs.take j = us.take j ∧ zs.drop (j + N) = us.drop (j + N) ∧ St H0 B0 B ((bu, ⟨zs.map u32, 70, .fix⟩) :: L) H) := by
  intro m
  induction m with
  | zero =>
    intro i zs c H hi hz hsm hc hv ht hdr hS
    refine Ev.succ (fun k n => f91_L0_succ k _ _ _ _ _ _ n H) ?_
    refine Ev.prim lssN ?_
    refine Ev.ifp (fun h => absurd h (by omega)) fun _ => ?_
    refine Ev.ret ⟨zs, c, H, rfl, hz, hsm, hc, ?_, ht, hdr, hS⟩
    have : i = ys.length := by omega
    subst this
    rw [List.take_of_length_le (Nat.le_refl _)] at hv
    exact hv
  | succ m ih =>
    intro i zs c H hi hz hsm hc hv ht hdr hS
    refine Ev.succ (fun k n => f91_L0_succ k _ _ _ _ _ _ n H) ?_
    refine Ev.prim lssN ?_
    refine Ev.ifp (fun _ => ?_) fun h => absurd (by omega) h
    obtain ⟨p, hp1, hp2⟩ := hb.ixN (k := .i64) (i := i) Ew (by omega)
    refine Ev.prim hp1 ?_
    refine Ev.prim (hp2 H hS.le) ?_
    have hy := hb.2.getD i
    have ho := hsm.getD (j + i)
    refine Ev.prim (ixA_own Ew (by omega)) ?_
    refine Ev.ldW Ew hS (.head _) (j := j + i) (by omega) rfl ?_
    refine Ev.callP (Add32_spec ho hy (by omega)) ?_
    refine Ev.prim ext_0 ?_
    refine Ev.prim ext_1 ?_
    refine Ev.prim (ixA_own Ew (by omega)) ?_
    refine Ev.stW Ew hS (.head _) (j := j + i) (by omega) rfl rfl (by simp) (.head _) fun H1 hS1 => ?_
    refine Ev.prim (addL (by omega)) ?_
    refine ih (i + 1) _ _ H1 (by omega) (by simp [hz]) (hsm.set _ (Nat.mod_lt _ (by decide))) (by omega) ?_ (by rw [List.take_set_of_le (by omega)]; exact ht) (by rw [List.drop_set_of_lt (by omega)]; exact hdr) hS1
    have e1 := val_set (zs := zs) (j := j + i) (w := (zs.getD (j + i) 0 + ys.getD i 0 + c) % 4294967296) (by omega)
    have e2 : (zs.getD (j + i) 0 + ys.getD i 0 + c) % 4294967296 + 4294967296 * ((zs.getD (j + i) 0 + ys.getD i 0 + c) / 4294967296) = zs.getD (j + i) 0 + ys.getD i 0 + c := by omega
    rw [val_take_succ']
    generalize (zs.getD (j + i) 0 + ys.getD i 0 + c) % 4294967296 = w at *
    generalize (zs.getD (j + i) 0 + ys.getD i 0 + c) / 4294967296 = c' at *
    generalize zs.getD (j + i) 0 = o at *
    generalize ys.getD i 0 = y at *
    have e4 := congrArg (4294967296 ^ (j + i) * ·) e2
    simp only [Nat.mul_add] at e4
    rw [show j + (i + 1) = j + i + 1 by omega, Nat.pow_succ, Nat.mul_assoc, Nat.mul_add (4294967296 ^ j), ← Nat.mul_assoc (4294967296 ^ j) (4294967296 ^ i), ← Nat.pow_add]
    omega
theorem give_spec {H0 B0 B : AH} {L : List (Nat × Blk)} {us ys : List Nat} {b : Value} {bu j cap : Nat} {H : AH} (hb : RdN B b ys) (hN : j + (ys.length + 1) ≤ us.length) (hlen : us.length < 549755813888) (hsm : small us)
    (hS : St H0 B0 B ((bu, ⟨us.map u32, 70, .fix⟩) :: L) H) :
    Ev (fun k _ => rn k 91 [sl bu j (ys.length + 1) cap, b] H)
      (fun r => ∃ zs c H, r = (.tuple #[], H) ∧ zs.length = us.length ∧ small zs ∧ c ≤ 1 ∧ val zs + 4294967296 ^ (j + (ys.length + 1)) * c = val us + 4294967296 ^ j * val ys ∧
        zs.take j = us.take j ∧ zs.drop (j + (ys.length + 1)) = us.drop (j + (ys.length + 1)) ∧ St H0 B0 B ((bu, ⟨zs.map u32, 70, .fix⟩) :: L) H) := by
  refine Ev.fn (fun k => f91_eq k _ _ H) ?_
  refine Ev.prim (hb.lenN Ew) ?_
  refine Ev.bind (Ev.loop (give_loop (N := ys.length + 1) hb hN (by omega) hlen ys.length 0 us 0 H (by omega) rfl hsm (by decide) (by simp [val]) rfl rfl hS)) ?_
  rintro _ ⟨zs, c, H1, rfl, hz, hsm, hc, hv, ht, hdr, hS⟩
  refine Ev.eq (fun k _ => f91_A0_x0 k _ _ _ H1) ?_
  refine Ev.prim (hb.lenN Ew) ?_
  refine Ev.prim (ixA_own Ew (by omega)) ?_
  have ho := hsm.getD (j + ys.length)
  refine Ev.ldW Ew hS (.head _) (j := j + ys.length) (by omega) rfl ?_
  refine Ev.prim addW ?_
  refine Ev.prim (ixA_own Ew (by omega)) ?_
  refine Ev.stW Ew hS (.head _) (j := j + ys.length) (by omega) rfl rfl (by simp) (.head _) fun H1 hS1 => ?_
  refine Ev.ret ⟨_, (zs.getD (j + ys.length) 0 + c) / 4294967296, H1, rfl, by simp [hz], hsm.set _ (Nat.mod_lt _ (by decide)), by omega, ?_, by rw [List.take_set_of_le (by omega)]; exact ht, by rw [List.drop_set_of_lt (by omega)]; exact hdr, hS1⟩
  have e1 := val_set (zs := zs) (j := j + ys.length) (w := (zs.getD (j + ys.length) 0 + c) % 4294967296) (by omega)
  have e2 : (zs.getD (j + ys.length) 0 + c) % 4294967296 + 4294967296 * ((zs.getD (j + ys.length) 0 + c) / 4294967296) = zs.getD (j + ys.length) 0 + c := by omega
  generalize (zs.getD (j + ys.length) 0 + c) % 4294967296 = w at *
  generalize (zs.getD (j + ys.length) 0 + c) / 4294967296 = c' at *
  generalize zs.getD (j + ys.length) 0 = o at *
  have e4 := congrArg (4294967296 ^ (j + ys.length) * ·) e2
  simp only [Nat.mul_add] at e4
  rw [show j + (ys.length + 1) = j + ys.length + 1 by omega, Nat.pow_succ, Nat.mul_assoc]
  omega
end Go.AM.Z
set_option linter.unusedVariables false
namespace Go.AM
theorem knuth_over {p g rest vt v2 vl u2 ul top : Nat} (hul : ul < p) (h1 : g * vt + rest = top) (h2 : rest * 4294967296 + u2 < g * v2) :
    ul + p * (u2 + 4294967296 * top) < g * (vl + p * (v2 + 4294967296 * vt)) := by
  have e1 : g * (vl + p * (v2 + 4294967296 * vt)) = g * vl + p * (g * v2 + 4294967296 * (g * vt)) := by
    rw [Nat.mul_add, Nat.mul_left_comm g p, Nat.mul_add g, Nat.mul_left_comm g 4294967296]
  have e2 : p * (u2 + 4294967296 * top + 1) ≤ p * (g * v2 + 4294967296 * (g * vt)) := Nat.mul_le_mul_left _ (by omega)
  rw [e1]
  rw [Nat.mul_add p _ 1, Nat.mul_one] at e2
  omega
theorem knuth_near {p g rest vt v2 vl u2 ul top : Nat} (hvl : vl < p) (hg : g < 4294967296) (hvt : 1 ≤ vt) (h1 : g * vt + rest = top) (h2 : g * v2 ≤ rest * 4294967296 + u2) :
    g * (vl + p * (v2 + 4294967296 * vt)) < ul + p * (u2 + 4294967296 * top) + (vl + p * (v2 + 4294967296 * vt)) := by
  have e1 : g * (vl + p * (v2 + 4294967296 * vt)) = g * vl + p * (g * v2 + 4294967296 * (g * vt)) := by
    rw [Nat.mul_add, Nat.mul_left_comm g p, Nat.mul_add g, Nat.mul_left_comm g 4294967296]
  have e2 : p * (g * v2 + 4294967296 * (g * vt)) ≤ p * (u2 + 4294967296 * top) := Nat.mul_le_mul_left _ (by omega)
  have e3 : g * vl ≤ 4294967295 * vl := Nat.mul_le_mul_right _ (by omega)
  have e4 : p * (4294967296 * 1) ≤ p * (v2 + 4294967296 * vt) := Nat.mul_le_mul_left _ (by omega)
  rw [e1]
  omega
theorem knuth_first {p vt v2 vl u2 ul top : Nat} (hul : ul < p) (hu2 : u2 < 4294967296) (hvt : 1 ≤ vt) :
    ul + p * (u2 + 4294967296 * top) < (top / vt + 1) * (vl + p * (v2 + 4294967296 * vt)) := by
  have h := Nat.lt_div_mul_add (a := top) (b := vt) hvt
  have h' : top < (top / vt + 1) * vt := by rw [Nat.add_mul, Nat.one_mul]; omega
  generalize top / vt + 1 = g at *
  have e1 : g * (vl + p * (v2 + 4294967296 * vt)) = g * vl + p * (g * v2 + 4294967296 * (g * vt)) := by
    rw [Nat.mul_add, Nat.mul_left_comm g p, Nat.mul_add g, Nat.mul_left_comm g 4294967296]
  have e2 : p * (u2 + 4294967296 * top + 1) ≤ p * (g * v2 + 4294967296 * (g * vt)) := Nat.mul_le_mul_left _ (by omega)
  rw [e1]
  rw [Nat.mul_add p _ 1, Nat.mul_one] at e2
  omega
theorem knuth_top {p vt v2 vl u2 ul top : Nat} (hvl : vl < p) (hv2 : v2 < 4294967296) (h : ul + p * (u2 + 4294967296 * top) < 4294967296 * (vl + p * (v2 + 4294967296 * vt))) :
    top < 4294967296 * vt + 4294967296 := by
  have hp : 0 < p := by omega
  have e1 : vl + p * (v2 + 4294967296 * vt) < p * (4294967296 * vt + 4294967296) := by
    have : p * (v2 + 4294967296 * vt + 1) ≤ p * (4294967296 * vt + 4294967296) := Nat.mul_le_mul_left _ (by omega)
    rw [Nat.mul_add p _ 1, Nat.mul_one] at this
    omega
  have e2 : p * (4294967296 * top) ≤ p * (u2 + 4294967296 * top) := Nat.mul_le_mul_left _ (by omega)
  have e3 : p * (4294967296 * top) < p * (4294967296 * (4294967296 * vt + 4294967296)) := by
    rw [Nat.mul_left_comm p 4294967296 (4294967296 * vt + 4294967296)]
    omega
  have := Nat.lt_of_mul_lt_mul_left e3
  omega
/-- A list by its lower digits, and the two at the end. -/
theorem val_two {ys : List Nat} {n : Nat} (h : ys.length = n + 2) : val ys = val (ys.take n) + 4294967296 ^ n * (ys.getD n 0 + 4294967296 * ys.getD (n + 1) 0) := by
  have e : val ys = val (ys.take (n + 2)) := by rw [List.take_of_length_le (by omega)]
  rw [e, val_take_succ', val_take_succ', Nat.pow_succ, Nat.mul_add, Nat.mul_assoc]; omega
theorem val_three {w : List Nat} {n : Nat} (hs : small w) (h : val w < 4294967296 ^ (n + 3)) : val w = val (w.take n) + 4294967296 ^ n * (w.getD n 0 + 4294967296 * (w.getD (n + 2) 0 * 4294967296 + w.getD (n + 1) 0)) := by
  have e : val w = val (w.take (n + 3)) := by rw [← (val_div_mod hs (n + 3)).2, Nat.mod_eq_of_lt h]
  rw [e, val_take_succ', val_take_succ', val_take_succ', Nat.pow_add _ n 2, Nat.pow_add _ n 1]
  generalize val (w.take n) = V
  generalize w.getD n 0 = d0
  generalize w.getD (n + 1) 0 = d1
  generalize w.getD (n + 2) 0 = d2
  generalize 4294967296 ^ n = p
  have a1 : p * 4294967296 ^ 1 * d1 = 4294967296 * (p * d1) := by rw [Nat.pow_one, Nat.mul_comm p, Nat.mul_assoc]
  have a2 : p * 4294967296 ^ 2 * d2 = 18446744073709551616 * (p * d2) := by rw [Nat.mul_comm p, Nat.mul_assoc]
  have a3 : p * (d0 + 4294967296 * (d2 * 4294967296 + d1)) = p * d0 + 4294967296 * (4294967296 * (p * d2) + p * d1) := by
    rw [Nat.mul_add, Nat.mul_left_comm p 4294967296, Nat.mul_add p, Nat.mul_comm d2, Nat.mul_left_comm p 4294967296]
  rw [a1, a2, a3]; omega
end Go.AM
namespace Go.AM
theorem getD_drop (xs : List Nat) (m i : Nat) : (xs.drop m).getD i 0 = xs.getD (m + i) 0 := by
  rw [List.getD_eq_getElem?_getD, List.getElem?_drop, ← List.getD_eq_getElem?_getD]
theorem val_drop_cons {xs : List Nat} {m : Nat} (h : m < xs.length) : val (xs.drop m) = xs.getD m 0 + 4294967296 * val (xs.drop (m + 1)) := by
  rw [List.drop_eq_getElem_cons h, val, List.getD_eq_getElem?_getD, List.getElem?_eq_getElem h]; rfl
end Go.AM
namespace Go.AM
theorem long_step (v p B Y T z d : Nat) : v * (p * B * Y) + (T + p * (z + d * v)) = v * (p * (d + B * Y)) + (T + p * z) := by
  rw [Nat.mul_add p z, Nat.mul_add p d, Nat.mul_add v, Nat.mul_assoc p B Y, ← Nat.mul_assoc p d v, Nat.mul_comm (p * d) v]; omega
end Go.AM
namespace Go.AM
theorem long_fin1 {z g v U X w : Nat} (h1 : z + (g + 1) * v = U + X * 1) (h2 : w + X * 1 = z + v) : w + g * v = U := by
  rw [Nat.add_mul, Nat.one_mul, Nat.mul_one] at h1; rw [Nat.mul_one] at h2; omega
theorem long_fin2 {z g v U X : Nat} (h1 : z + g * v = U + X * 1) (h2 : z < X) : U < g * v := by rw [Nat.mul_one] at h1; omega
end Go.AM
set_option linter.unusedVariables false
set_option linter.unusedSimpArgs false
set_option maxRecDepth 100000
namespace Go.AM.Z
open Go Go.AM Go.Proofs
attribute [local irreducible] run bin un ld st box newV mkS fldA fld ixA ix slc slc3 build buildS cv cvS ap cpy lenV gOp pickV b2 aIf aChk evalK resume iterD Option.bind

theorem subQL {t : TypeId} {a : Nat} (h : 1 ≤ a ∧ a < 18446744073709551616) : bin Tryd.prog .sub t (u64 a) (.int .u64 1) = some (u64 (a - 1)) := subQ (b := 1) h
theorem slc_own {b len cap lo hi : Nat} (h : lo ≤ hi ∧ hi ≤ len ∧ lo < cap) : slc Tryd.prog 22 (sl b 0 len cap) (some (i64 lo)) (some (i64 hi)) = some (sl b lo (hi - lo) (cap - lo)) := by
  unfold slc sl; rw [Us]; simp only [intOr, Option.bind_some]
  rw [if_pos ⟨Iw, by omega, by omega, by omega⟩, Int.toNat_natCast, Int.toNat_natCast, if_neg (by omega), Sw, Nat.zero_add, Nat.mul_one]
theorem guess_step {H0 B0 B H : AH} {L : List (Nat × Blk)} {us ys : List Nat} {b s4 s7 : Value} {bu j n Lu top U vt v2 u2 : Nat} (hS : St H0 B0 B ((bu, ⟨us.map u32, 70, .fix⟩) :: L) H) (hb : RdN B b ys) (hn : ys.length = n + 2) (hlu : us.length = Lu)
    (hj : j + (n + 3) ≤ Lu) (hlen : Lu < 549755813888) (hvt : ys.getD (n + 1) 0 = vt) (hv2 : ys.getD n 0 = v2) (hu2 : us.getD (j + n) 0 = u2) (hsmall : u2 < 4294967296) (hvtB : vt < 4294967296) (hvt0 : 1 ≤ vt) (hv2B : v2 < 4294967296)
    (hover : ∀ g rest, g * vt + rest = top → rest * 4294967296 + u2 < g * v2 → U < g * val ys) (hnear : ∀ g rest, g < 4294967296 → g * vt + rest = top → g * v2 ≤ rest * 4294967296 + u2 → g * val ys < U + val ys)
    (hUv : U < 4294967296 * val ys) (htop : top < 4294967296 * vt + 4294967296) (htB : top < 18446744073709551616) (g rest : Nat) (h1 : g * vt + rest = top) (hr : rest < 4294967296) (hU : U < (g + 1) * val ys)
    (hnext : 1 ≤ g → rest + vt < 4294967296 → U < g * val ys → Ev (fun k l => f75_L1 k b s4 s7 (i64 (n + 2)) (sl bu 0 Lu Lu) (i64 j) (u64 (g - 1)) (u64 (rest + vt)) l H)
      (fun o => ∃ g, o = (.exit 2, f75_X_L1 b s4 s7 (i64 (n + 2)) (sl bu 0 Lu Lu) (i64 j) (u64 g), H) ∧ g < 4294967296 ∧ U < (g + 1) * val ys ∧ g * val ys < U + val ys)) :
    Ev (fun k l => f75_L1 k b s4 s7 (i64 (n + 2)) (sl bu 0 Lu Lu) (i64 j) (u64 g) (u64 rest) l H)
      (fun o => ∃ g, o = (.exit 2, f75_X_L1 b s4 s7 (i64 (n + 2)) (sl bu 0 Lu Lu) (i64 j) (u64 g), H) ∧ g < 4294967296 ∧ U < (g + 1) * val ys ∧ g * val ys < U + val ys) := by
  refine Ev.succ (fun k l => f75_L1_succ k _ _ _ _ _ _ _ _ l H) ?_
  have hgB : g < 18446744073709551616 := by
    have : g * 1 ≤ g * vt := Nat.mul_le_mul_left _ hvt0
    omega
  obtain ⟨p, hp1, hp2⟩ := hb.ixN (k := .i64) (i := n + 1) Ew (by omega)
  obtain ⟨q, hq1, hq2⟩ := hb.ixN (k := .i64) (i := n) Ew (by omega)
  have hp3 := hp2 H hS.le
  have hq3 := hq2 H hS.le
  rw [hvt] at hp3
  rw [hv2] at hq3
  have more : U < g * val ys → Ev (fun k l => (bin Tryd.prog .sub 62 (u64 g) (.int .u64 1)).bind fun v70 =>
      (bin Tryd.prog .sub 3 (i64 (n + 2)) (.int .i64 1)).bind fun v71 => (ixA Tryd.prog 22 b v71).bind fun v72 => (ld Tryd.prog 70 H v72).bind fun v73 => (cv Tryd.prog 70 62 v73).bind fun v74 =>
      (bin Tryd.prog .add 62 (u64 rest) v74).bind fun v75 => (bin Tryd.prog .geq 62 v75 (.int .u64 4294967296)).bind fun v76 =>
      aIf v76 (some (EX.exit 2, f75_X_L1 b s4 s7 (i64 (n + 2)) (sl bu 0 Lu Lu) (i64 j) v70, H)) (f75_L1 k b s4 s7 (i64 (n + 2)) (sl bu 0 Lu Lu) (i64 j) v70 v75 l H))
      (fun o => ∃ g, o = (.exit 2, f75_X_L1 b s4 s7 (i64 (n + 2)) (sl bu 0 Lu Lu) (i64 j) (u64 g), H) ∧ g < 4294967296 ∧ U < (g + 1) * val ys ∧ g * val ys < U + val ys) := by
    intro hUg
    have hg1 : 1 ≤ g := by
      rcases Nat.eq_zero_or_pos g with h | h
      · subst h; omega
      · exact h
    refine Ev.prim (subQL ⟨hg1, hgB⟩) ?_
    refine Ev.prim (subL ⟨by omega, by omega⟩) ?_
    refine Ev.prim hp1 ?_
    refine Ev.prim hp3 ?_
    refine Ev.prim (toU64 (by omega) Uw Uq) ?_
    refine Ev.prim (addQ (by omega)) ?_
    refine Ev.prim geqL ?_
    obtain ⟨g', rfl⟩ : ∃ g', g = g' + 1 := ⟨g - 1, by omega⟩
    rw [Nat.add_sub_cancel] at hnext ⊢
    have h1' : g' * vt + (rest + vt) = top := by rw [Nat.add_mul] at h1; omega
    refine Ev.ifp (fun h => ?_) fun h => hnext hg1 (by omega) hUg
    have hgB' : g' < 4294967296 := by
      rcases Nat.lt_or_ge g' 4294967296 with h' | h'
      · exact h'
      · have : 4294967296 * vt ≤ g' * vt := Nat.mul_le_mul_right _ h'
        omega
    have hm : g' * v2 ≤ 4294967295 * 4294967295 := Nat.mul_le_mul (by omega) (by omega)
    exact Ev.ret ⟨g', rfl, hgB', hUg, hnear g' (rest + vt) hgB' h1' (by omega)⟩
  refine Ev.prim geqL ?_
  rcases Nat.lt_or_ge g 4294967296 with hg | hg
  · rw [decide_eq_false (by omega : ¬ 4294967296 ≤ g)]
    refine Ev.gDo (Ev.some2 ?_)
    refine Ev.gDo (Ev.some2 ?_)
    refine Ev.gDo (Ev.some2 ?_)
    refine Ev.gDo (Ev.gPrim (subL (a := n + 2) ⟨by omega, by omega⟩) rfl ?_)
    rw [Nat.add_sub_cancel]
    refine Ev.gDo (Ev.gPrim hq1 rfl ?_)
    refine Ev.gDo (Ev.gPrim hq3 rfl ?_)
    refine Ev.gDo (Ev.gPrim (toU64 (by omega) Uw Uq) rfl ?_)
    have hm : g * v2 ≤ 4294967295 * 4294967295 := Nat.mul_le_mul (by omega) (by omega)
    refine Ev.gDo (Ev.gPrim (mulQ (by omega)) rfl ?_)
    refine Ev.gDo (Ev.some2 ?_)
    refine Ev.gDo (Ev.gPrim (shlQL ⟨by decide, by omega⟩) rfl ?_)
    refine Ev.gDo (Ev.some2 ?_)
    refine Ev.gDo (Ev.some2 ?_)
    refine Ev.gDo (Ev.some2 ?_)
    refine Ev.gDo (Ev.gPrim (addN (by omega)) rfl ?_)
    refine Ev.gDo (Ev.gPrim (subL ⟨by omega, by omega⟩) rfl ?_)
    rw [show j + (n + 2) - 2 = j + n by omega]
    refine Ev.gDo (Ev.gPrim (ixA_own Ew (by omega)) rfl ?_)
    have hld : ld Tryd.prog 70 H (ptr bu (0 + (j + n))) = some (u32 u2) := by
      rw [ld_blk (hS.get (.head _)), ldK_own Ew, List.getElem?_map, Nat.zero_add, ← hu2, List.getD_eq_getElem?_getD, List.getElem?_eq_getElem (by omega)]; rfl
    refine Ev.gDo (Ev.gPrim hld rfl ?_)
    refine Ev.gDo (Ev.gPrim (toU64 (by omega) Uw Uq) rfl ?_)
    refine Ev.gDo (Ev.gPrim (orQ ⟨by omega, by omega⟩) rfl ?_)
    rw [Nat.or_comm, or_add (by omega), show u2 + rest * 2 ^ 32 = rest * 4294967296 + u2 by omega]
    refine Ev.gDo (Ev.gPrim gtrN rfl ?_)
    refine Ev.prim pick_f ?_
    refine Ev.ifp (fun h => more (hover g rest h1 h)) fun h => ?_
    exact Ev.ret ⟨g, rfl, hg, hU, hnear g rest hg h1 (by omega)⟩
  · rw [decide_eq_true hg]
    repeat refine Ev.gSkipF ?_
    refine Ev.prim pick_t ?_
    refine Ev.tt ?_
    refine more (Nat.lt_of_lt_of_le hUv (Nat.mul_le_mul_right _ hg))
theorem guess_loop {H0 B0 B H : AH} {L : List (Nat × Blk)} {us ys : List Nat} {b s4 s7 : Value} {bu j n Lu top U vt v2 u2 : Nat} (hS : St H0 B0 B ((bu, ⟨us.map u32, 70, .fix⟩) :: L) H) (hb : RdN B b ys) (hn : ys.length = n + 2) (hlu : us.length = Lu)
    (hj : j + (n + 3) ≤ Lu) (hlen : Lu < 549755813888) (hvt : ys.getD (n + 1) 0 = vt) (hv2 : ys.getD n 0 = v2) (hu2 : us.getD (j + n) 0 = u2) (hsmall : u2 < 4294967296) (hvtB : vt < 4294967296) (hvt0 : 1 ≤ vt) (hv2B : v2 < 4294967296)
    (hover : ∀ g rest, g * vt + rest = top → rest * 4294967296 + u2 < g * v2 → U < g * val ys) (hnear : ∀ g rest, g < 4294967296 → g * vt + rest = top → g * v2 ≤ rest * 4294967296 + u2 → g * val ys < U + val ys)
    (hUv : U < 4294967296 * val ys) (htop : top < 4294967296 * vt + 4294967296) (htB : top < 18446744073709551616) :
    ∀ (g rest : Nat), g * vt + rest = top → rest < 4294967296 → U < (g + 1) * val ys →
    Ev (fun k l => f75_L1 k b s4 s7 (i64 (n + 2)) (sl bu 0 Lu Lu) (i64 j) (u64 g) (u64 rest) l H)
      (fun o => ∃ g, o = (.exit 2, f75_X_L1 b s4 s7 (i64 (n + 2)) (sl bu 0 Lu Lu) (i64 j) (u64 g), H) ∧ g < 4294967296 ∧ U < (g + 1) * val ys ∧ g * val ys < U + val ys) := by
  intro g
  induction g with
  | zero =>
    intro rest h1 hr hU
    exact guess_step hS hb hn hlu hj hlen hvt hv2 hu2 hsmall hvtB hvt0 hv2B hover hnear hUv htop htB 0 rest h1 hr hU fun h => absurd h (by decide)
  | succ g ih =>
    intro rest h1 hr hU
    exact guess_step hS hb hn hlu hj hlen hvt hv2 hu2 hsmall hvtB hvt0 hv2B hover hnear hUv htop htB (g + 1) rest h1 hr hU fun _ h2 h3 => ih (rest + vt) (by rw [Nat.add_mul] at h1; omega) h2 h3
end Go.AM.Z
set_option linter.unusedVariables false
set_option linter.unusedSimpArgs false
set_option maxRecDepth 100000
namespace Go.AM.Z
open Go Go.AM Go.Proofs
attribute [local irreducible] run bin un ld st box newV mkS fldA fld ixA ix slc slc3 build buildS cv cvS ap cpy lenV gOp pickV b2 aIf aChk evalK resume iterD Option.bind

theorem long_loop {H0 B0 B : AH} {ys : List Nat} {b s7 : Value} {bu bq n M Lu N : Nat} (hb : RdN B b ys) (hn : ys.length = n + 2) (hLu : Lu = M + (n + 2)) (hlen : Lu < 549755813888) (hvt : 2147483648 ≤ ys.getD (n + 1) 0) :
    ∀ (m : Nat) (us qs : List Nat) (H : AH), m ≤ M → us.length = Lu → qs.length = M → small us → small qs → val (us.drop m) < val ys → N = val ys * (4294967296 ^ m * val (qs.drop m)) + val us →
    St H0 B0 B [(bu, ⟨us.map u32, 70, .fix⟩), (bq, ⟨qs.map u32, 70, .fix⟩)] H →
    Ev (fun k l => f75_L0 k b (sl bq 0 M M) s7 (i64 (n + 2)) (sl bu 0 Lu Lu) (.int .i64 ((m : Int) - 1)) l H)
      (fun o => ∃ us qs H, o = (.exit 0, f75_X_L0 (sl bq 0 M M) s7 (i64 (n + 2)) (sl bu 0 Lu Lu), H) ∧ us.length = Lu ∧ qs.length = M ∧ small us ∧ small qs ∧ val us < val ys ∧ N = val ys * val qs + val us ∧
        St H0 B0 B [(bu, ⟨us.map u32, 70, .fix⟩), (bq, ⟨qs.map u32, 70, .fix⟩)] H) := by
  intro m
  induction m with
  | zero =>
    intro us qs H hm hus hqs hsu hsq hv hN hS
    refine Ev.succ (fun k l => f75_L0_succ k _ _ _ _ _ _ l H) ?_
    refine Ev.prim bin_geq ?_
    refine Ev.ifp (fun h => absurd h (by omega)) fun _ => ?_
    rw [List.drop_zero] at hv hN
    rw [Nat.pow_zero, Nat.one_mul] at hN
    exact Ev.ret ⟨us, qs, H, rfl, hus, hqs, hsu, hsq, hv, hN, hS⟩
  | succ m ih =>
    intro us qs H hm hus hqs hsu hsq hv hN hS
    refine Ev.succ (fun k l => f75_L0_succ k _ _ _ _ _ _ l H) ?_
    rw [show (((m + 1 : Nat) : Int) - 1) = ((m : Nat) : Int) by omega]
    refine Ev.prim geqL ?_
    refine Ev.ifp (fun _ => ?_) fun h => absurd (Nat.zero_le _) h
    -- the numbers
    have hyl := val_lt hb.2
    rw [hn] at hyl
    have hU := val_drop_cons (xs := us) (m := m) (by omega)
    have hum := hsu.getD m
    have hUv : val (us.drop m) < 4294967296 * val ys := by
      have : 4294967296 * (val (us.drop (m + 1)) + 1) ≤ 4294967296 * val ys := Nat.mul_le_mul_left _ hv
      omega
    have hUB : val (us.drop m) < 4294967296 ^ (n + 3) := by
      rw [show n + 3 = (n + 2) + 1 by omega, Nat.pow_succ, Nat.mul_comm]
      exact Nat.lt_of_lt_of_le hUv (Nat.mul_le_mul_left _ (Nat.le_of_lt hyl))
    have hU3 := val_three (hsu.drop m) hUB
    have hv2 := val_two hn
    rw [getD_drop, getD_drop, getD_drop] at hU3
    have hul := val_take_lt (hsu.drop m) n
    have hvl := val_take_lt hb.2 n
    have hu2B := hsu.getD (m + n)
    have htB1 := hsu.getD (m + (n + 1))
    have htB2 := hsu.getD (m + (n + 2))
    have hvtB := hb.2.getD (n + 1)
    have hv2B := hb.2.getD n
    have hlow : val ((us.drop m).drop (n + 3)) = 0 := by
      rw [← (val_div_mod (hsu.drop m) (n + 3)).1, Nat.div_eq_of_lt hUB]
    generalize hvt' : ys.getD (n + 1) 0 = vt at *
    generalize hv2' : ys.getD n 0 = v2 at *
    generalize hu2' : us.getD (m + n) 0 = u2 at *
    generalize ht1' : us.getD (m + (n + 1)) 0 = t1 at *
    generalize ht2' : us.getD (m + (n + 2)) 0 = t2 at *
    generalize hul' : val ((us.drop m).take n) = ul at *
    generalize hvl' : val (ys.take n) = vl at *
    generalize hp' : 4294967296 ^ n = p at *
    -- the walk
    refine Ev.prim (addN (by omega)) ?_
    refine Ev.prim (ixA_own Ew (by omega)) ?_
    refine Ev.ldW Ew hS (.head _) (j := m + (n + 2)) (by omega) (by omega) ?_
    rw [ht2']
    refine Ev.prim (toU64 (by omega) Uw Uq) ?_
    refine Ev.prim (shlQL ⟨by decide, by omega⟩) ?_
    refine Ev.prim (addN (by omega)) ?_
    refine Ev.prim (subL ⟨by omega, by omega⟩) ?_
    refine Ev.prim (ixA_own Ew (by omega)) ?_
    refine Ev.ldW Ew hS (.head _) (j := m + (n + 1)) (by omega) (by omega) ?_
    rw [ht1']
    refine Ev.prim (toU64 (by omega) Uw Uq) ?_
    refine Ev.prim (orQ ⟨by omega, by omega⟩) ?_
    rw [Nat.or_comm, or_add (by omega), show t1 + t2 * 2 ^ 32 = t2 * 4294967296 + t1 by omega]
    obtain ⟨a, ha1, ha2⟩ := hb.ixN (k := .i64) (i := n + 1) Ew (by omega)
    have ha3 := ha2 H hS.le
    rw [hvt'] at ha3
    refine Ev.prim (subL (a := n + 2) ⟨by omega, by omega⟩) ?_
    refine Ev.prim ha1 ?_
    refine Ev.prim ha3 ?_
    refine Ev.prim (toU64 (by omega) Uw Uq) ?_
    refine Ev.prim (quoQ ⟨by omega, by omega⟩) ?_
    refine Ev.prim (subL (a := n + 2) ⟨by omega, by omega⟩) ?_
    refine Ev.prim ha1 ?_
    refine Ev.prim ha3 ?_
    refine Ev.prim (toU64 (by omega) Uw Uq) ?_
    refine Ev.prim (remN (by omega)) ?_
    have hUe := hU3
    have hve := hv2
    generalize htop : t2 * 4294967296 + t1 = top at *
    have hkt := knuth_top (u2 := u2) (ul := ul) (top := top) hvl hv2B (by rw [← hUe, ← hve]; exact hUv)
    have hkf := knuth_first (p := p) (vt := vt) (v2 := v2) (vl := vl) (u2 := u2) (ul := ul) (top := top) hul hu2B (by omega)
    rw [← hUe, ← hve] at hkf
    refine Ev.bind (Ev.loop (guess_loop (U := val (us.drop m)) (top := top) hS hb hn hus (j := m) (by omega) hlen hvt' hv2' hu2' hu2B hvtB (by omega) hv2B
      (fun g rest h1 h2 => by rw [hUe, hve]; exact knuth_over hul h1 h2) (fun g rest hg h1 h2 => by rw [hUe, hve]; exact knuth_near hvl hg (by omega) h1 h2)
      hUv hkt (by omega) (top / vt) (top % vt) (by rw [Nat.mul_comm]; exact Nat.div_add_mod ..) (Nat.lt_trans (Nat.mod_lt _ (by omega)) hvtB) hkf)) ?_
    rintro _ ⟨g, rfl, hgB, hg1, hg2⟩
    refine Ev.eq (fun k l => f75_A1_x2 k l _ _ _ _ _ _ _ H) ?_
    refine Ev.prim (addN (by omega)) ?_
    refine Ev.prim (addL (by omega)) ?_
    refine Ev.prim (slc_own ⟨by omega, by omega, by omega⟩) ?_
    rw [show m + (n + 2) + 1 - m = ys.length + 1 by omega]
    have last : ∀ (d : Nat) (zs : List Nat) (H : AH), d < 4294967296 → zs.length = Lu → small zs → val (zs.drop m) + d * val ys = val (us.drop m) → val (us.drop m) < (d + 1) * val ys → zs.take m = us.take m →
        St H0 B0 B [(bu, ⟨zs.map u32, 70, .fix⟩), (bq, ⟨qs.map u32, 70, .fix⟩)] H → Ev (fun k l => f75_J0 k l b (sl bq 0 M M) s7 (i64 (n + 2)) (sl bu 0 Lu Lu) (i64 m) (u64 d) H)
      (fun o => ∃ us qs H, o = (.exit 0, f75_X_L0 (sl bq 0 M M) s7 (i64 (n + 2)) (sl bu 0 Lu Lu), H) ∧ us.length = Lu ∧ qs.length = M ∧ small us ∧ small qs ∧ val us < val ys ∧ N = val ys * val qs + val us ∧
        St H0 B0 B [(bu, ⟨us.map u32, 70, .fix⟩), (bq, ⟨qs.map u32, 70, .fix⟩)] H) := by
      intro d zs H hd hzl hzs hz1 hz2 hz3 hS
      refine Ev.eq (fun k l => f75_J0_eq k l _ _ _ _ _ _ _ H) ?_
      refine Ev.prim (toU32 Uq Uw) ?_
      rw [Nat.mod_eq_of_lt hd]
      refine Ev.prim (ixA_own Ew (by omega)) ?_
      refine Ev.stW Ew hS (.tail _ (.head _)) (j := m) (by omega) (by omega) rfl (by simp) (.tail _ (.head _)) fun H1 hS1 => ?_
      refine Ev.prim (bin_sub64 (by omega)) ?_
      refine ih zs _ H1 (by omega) hzl (by simp [hqs]) hzs (hsq.set _ hd) (by rw [Nat.add_mul] at hz2; omega) ?_ hS1
      have e1 := val_drop zs m
      have e2 := val_drop us m
      rw [hz3] at e1
      rw [val_drop_cons (xs := qs.set m d) (by simp; omega), getD_set_self (by omega), List.drop_set_of_lt (by omega), hN, e1, e2, ← hz1, Nat.pow_succ]
      exact long_step ..
    refine Ev.b2 (take_spec hb hgB (by omega) (by omega) hsu hS) ?_
    rintro v H1 ⟨zs, bo, H2, e, hzl, hzs, hbo, hzv, hz1, hz2, hS1⟩
    cases e
    have e1 := val_drop zs m
    have e2 := val_drop us m
    rw [hz1] at e1
    have hlen3 : m + (ys.length + 1) = m + (n + 3) := by omega
    rw [hlen3] at hz2 hzv
    have hzlow : val ((zs.drop m).drop (n + 3)) = 0 := by rw [List.drop_drop, hz2, ← List.drop_drop]; exact hlow
    have hzlt : val (zs.drop m) < 4294967296 ^ (n + 3) := by
      have := val_drop (zs.drop m) (n + 3)
      rw [hzlow, Nat.mul_zero, Nat.add_zero] at this
      rw [this]; exact val_take_lt (hzs.drop m) (n + 3)
    have hpm : 0 < 4294967296 ^ m := Nat.pow_pos (by decide)
    have hz3 : val (zs.drop m) + g * val ys = val (us.drop m) + 4294967296 ^ (n + 3) * bo := by
      refine Nat.eq_of_mul_eq_mul_left hpm ?_
      rw [Nat.mul_add, Nat.mul_add, ← Nat.mul_assoc (4294967296 ^ m) (4294967296 ^ (n + 3)), ← Nat.pow_add]
      omega
    refine Ev.ifp (fun h => ?_) fun h => ?_
    · have hb1 : bo = 1 := by omega
      subst hb1
      obtain ⟨g', rfl⟩ : ∃ g', g = g' + 1 := by
        refine ⟨g - 1, ?_⟩
        have : g ≠ 0 := by intro e; subst e; omega
        omega
      refine Ev.prim (subQL ⟨by omega, by omega⟩) ?_
      refine Ev.prim (addN (by omega)) ?_
      refine Ev.prim (addL (by omega)) ?_
      refine Ev.prim (slc_own ⟨by omega, by omega, by omega⟩) ?_
      rw [show m + (n + 2) + 1 - m = ys.length + 1 by omega, Nat.add_sub_cancel]
      refine Ev.b2 (give_spec hb (by omega) (by omega) hzs hS1) ?_
      rintro v H1 ⟨ws, c, H3, e, hwl, hws, hc, hwv, hw1, hw2, hS2⟩
      cases e
      rw [hlen3] at hw2 hwv
      have e3 := val_drop ws m
      rw [hw1, hz1] at e3
      have hwlow : val ((ws.drop m).drop (n + 3)) = 0 := by rw [List.drop_drop, hw2, hz2, ← List.drop_drop]; exact hlow
      have hwlt : val (ws.drop m) < 4294967296 ^ (n + 3) := by
        have := val_drop (ws.drop m) (n + 3)
        rw [hwlow, Nat.mul_zero, Nat.add_zero] at this
        rw [this]; exact val_take_lt (hws.drop m) (n + 3)
      have hw3 : val (ws.drop m) + 4294967296 ^ (n + 3) * c = val (zs.drop m) + val ys := by
        refine Nat.eq_of_mul_eq_mul_left hpm ?_
        rw [Nat.mul_add, Nat.mul_add, ← Nat.mul_assoc (4294967296 ^ m) (4294967296 ^ (n + 3)), ← Nat.pow_add]
        omega
      have hc1 : c = 1 := by
        rcases Nat.eq_zero_or_pos c with h0 | h0
        · subst h0; omega
        · omega
      subst hc1
      exact last g' ws _ (by omega) (by omega) hws (long_fin1 hz3 hw3) (long_fin2 hz3 hzlt) (by rw [hw1, hz1]) hS2
    · have hb0 : bo = 0 := by omega
      subst hb0
      rw [Nat.mul_zero, Nat.add_zero] at hz3
      exact last g zs _ hgB (by omega) hzs hz3 hg1 hz1 hS1
end Go.AM.Z
set_option linter.unusedVariables false
namespace Go.AM
variable {R : Type} {P : Program} {t e : TypeId} {z : Value} {sz : Nat}
theorem Ev.cpyW {H0 B0 B L L' H} {b cap : Nat} {v : Value} {us xs : List Nat} {kd : BK} {f : Nat → Nat → Value → AH → Option R} {Q : R → Prop} (hE : Elt P t e z sz) (hS : St H0 B0 B L H) (hm : (b, ⟨us.map u32, e, kd⟩) ∈ L)
    (hx : RdN B v xs) (hl : xs.length ≤ us.length) (hk : kd ≠ .ro) (hu : Upd b ⟨us.map u32, e, kd⟩ ⟨(xs ++ us.drop xs.length).map u32, e, kd⟩ L L') (h : ∀ H', St H0 B0 B L' H' → Ev (fun k n => f k n (i64 xs.length) H') Q) :
    Ev (fun k n => Go.AM.b2 (cpy P t H (sl b 0 us.length cap) v) (f k n)) Q := by
  have hx' := hx.1.up hS.le
  have e1 := sliceCells_of hx'
  have e2 := lenOf_of hx'
  rw [List.length_map] at e1 e2
  have hmin : min xs.length us.length = xs.length := Nat.min_eq_left hl
  by_cases h0 : xs.length = 0
  · have : xs = [] := List.length_eq_zero_iff.mp h0
    subst this
    rw [List.nil_append, List.length_nil, List.drop_zero] at hu
    have hLL : L' = L := by
      clear hm hS h
      induction hu with
      | head => rfl
      | tail x _ ih => rw [ih]
    subst hLL
    refine Ev.prim2 ?_ (h H hS)
    unfold cpy sl
    rw [hE.U]; simp only
    rw [hE.I, if_neg (by simp), e2, Option.bind_some, hmin, hE.S, e1, Option.bind_some, if_pos h0]; rfl
  · refine Ev.prim2 ?_ (h _ (hS.put (cs := (xs ++ us.drop xs.length).map u32) hu))
    unfold cpy sl
    rw [hE.U]; simp only
    rw [hE.I, if_neg (by simp), e2, Option.bind_some, hmin, hE.S, e1, Option.bind_some, if_neg h0, hS.get hm, Option.bind_some]
    simp only
    rw [if_pos ⟨hk, by simp; omega, all_u32 xs⟩]
    simp [spl]
end Go.AM
set_option linter.unusedVariables false
set_option linter.unusedSimpArgs false
set_option maxRecDepth 100000
namespace Go.AM.Z
open Go Go.AM Go.Proofs
attribute [local irreducible] run bin un ld st box newV mkS fldA fld ixA ix slc slc3 build buildS cv cvS ap cpy lenV gOp pickV b2 aIf aChk evalK resume iterD Option.bind

theorem norm_top {y n : Nat} (hn : (limbs y).length = n + 2) : (limbs (y * 2 ^ (32 - nbits ((limbs y).getD (n + 1) 0)))).length = n + 2 ∧ 2147483648 ≤ (limbs (y * 2 ^ (32 - nbits ((limbs y).getD (n + 1) 0)))).getD (n + 1) 0 := by
  have hy : y ≠ 0 := by intro e; subst e; rw [limbs_zero] at hn; cases hn
  have h1 := nbits_limbs hy
  rw [hn, show n + 2 - 1 = n + 1 by omega] at h1
  have h32 : nbits ((limbs y).getD (n + 1) 0) ≤ 32 := nbits_le.mpr ((small_limbs y).getD _)
  generalize nbits ((limbs y).getD (n + 1) 0) = t at *
  have h2 := nbits_mul_pow (k := 32 - t) hy
  generalize hz : y * 2 ^ (32 - t) = z at *
  have hz0 : z ≠ 0 := by intro e; rw [e] at h2; have := nbits_pos hy; rw [nbits_zero] at h2; omega
  have h3 := nbits_limbs hz0
  have h4 : nbits ((limbs z).getD ((limbs z).length - 1) 0) ≤ 32 := nbits_le.mpr ((small_limbs z).getD _)
  have hl : (limbs z).length ≠ 0 := fun e => hz0 (limbs_eq_nil.mp (List.length_eq_zero_iff.mp e))
  have hne : (limbs z).getD ((limbs z).length - 1) 0 ≠ 0 := by
    refine limbs_getLast (n := z) _ ?_
    rw [List.getLast?_eq_getElem?, List.getD_eq_getElem?_getD, List.getElem?_eq_getElem (by omega)]; rfl
  have h5 := nbits_pos hne
  have hlen : (limbs z).length = n + 2 := by omega
  refine ⟨hlen, ?_⟩
  rw [hlen, show n + 2 - 1 = n + 1 by omega] at h3 hne
  exact nbits_ge (n := (limbs z).getD (n + 1) 0) hne |> fun h => by
    rw [show nbits ((limbs z).getD (n + 1) 0) = 32 by omega] at h; exact h
theorem long_spec {B H : AH} {a b : Value} {x y n : Nat} (ha : RdN B a (limbs x)) (hb : RdN B b (limbs y)) (hn : (limbs y).length = n + 2) (hxy : y ≤ x) (hm : (limbs x).length < 137438953472) (hL : Le B H) :
    Ev (fun k _ => rn k 75 [a, b] H) (An B H fun B' v => ∃ q r, v = .tuple #[q, r, .bool true] ∧ RdN B' q (limbs (x / y)) ∧ RdN B' r (limbs (x % y))) := by
  refine Ev.fn (fun k => f75_eq k _ _ H) ?_
  have hlen := limbs_length_mono hxy
  obtain ⟨hl1, hl2⟩ := norm_top hn
  have h32 : nbits ((limbs y).getD (n + 1) 0) ≤ 32 := nbits_le.mpr ((small_limbs y).getD _)
  have hS := St.start hL
  refine Ev.prim (hb.lenN Ew) ?_
  refine Ev.prim (subL ⟨by omega, by omega⟩) ?_
  obtain ⟨p, hp1, hp2⟩ := hb.ixN (k := .i64) (i := (limbs y).length - 1) Ew (by omega)
  refine Ev.prim hp1 ?_
  refine Ev.prim (hp2 H hL.le) ?_
  rw [show (limbs y).length - 1 = n + 1 by omega]
  refine Ev.callU (LZ_spec ((small_limbs y).getD _)) ?_
  rintro _ rfl
  generalize hk : 32 - nbits ((limbs y).getD (n + 1) 0) = k at *
  refine Ev.call hS (Shl_spec (n := k) hb (by omega) (by omega)) fun v B1 H1 hm1 hS1 h1 => ?_
  obtain ⟨b', rfl, hb'⟩ := h1
  rw [val_limbs] at hb'
  refine Ev.prim ext_0 ?_
  refine Ev.prim ext_1 ?_
  refine Ev.prim (hb'.lenN Ew) ?_
  refine Ev.prim (ha.lenN Ew) ?_
  refine Ev.prim (addL (by omega)) ?_
  refine Ev.mkS Ew hS1 (by omega) (by omega) fun bu B2 H2 hm2 hS2 => ?_
  rw [map_replicate] at hS2
  refine Ev.call hS2 (Shl_spec (n := k) (ha.mono (hm1.trans hm2)) (by omega) (by omega)) fun v B3 H3 hm3 hS3 h3 => ?_
  obtain ⟨up, rfl, hup⟩ := h3
  rw [val_limbs] at hup
  refine Ev.prim ext_0 ?_
  refine Ev.prim ext_1 ?_
  have hxl := val_lt (small_limbs x)
  rw [val_limbs] at hxl
  have hk32 : k ≤ 32 := by omega
  have hpk : 2 ^ k ≤ 4294967296 := Nat.pow_le_pow_right (n := 2) (by decide) hk32
  have hupl : (limbs (x * 2 ^ k)).length ≤ (limbs x).length + 1 := limbs_length_le (by
    rw [Nat.pow_succ]
    exact Nat.lt_of_lt_of_le (Nat.mul_lt_mul_of_pos_right hxl (Nat.pow_pos (by decide))) (Nat.mul_le_mul_left _ hpk))
  have hrl : (List.replicate ((limbs x).length + 1) 0).length = (limbs x).length + 1 := List.length_replicate
  rw [← hrl]
  refine Ev.cpyW Ew hS3 (.head _) hup (by omega) (by simp) (.head _) fun H4 hS4 => ?_
  rw [hrl]
  refine Ev.prim (ha.lenN Ew) ?_
  rw [hl1]
  refine Ev.prim (subN ⟨by omega, by omega⟩) ?_
  refine Ev.prim (addL (by omega)) ?_
  refine Ev.mkS Ew hS4 (by omega) (by omega) fun bq B5 H5 hm5 hS5 => ?_
  rw [map_replicate] at hS5
  refine Ev.prim (ha.lenN Ew) ?_
  refine Ev.prim (subN ⟨by omega, by omega⟩) ?_
  have hyB : 4294967296 ^ (n + 1) ≤ y := by
    rcases Nat.lt_or_ge y (4294967296 ^ (n + 1)) with h | h
    · have := limbs_length_le h; omega
    · exact h
  generalize hu0 : limbs (x * 2 ^ k) ++ (List.replicate ((limbs x).length + 1) 0).drop (limbs (x * 2 ^ k)).length = us at *
  have hul : us.length = (limbs x).length + 1 := by rw [← hu0]; simp; omega
  have hus : small us := by rw [← hu0]; exact (small_limbs _).append ((small_replicate _).drop _)
  have huv : val us = x * 2 ^ k := by rw [← hu0, val_append, val_limbs, List.drop_replicate, val_replicate, Nat.mul_zero, Nat.add_zero]
  obtain ⟨M, hM⟩ : ∃ M, (limbs x).length + 1 = M + (n + 2) := ⟨(limbs x).length + 1 - (n + 2), by omega⟩
  rw [show (limbs x).length - (n + 2) + 1 = M by omega] at hS5 ⊢
  rw [show i64 ((limbs x).length - (n + 2)) = Value.int .i64 ((M : Int) - 1) from int_eq (by omega)]
  have hb5 := hb'.mono ((hm2.trans hm3).trans hm5)
  have hS6 := hS5.perm (L' := [(bu, ⟨us.map u32, 70, .fix⟩), (bq, ⟨(List.replicate M 0).map u32, 70, .fix⟩)]) (List.Perm.swap ..)
  have hdv : val (us.drop M) < val (limbs (y * 2 ^ k)) := by
    rw [val_limbs, ← (val_div_mod hus M).1, huv]
    refine Nat.div_lt_of_lt_mul ?_
    rw [← Nat.mul_assoc]
    refine Nat.mul_lt_mul_of_pos_right ?_ (Nat.pow_pos (by decide))
    refine Nat.lt_of_lt_of_le hxl ?_
    rw [show (limbs x).length = M + (n + 1) by omega, Nat.pow_add]
    exact Nat.mul_le_mul_left _ hyB
  refine Ev.bind (Ev.loop (long_loop (s7 := i64 k) (M := M) (Lu := (limbs x).length + 1) (N := x * 2 ^ k) hb5 hl1 hM (by omega) hl2 M us (List.replicate M 0) H5 (Nat.le_refl _) hul (by simp) hus (small_replicate _) hdv
    (by rw [List.drop_eq_nil_of_le (by simp)]; simp [val, huv]) hS6)) ?_
  rintro _ ⟨us, qs, H7, rfl, hul, hql, hus, hqs, hlt, hN, hS7⟩
  rw [val_limbs] at hlt hN
  have h2k : 0 < 2 ^ k := Nat.pow_pos (by decide)
  have hy0 : 0 < y := Nat.lt_of_lt_of_le (Nat.pow_pos (by decide)) hyB
  have hq : val qs = x / y := by
    rw [← Nat.mul_div_mul_right x y h2k, hN, Nat.mul_add_div (Nat.mul_pos hy0 h2k), Nat.div_eq_of_lt hlt, Nat.add_zero]
  have hr : val us / 2 ^ k = x % y := by
    have h := Nat.mul_mod_mul_right (2 ^ k) x y
    rw [hN, Nat.mul_add_mod, Nat.mod_eq_of_lt hlt] at h
    rw [h, Nat.mul_div_cancel _ h2k]
  refine Ev.eq (fun k _ => f75_A0_x0 k _ _ _ _ H7) ?_
  obtain ⟨B8, hm8, hu8, hS8⟩ := hS7.freezeN (n := (limbs x).length + 1) (cap := (limbs x).length + 1) hus hul.symm (by omega)
  obtain ⟨B9, hm9, hq9, hS9⟩ := hS8.freezeN (n := M) (cap := M) hqs hql.symm (by omega)
  refine Ev.call hS9 (Trim_spec (by omega) hq9) fun q Ba Ha hma hSa hqa => ?_
  obtain ⟨v, hv1, hv2⟩ := (hu8.mono (hm9.trans hma)).uptoN (k := .i64) (i := n + 2) Ew (by omega)
  refine Ev.prim hv1 ?_
  have ht : val (us.take (n + 2)) = val us := by
    rw [← (val_div_mod hus (n + 2)).2, Nat.mod_eq_of_lt]
    have := val_lt (small_limbs (y * 2 ^ k))
    rw [val_limbs, hl1] at this
    exact Nat.lt_trans hlt this
  refine Ev.call hSa (Shr_spec hv2 (by rw [List.length_take]; omega) (by omega)) fun r Bb Hb hmb hSb hrb => ?_
  rw [hq] at hqa
  rw [ht, hr] at hrb
  exact Ev.done hSb ⟨q, r, rfl, hqa.mono hmb, hrb⟩
end Go.AM.Z
set_option linter.unusedVariables false
set_option linter.unusedSimpArgs false
set_option maxRecDepth 100000
namespace Go.AM.Z
open Go Go.AM Go.Proofs
attribute [local irreducible] run bin un ld st box newV mkS fldA fld ixA ix slc slc3 build buildS cv cvS ap cpy lenV gOp pickV b2 aIf aChk evalK resume iterD Option.bind

theorem cmpN_lt {a b : Nat} : cmpN a b < 0 ↔ a < b := by
  unfold cmpN; by_cases h : a < b
  · rw [if_pos h]; omega
  · rw [if_neg h]; by_cases h' : b < a
    · rw [if_pos h']; omega
    · rw [if_neg h']; omega
theorem DivMod_spec {B H : AH} {xs ys : List Nat} {a b : Value} (ha : RdN B a xs) (hb : RdN B b ys) (hm : xs.length < 137438953472) (hm' : ys.length < 137438953472) (hy : val ys ≠ 0) (hL : Le B H) :
    Ev (fun k _ => rn k 48 [a, b] H) (An B H fun B' v => ∃ q r, v = .tuple #[q, r, .bool true] ∧ RdN B' q (limbs (val xs / val ys)) ∧ RdN B' r (limbs (val xs % val ys))) := by
  refine Ev.fn (fun k => f48_eq k _ _ H) ?_
  have hx := limbs_length_le (val_lt ha.2)
  have hyl := limbs_length_le (val_lt hb.2)
  refine Ev.call (St.start hL) (Trim_spec (by omega) hb) fun b B1 H1 hm1 hS1 hb => ?_
  refine Ev.call hS1 (Trim_spec (by omega) (ha.mono hm1)) fun a B2 H2 hm2 hS2 ha => ?_
  have hb := hb.mono hm2
  generalize val xs = x at *
  generalize val ys = y at *
  have hyne : (limbs y).length ≠ 0 := fun e => hy (limbs_eq_nil.mp (List.length_eq_zero_iff.mp e))
  refine Ev.prim (hb.lenN Ew) ?_
  refine Ev.prim eqlL ?_
  refine Ev.ifp (fun h => absurd h hyne) fun _ => ?_
  refine Ev.callU (Cmp_spec ha hb (by omega) (by omega) hS2.lel) ?_
  rintro _ rfl
  rw [val_limbs, val_limbs]
  refine Ev.prim bin_lss ?_
  refine Ev.ifp (fun h => ?_) fun h => ?_
  · rw [cmpN_lt] at h
    refine Ev.done hS2 ⟨_, _, rfl, ?_, ?_⟩
    · rw [Nat.div_eq_of_lt h, limbs_zero]; exact RdN.nil
    · rw [Nat.mod_eq_of_lt h]; exact ha
  rw [cmpN_lt] at h
  refine Ev.prim (hb.lenN Ew) ?_
  refine Ev.prim eqlL ?_
  refine Ev.ifp (fun h1 => ?_) fun h1 => ?_
  · obtain ⟨p, hp1, hp2⟩ := hb.ixN (k := .i64) (i := 0) Ew (by omega)
    refine Ev.prim hp1 ?_
    refine Ev.prim (hp2 H2 hS2.le) ?_
    have hd : y = (limbs y).getD 0 0 := by
      conv => lhs; rw [← val_limbs y]
      match limbs y, h1 with
      | [d], _ => simp [val]
    have hd0 := (small_limbs y).getD 0
    rw [← hd] at hd0 ⊢
    refine Ev.call hS2 (short_spec ha hd0 hy (by omega)) fun v B3 H3 hm3 hS3 h3 => ?_
    obtain ⟨q, r, rfl, hq, hr⟩ := h3
    rw [val_limbs] at hq hr
    repeat (first | refine Ev.some2 ?_ | refine Ev.some1 ?_ | refine Ev.gDo ?_ | refine Ev.gSkipT ?_ | refine Ev.gSkipF ?_ | refine Ev.gUndef ?_ | refine Ev.gCall ?_ | refine Ev.tt ?_ | refine Ev.ff ?_ | refine Ev.gPrim (by (first | with_reducible exact lssL | with_reducible exact gtrL | with_reducible exact eqlL | with_reducible exact neqL | with_reducible exact leqL | with_reducible exact geqL | with_reducible exact lssN | with_reducible exact gtrN | with_reducible exact eqlN | with_reducible exact neqN | with_reducible exact leqN | with_reducible exact geqN | (with_reducible refine addL ?_; omega) | (with_reducible refine subL ?_; omega) | (with_reducible refine quoL ?_; omega) | (with_reducible refine mulL ?_; omega) | (with_reducible refine lmul ?_; omega) | (with_reducible refine addN ?_; omega) | (with_reducible refine subN ?_; omega) | (with_reducible refine quoN ?_; omega) | (with_reducible refine mulN ?_; omega) | (with_reducible refine addQ ?_; omega) | (with_reducible refine subQ ?_; omega) | (with_reducible refine mulQ ?_; omega) | (with_reducible refine shlQL ?_; omega) | (with_reducible refine shlQ ?_; omega) | (with_reducible refine remL ?_; decide) | (with_reducible refine shrL ?_; decide) | (with_reducible refine remN ?_; omega) | (with_reducible refine toU64 ?_ Uw Uq; omega) | (with_reducible exact toU32 Uq Uw) | exact bin_lss | exact bin_gtr | exact bin_eql | exact bin_neq | exact bin_leq | exact bin_geq | exact lenV_sl Us | exact ext_0 | exact ext_1 | exact ext_2 | exact pick_t | exact pick_f | exact bin_add64 (by omega) | exact bin_sub64 (by omega) | exact un_not | exact cv_int Uq Uw | exact cv_int Uw Uq | exact bin_add | exact bin_sub | exact bin_mul | rfl)) rfl ?_ | refine Ev.prim (by (first | with_reducible exact lssL | with_reducible exact gtrL | with_reducible exact eqlL | with_reducible exact neqL | with_reducible exact leqL | with_reducible exact geqL | with_reducible exact lssN | with_reducible exact gtrN | with_reducible exact eqlN | with_reducible exact neqN | with_reducible exact leqN | with_reducible exact geqN | (with_reducible refine addL ?_; omega) | (with_reducible refine subL ?_; omega) | (with_reducible refine quoL ?_; omega) | (with_reducible refine mulL ?_; omega) | (with_reducible refine lmul ?_; omega) | (with_reducible refine addN ?_; omega) | (with_reducible refine subN ?_; omega) | (with_reducible refine quoN ?_; omega) | (with_reducible refine mulN ?_; omega) | (with_reducible refine addQ ?_; omega) | (with_reducible refine subQ ?_; omega) | (with_reducible refine mulQ ?_; omega) | (with_reducible refine shlQL ?_; omega) | (with_reducible refine shlQ ?_; omega) | (with_reducible refine remL ?_; decide) | (with_reducible refine shrL ?_; decide) | (with_reducible refine remN ?_; omega) | (with_reducible refine toU64 ?_ Uw Uq; omega) | (with_reducible exact toU32 Uq Uw) | exact bin_lss | exact bin_gtr | exact bin_eql | exact bin_neq | exact bin_leq | exact bin_geq | exact lenV_sl Us | exact ext_0 | exact ext_1 | exact ext_2 | exact pick_t | exact pick_f | exact bin_add64 (by omega) | exact bin_sub64 (by omega) | exact un_not | exact cv_int Uq Uw | exact cv_int Uw Uq | exact bin_add | exact bin_sub | exact bin_mul | rfl)) ?_)
    exact Ev.done hS3 ⟨q, r, rfl, hq, hr⟩
  · obtain ⟨n, hn⟩ : ∃ n, (limbs y).length = n + 2 := ⟨(limbs y).length - 2, by omega⟩
    refine Ev.call hS2 (long_spec ha hb hn (by omega) (by omega)) fun v B3 H3 hm3 hS3 h3 => ?_
    obtain ⟨q, r, rfl, hq, hr⟩ := h3
    repeat (first | refine Ev.some2 ?_ | refine Ev.some1 ?_ | refine Ev.gDo ?_ | refine Ev.gSkipT ?_ | refine Ev.gSkipF ?_ | refine Ev.gUndef ?_ | refine Ev.gCall ?_ | refine Ev.tt ?_ | refine Ev.ff ?_ | refine Ev.gPrim (by (first | with_reducible exact lssL | with_reducible exact gtrL | with_reducible exact eqlL | with_reducible exact neqL | with_reducible exact leqL | with_reducible exact geqL | with_reducible exact lssN | with_reducible exact gtrN | with_reducible exact eqlN | with_reducible exact neqN | with_reducible exact leqN | with_reducible exact geqN | (with_reducible refine addL ?_; omega) | (with_reducible refine subL ?_; omega) | (with_reducible refine quoL ?_; omega) | (with_reducible refine mulL ?_; omega) | (with_reducible refine lmul ?_; omega) | (with_reducible refine addN ?_; omega) | (with_reducible refine subN ?_; omega) | (with_reducible refine quoN ?_; omega) | (with_reducible refine mulN ?_; omega) | (with_reducible refine addQ ?_; omega) | (with_reducible refine subQ ?_; omega) | (with_reducible refine mulQ ?_; omega) | (with_reducible refine shlQL ?_; omega) | (with_reducible refine shlQ ?_; omega) | (with_reducible refine remL ?_; decide) | (with_reducible refine shrL ?_; decide) | (with_reducible refine remN ?_; omega) | (with_reducible refine toU64 ?_ Uw Uq; omega) | (with_reducible exact toU32 Uq Uw) | exact bin_lss | exact bin_gtr | exact bin_eql | exact bin_neq | exact bin_leq | exact bin_geq | exact lenV_sl Us | exact ext_0 | exact ext_1 | exact ext_2 | exact pick_t | exact pick_f | exact bin_add64 (by omega) | exact bin_sub64 (by omega) | exact un_not | exact cv_int Uq Uw | exact cv_int Uw Uq | exact bin_add | exact bin_sub | exact bin_mul | rfl)) rfl ?_ | refine Ev.prim (by (first | with_reducible exact lssL | with_reducible exact gtrL | with_reducible exact eqlL | with_reducible exact neqL | with_reducible exact leqL | with_reducible exact geqL | with_reducible exact lssN | with_reducible exact gtrN | with_reducible exact eqlN | with_reducible exact neqN | with_reducible exact leqN | with_reducible exact geqN | (with_reducible refine addL ?_; omega) | (with_reducible refine subL ?_; omega) | (with_reducible refine quoL ?_; omega) | (with_reducible refine mulL ?_; omega) | (with_reducible refine lmul ?_; omega) | (with_reducible refine addN ?_; omega) | (with_reducible refine subN ?_; omega) | (with_reducible refine quoN ?_; omega) | (with_reducible refine mulN ?_; omega) | (with_reducible refine addQ ?_; omega) | (with_reducible refine subQ ?_; omega) | (with_reducible refine mulQ ?_; omega) | (with_reducible refine shlQL ?_; omega) | (with_reducible refine shlQ ?_; omega) | (with_reducible refine remL ?_; decide) | (with_reducible refine shrL ?_; decide) | (with_reducible refine remN ?_; omega) | (with_reducible refine toU64 ?_ Uw Uq; omega) | (with_reducible exact toU32 Uq Uw) | exact bin_lss | exact bin_gtr | exact bin_eql | exact bin_neq | exact bin_leq | exact bin_geq | exact lenV_sl Us | exact ext_0 | exact ext_1 | exact ext_2 | exact pick_t | exact pick_f | exact bin_add64 (by omega) | exact bin_sub64 (by omega) | exact un_not | exact cv_int Uq Uw | exact cv_int Uw Uq | exact bin_add | exact bin_sub | exact bin_mul | rfl)) ?_)
    exact Ev.done hS3 ⟨q, r, rfl, hq, hr⟩
end Go.AM.Z

set_option linter.unusedVariables false
set_option linter.unusedSimpArgs false
set_option maxRecDepth 100000
namespace Go.AM.Z
open Go Go.AM Go.Proofs
attribute [local irreducible] run bin un ld st box newV mkS fldA fld ixA ix slc slc3 build buildS cv cvS ap cpy lenV gOp pickV b2 aIf aChk evalK resume iterD Option.bind

end Go.AM.Z
set_option linter.unusedVariables false
namespace Go.AM
variable {R : Type} {P : Program} {t : TypeId}
theorem Ev.boxA {H0 B0 B L H} {l : List Value} {f : Nat → Nat → Value → AH → Option R} {Q : R → Prop} (hS : St H0 B0 B L H) (hv : l.all isCell = true)
    (h : ∀ b H', St H0 B0 B ((b, ⟨l, t, .fix⟩) :: L) H' → Ev (fun k n => f k n (ptr b 0) H') Q) : Ev (fun k n => Go.AM.b2 (Go.AM.box t H (.agg ⟨l⟩)) (f k n)) Q :=
  Ev.prim2 (by unfold Go.AM.box; rw [if_pos (show okCells (.agg ⟨l⟩) = true from hv)]; rfl) (h H.length _ (hS.mkB' l t .fix))
theorem cells_one {v : Value} (h : isCell v = true) : v.cells.toList = [v] := by
  cases v with
  | agg cs => exact absurd h (by simp [isCell])
  | tuple cs => exact absurd h (by simp [isCell])
  | _ => rfl
theorem Ev.newA {H0 B0 B L H} {l : List Value} {f : Nat → Nat → Value → AH → Option R} {Q : R → Prop} (hz : zeroT P t = some (.agg ⟨l⟩)) (hS : St H0 B0 B L H) (hv : l.all isCell = true)
    (h : ∀ b H', St H0 B0 B ((b, ⟨l, t, .fix⟩) :: L) H' → Ev (fun k n => f k n (ptr b 0) H') Q) : Ev (fun k n => Go.AM.b2 (Go.AM.newV P t H) (f k n)) Q := by
  have e : Go.AM.newV P t H = Go.AM.box t H (.agg ⟨l⟩) := by unfold Go.AM.newV; rw [hz]; rfl
  rw [e]; exact Ev.boxA hS hv h
theorem RdN.cell {B : AH} {v : Value} {xs : List Nat} (h : RdN B v xs) : isCell v = true := by
  rcases h.1 with ⟨rfl, _⟩ | ⟨b, off, cap, rfl, _⟩ <;> rfl
end Go.AM
set_option linter.unusedVariables false
namespace Go.AM
/-- How often two divides it. -/
def ctz (n : Nat) : Nat := if h : n = 0 then 0 else if n % 2 = 1 then 0 else ctz (n / 2) + 1
termination_by n
decreasing_by omega
theorem ctz_odd {n : Nat} (h : n % 2 = 1) : ctz n = 0 := by
  unfold ctz; rw [dif_neg (by omega), if_pos h]
theorem ctz_even {n : Nat} (h : n ≠ 0) : ctz (2 * n) = ctz n + 1 := by
  conv => lhs; unfold ctz
  rw [dif_neg (by omega), if_neg (by omega), show 2 * n / 2 = n by omega]
theorem ctz_spec {n : Nat} (h : n ≠ 0) : 2 ^ ctz n * (n / 2 ^ ctz n) = n ∧ (n / 2 ^ ctz n) % 2 = 1 := by
  induction n using Nat.strongRecOn with
  | ind n ih =>
    by_cases ho : n % 2 = 1
    · rw [ctz_odd ho]; simp [ho]
    · obtain ⟨m, rfl⟩ : ∃ m, n = 2 * m := ⟨n / 2, by omega⟩
      have hm : m ≠ 0 := by omega
      obtain ⟨h1, h2⟩ := ih m (by omega) hm
      rw [ctz_even hm, Nat.pow_succ, Nat.mul_comm (2 ^ ctz m) 2, Nat.mul_div_mul_left _ _ (by decide), Nat.mul_assoc, h1]
      exact ⟨rfl, h2⟩
def sg (neg : Bool) (n : Nat) : Int := if neg then -(n : Int) else n
theorem sg_neg {neg : Bool} {n : Nat} : (neg && decide (n ≠ 0)) = decide (sg neg n < 0) := by
  unfold sg; cases neg with
  | false => rw [Bool.false_and]; exact (decide_eq_false (by simp)).symm
  | true => rw [Bool.true_and]; exact decide_eq_decide.mpr (by simp; omega)
theorem sg_abs {neg : Bool} {n : Nat} : (sg neg n).natAbs = n := by unfold sg; cases neg <;> simp
theorem sg_add {n1 n2 : Bool} {x y : Nat} (h : n1 = n2) : sg n1 x + sg n2 y = sg n1 (x + y) := by
  subst h; unfold sg; cases n1 <;> simp <;> omega
theorem sg_norm {n : Bool} {x : Nat} : sg (n && decide (x ≠ 0)) x = sg n x := by
  unfold sg; cases n with
  | false => rfl
  | true => by_cases h : x = 0
            · subst h; rfl
            · rw [decide_eq_true h]; rfl
theorem sg_diff {a c : Bool} {x y : Nat} (h : a ≠ c) (hxy : y ≤ x) : sg a x + sg c y = sg a (x - y) := by
  unfold sg; cases a <;> cases c <;> simp at h ⊢ <;> omega
def rightI (neg : Bool) (xs : List Nat) : Bool := if xs.length = 0 then !neg else decide (xs.getD (xs.length - 1) 0 ≠ 0)
structure Dy where
  neg : Bool
  mag : List Nat
  e : Int
theorem nbits_val {xs : List Nat} (h : small xs) : nbits (val xs) ≤ 32 * xs.length := by
  refine nbits_le.mpr ?_
  have := val_lt h
  rwa [show (4294967296 : Nat) = 2 ^ 32 by decide, ← Nat.pow_mul] at this
def rightD (d : Dy) : Bool := rightI d.neg d.mag && decide (if d.mag.length = 0 then d.e = 0 else d.mag.getD 0 0 % 2 = 1 ∧ (-131072 ≤ d.e ∧ d.e ≤ 131072))
abbrev zeroDy : Dy := ⟨false, [], 0⟩
def canon (z e : Int) : Dy := if z = 0 then zeroDy else ⟨decide (z < 0), limbs (z.natAbs / 2 ^ ctz z.natAbs), e + ctz z.natAbs⟩
theorem limbs_shl_len {x k : Nat} : (limbs (x * 2 ^ k)).length ≤ (limbs x).length + k / 32 + 1 := by
  refine limbs_length_le ?_
  have h1 := val_lt (small_limbs x)
  rw [val_limbs, show (4294967296 : Nat) = 2 ^ 32 by decide, ← Nat.pow_mul] at h1
  rw [show (4294967296 : Nat) = 2 ^ 32 by decide, ← Nat.pow_mul]
  calc x * 2 ^ k < 2 ^ (32 * (limbs x).length) * 2 ^ k := Nat.mul_lt_mul_of_pos_right h1 (Nat.pow_pos (by decide))
    _ = 2 ^ (32 * (limbs x).length + k) := (Nat.pow_add ..).symm
    _ ≤ 2 ^ (32 * ((limbs x).length + k / 32 + 1)) := Nat.pow_le_pow_right (by decide) (by omega)
def dz (d : Dy) : Int := sg d.neg (val d.mag)
theorem sg_int (z : Int) : sg (decide (z < 0)) z.natAbs = z := by
  unfold sg; by_cases h : z < 0
  · rw [decide_eq_true h]; simp; omega
  · rw [decide_eq_false h]; simp; omega
def icmp (a b : Int) : Int := if a < b then -1 else if b < a then 1 else 0
theorem right_limbs {d : Dy} (h : rightD d = true) (hs : small d.mag) : d.mag = limbs (val d.mag) := by
  unfold rightD rightI at h
  rw [Bool.and_eq_true] at h
  have h := h.1
  by_cases h0 : d.mag.length = 0
  · have : d.mag = [] := List.length_eq_zero_iff.mp h0
    rw [this]; exact limbs_zero.symm
  · rw [if_neg h0] at h
    have h := of_decide_eq_true h
    refine (limbs_val hs fun y hy => ?_).symm
    rw [List.getLast?_eq_getElem?] at hy
    rw [List.getD_eq_getElem?_getD, hy] at h
    exact h
theorem val_ne {xs : List Nat} (h : xs = limbs (val xs)) (h0 : xs.length ≠ 0) : val xs ≠ 0 := by
  intro e; rw [e, limbs_zero] at h; rw [h] at h0; exact h0 rfl
def sameD (x y : Dy) : Prop := x.e = y.e ∧ x.neg = y.neg ∧ x.mag = y.mag
instance {x y : Dy} : Decidable (sameD x y) := inferInstanceAs (Decidable (_ ∧ _ ∧ _))
/-- The whole root. -/
theorem isq_ex (n : Nat) : ∃ s, s * s ≤ n ∧ n < (s + 1) * (s + 1) := by
  induction n with
  | zero => exact ⟨0, by decide, by decide⟩
  | succ n ih =>
    obtain ⟨s, h1, h2⟩ := ih
    by_cases h : n + 1 < (s + 1) * (s + 1)
    · exact ⟨s, by omega, h⟩
    · refine ⟨s + 1, by omega, ?_⟩
      have : (s + 1 + 1) * (s + 1 + 1) = (s + 1) * (s + 1) + 2 * s + 3 := by
        simp only [Nat.add_mul, Nat.mul_add, Nat.mul_one, Nat.one_mul]; omega
      omega
noncomputable def isq (n : Nat) : Nat := Classical.choose (isq_ex n)
end Go.AM
set_option linter.unusedVariables false
set_option linter.unusedSimpArgs false
set_option maxRecDepth 100000
namespace Go.AM.Z
open Go Go.AM Go.Proofs
attribute [local irreducible] run bin un ld st box newV mkS fldA fld ixA ix slc slc3 build buildS cv cvS ap cpy lenV gOp pickV b2 aIf aChk evalK resume iterD Option.bind

theorem fill2 {v w a b : Value} (hv : isCell v = true) (hw : isCell w = true) : fillB (fun i => [(0, 1), (1, 1)][i]?) [a, b] [(0, v), (1, w)] = some [v, w] := by
  have h1 := cells_one hv
  have h2 := cells_one hw
  simp [fillB, size_cells h1, size_cells h2, okCells_of hv, okCells_of hw, h1, h2, spl]
theorem fill1 {v a : Value} (hv : isCell v = true) : fillB (fun i => [(0, 1)][i]?) [a] [(0, v)] = some [v] := by
  have h1 := cells_one hv
  simp [fillB, size_cells h1, okCells_of hv, h1, spl]
theorem buildInt {v w : Value} (hv : isCell v = true) (hw : isCell w = true) : build Tryd.prog 24 [(0, v), (1, w)] = some (.agg #[v, w]) := by
  have h : build Tryd.prog 24 [(0, v), (1, w)] = (fillB (fun i => [(0, 1), (1, 1)][i]?) [.bool false, .slice none 0 0] [(0, v), (1, w)]).map fun cs => .agg cs.toArray := by kernel_rfl
  rw [h, fill2 hv hw]; rfl
theorem buildSize {v : Value} (hv : isCell v = true) : build Tryd.prog 57 [(0, v)] = some (.agg #[v]) := by
  have h : build Tryd.prog 57 [(0, v)] = (fillB (fun i => [(0, 1)][i]?) [.slice none 0 0] [(0, v)]).map fun cs => .agg cs.toArray := by kernel_rfl
  rw [h, fill1 hv]; rfl
theorem buildSigned {v w : Value} (hv : isCell v = true) (hw : isCell w = true) : build Tryd.prog 59 [(0, .agg #[v]), (1, w)] = some (.agg #[v, w]) := by
  have h : build Tryd.prog 59 [(0, .agg #[v]), (1, w)] = (fillB (fun i => [(0, 1), (1, 1)][i]?) [.slice none 0 0, .bool false] [(0, .agg #[v]), (1, w)]).map fun cs => .agg cs.toArray := by kernel_rfl
  have h2 := cells_one hw
  have e1 : (Value.agg #[v]).cells.toList = [v] := rfl
  have e2 : okCells (.agg #[v]) = true := by simp [okCells, hv]
  rw [h]
  simp [fillB, show (Value.agg #[v]).cells.size = 1 from rfl, e1, e2, size_cells h2, okCells_of hw, h2, spl]
theorem fldInt0 {b o : Nat} : fldA Tryd.prog 24 (ptr b o) 0 = some (ptr b o) := by kernel_rfl
theorem fldInt1 {b o : Nat} : fldA Tryd.prog 24 (ptr b o) 1 = some (ptr b (o + 1)) := by kernel_rfl
theorem fldSig0 {b o : Nat} : fldA Tryd.prog 59 (ptr b o) 0 = some (ptr b o) := by kernel_rfl
theorem fldSig1 {b o : Nat} : fldA Tryd.prog 59 (ptr b o) 1 = some (ptr b (o + 1)) := by kernel_rfl
theorem fldSize0 {b o : Nat} : fldA Tryd.prog 57 (ptr b o) 0 = some (ptr b o) := by kernel_rfl
theorem zInt : zeroT Tryd.prog 24 = some (.agg ⟨[.bool false, .slice none 0 0]⟩) := by kernel_rfl
theorem zSig : zeroT Tryd.prog 59 = some (.agg ⟨[.slice none 0 0, .bool false]⟩) := by kernel_rfl
theorem aInt : aggT Tryd.prog 24 = some true := by kernel_rfl
theorem sInt : szT Tryd.prog 24 = 2 := by kernel_rfl
theorem aSig : aggT Tryd.prog 59 = some true := by kernel_rfl
theorem sSig : szT Tryd.prog 59 = 2 := by kernel_rfl
theorem aSize : aggT Tryd.prog 57 = some true := by kernel_rfl
theorem sSize : szT Tryd.prog 57 = 1 := by kernel_rfl
theorem aS : aggT Tryd.prog 22 = some false := by kernel_rfl
theorem aBo : aggT Tryd.prog 4 = some false := by kernel_rfl
theorem ldkInt {a b : Value} : ldK Tryd.prog 24 [a, b] 0 = some (.agg #[a, b]) := by unfold ldK; rw [aInt]; simp only [sInt]; rfl
theorem ldkSig {a b : Value} : ldK Tryd.prog 59 [a, b] 0 = some (.agg #[a, b]) := by unfold ldK; rw [aSig]; simp only [sSig]; rfl
theorem ldkSize {a b : Value} : ldK Tryd.prog 57 [a, b] 0 = some (.agg #[a]) := by unfold ldK; rw [aSize]; simp only [sSize]; rfl
theorem ldkS {cs : List Value} {i : Nat} : ldK Tryd.prog 22 cs i = cs[i]? := by unfold ldK; rw [aS]
theorem ldkBo {cs : List Value} {i : Nat} : ldK Tryd.prog 4 cs i = cs[i]? := by unfold ldK; rw [aBo]
theorem stkInt {a b c d : Value} (hc : isCell c = true) (hd : isCell d = true) : stK Tryd.prog 24 [a, b] 0 (.agg #[c, d]) = some [c, d] := by unfold stK; rw [aInt]; simp [sInt, spl, hc, hd]
theorem stkSig {a b c d : Value} (hc : isCell c = true) (hd : isCell d = true) : stK Tryd.prog 59 [a, b] 0 (.agg #[c, d]) = some [c, d] := by unfold stK; rw [aSig]; simp [sSig, spl, hc, hd]
theorem of_spec {B H : AH} {xs : List Nat} {m : Value} {neg : Bool} (hm : xs.length < 1099511627776) (ha : RdN B m xs) (hL : Le B H) :
    Ev (fun k _ => rn k 43 [.agg #[.bool neg, m]] H) (An B H fun B' v => ∃ w, v = .agg #[w, .bool (neg && decide (val xs ≠ 0))] ∧ RdN B' w (limbs (val xs))) := by
  refine Ev.fn (fun k => f43_eq k _ H) ?_
  refine Ev.boxA (St.start hL) (by have := ha.cell; simp only [List.all_cons, List.all_nil, this]; rfl) fun b1 H1 hS1 => ?_
  refine Ev.newA zSig hS1 rfl fun b2 H2 hS2 => ?_
  refine Ev.prim fldInt1 ?_
  refine Ev.ld hS2 (by (first | exact .head _ | exact .tail _ (.head _) | exact .tail _ (.tail _ (.head _)) | exact .tail _ (.tail _ (.tail _ (.head _))) | exact .tail _ (.tail _ (.tail _ (.tail _ (.head _)))))) (ldkS.trans rfl) ?_
  refine Ev.call hS2 (Trim_spec hm ha) fun w B3 H3 hm3 hS3 hw => ?_
  refine Ev.prim (buildSize hw.cell) ?_
  refine Ev.prim fldInt0 ?_
  refine Ev.ld hS3 (by (first | exact .head _ | exact .tail _ (.head _) | exact .tail _ (.tail _ (.head _)) | exact .tail _ (.tail _ (.tail _ (.head _))) | exact .tail _ (.tail _ (.tail _ (.tail _ (.head _)))))) (ldkBo.trans rfl) ?_
  have fin : ∀ c : Bool, c = (neg && decide (val xs ≠ 0)) → Ev (fun k n => (build Tryd.prog 59 [(0, .agg #[w]), (1, .bool c)]).bind fun v13 => (st Tryd.prog 59 H3 (ptr b2 0) v13).bind fun h14 => ((ld Tryd.prog 59 h14 (ptr b2 0)).bind fun v15 => some (v15 :: [])).bind fun vs => some (oneOf vs, h14))
      (An B H fun B' v => ∃ w, v = .agg #[w, .bool (neg && decide (val xs ≠ 0))] ∧ RdN B' w (limbs (val xs))) := by
    intro c hc
    refine Ev.prim (buildSigned hw.cell rfl) ?_
    refine Ev.st hS3 (.head _) (stkSig hw.cell rfl) (by simp) (.head _) fun H4 hS4 => ?_
    refine Ev.assoc ?_
    refine Ev.ld hS4 (.head _) ldkSig ?_
    refine Ev.some1 ?_
    exact Ev.done hS4 ⟨w, by rw [hc]; rfl, hw⟩
  cases neg with
  | false =>
    repeat (first | refine Ev.some2 ?_ | refine Ev.some1 ?_ | refine Ev.gDo ?_ | refine Ev.gSkipT ?_ | refine Ev.gSkipF ?_ | refine Ev.gUndef ?_ | refine Ev.gCall ?_ | refine Ev.tt ?_ | refine Ev.ff ?_ | refine Ev.gPrim (by (first | with_reducible exact lssL | with_reducible exact gtrL | with_reducible exact eqlL | with_reducible exact neqL | with_reducible exact leqL | with_reducible exact geqL | with_reducible exact lssN | with_reducible exact gtrN | with_reducible exact eqlN | with_reducible exact neqN | with_reducible exact leqN | with_reducible exact geqN | (with_reducible refine addL ?_; omega) | (with_reducible refine subL ?_; omega) | (with_reducible refine quoL ?_; omega) | (with_reducible refine mulL ?_; omega) | (with_reducible refine lmul ?_; omega) | (with_reducible refine addN ?_; omega) | (with_reducible refine subN ?_; omega) | (with_reducible refine quoN ?_; omega) | (with_reducible refine mulN ?_; omega) | (with_reducible refine addQ ?_; omega) | (with_reducible refine subQ ?_; omega) | (with_reducible refine mulQ ?_; omega) | (with_reducible refine shlQL ?_; omega) | (with_reducible refine shlQ ?_; omega) | (with_reducible refine remL ?_; decide) | (with_reducible refine shrL ?_; decide) | (with_reducible refine remN ?_; omega) | (with_reducible refine toU64 ?_ Uw Uq; omega) | (with_reducible exact toU32 Uq Uw) | exact bin_lss | exact bin_gtr | exact bin_eql | exact bin_neq | exact bin_leq | exact bin_geq | exact lenV_sl Us | exact ext_0 | exact ext_1 | exact ext_2 | exact pick_t | exact pick_f | exact bin_add64 (by omega) | exact bin_sub64 (by omega) | exact un_not | exact cv_int Uq Uw | exact cv_int Uw Uq | exact bin_add | exact bin_sub | exact bin_mul | rfl)) rfl ?_ | refine Ev.prim (by (first | with_reducible exact lssL | with_reducible exact gtrL | with_reducible exact eqlL | with_reducible exact neqL | with_reducible exact leqL | with_reducible exact geqL | with_reducible exact lssN | with_reducible exact gtrN | with_reducible exact eqlN | with_reducible exact neqN | with_reducible exact leqN | with_reducible exact geqN | (with_reducible refine addL ?_; omega) | (with_reducible refine subL ?_; omega) | (with_reducible refine quoL ?_; omega) | (with_reducible refine mulL ?_; omega) | (with_reducible refine lmul ?_; omega) | (with_reducible refine addN ?_; omega) | (with_reducible refine subN ?_; omega) | (with_reducible refine quoN ?_; omega) | (with_reducible refine mulN ?_; omega) | (with_reducible refine addQ ?_; omega) | (with_reducible refine subQ ?_; omega) | (with_reducible refine mulQ ?_; omega) | (with_reducible refine shlQL ?_; omega) | (with_reducible refine shlQ ?_; omega) | (with_reducible refine remL ?_; decide) | (with_reducible refine shrL ?_; decide) | (with_reducible refine remN ?_; omega) | (with_reducible refine toU64 ?_ Uw Uq; omega) | (with_reducible exact toU32 Uq Uw) | exact bin_lss | exact bin_gtr | exact bin_eql | exact bin_neq | exact bin_leq | exact bin_geq | exact lenV_sl Us | exact ext_0 | exact ext_1 | exact ext_2 | exact pick_t | exact pick_f | exact bin_add64 (by omega) | exact bin_sub64 (by omega) | exact un_not | exact cv_int Uq Uw | exact cv_int Uw Uq | exact bin_add | exact bin_sub | exact bin_mul | rfl)) ?_)
    exact fin false rfl
  | true =>
    repeat (first | refine Ev.some2 ?_ | refine Ev.some1 ?_ | refine Ev.gDo ?_ | refine Ev.gSkipT ?_ | refine Ev.gSkipF ?_ | refine Ev.gUndef ?_ | refine Ev.gCall ?_ | refine Ev.tt ?_ | refine Ev.ff ?_ | refine Ev.gPrim (by (first | with_reducible exact lssL | with_reducible exact gtrL | with_reducible exact eqlL | with_reducible exact neqL | with_reducible exact leqL | with_reducible exact geqL | with_reducible exact lssN | with_reducible exact gtrN | with_reducible exact eqlN | with_reducible exact neqN | with_reducible exact leqN | with_reducible exact geqN | (with_reducible refine addL ?_; omega) | (with_reducible refine subL ?_; omega) | (with_reducible refine quoL ?_; omega) | (with_reducible refine mulL ?_; omega) | (with_reducible refine lmul ?_; omega) | (with_reducible refine addN ?_; omega) | (with_reducible refine subN ?_; omega) | (with_reducible refine quoN ?_; omega) | (with_reducible refine mulN ?_; omega) | (with_reducible refine addQ ?_; omega) | (with_reducible refine subQ ?_; omega) | (with_reducible refine mulQ ?_; omega) | (with_reducible refine shlQL ?_; omega) | (with_reducible refine shlQ ?_; omega) | (with_reducible refine remL ?_; decide) | (with_reducible refine shrL ?_; decide) | (with_reducible refine remN ?_; omega) | (with_reducible refine toU64 ?_ Uw Uq; omega) | (with_reducible exact toU32 Uq Uw) | exact bin_lss | exact bin_gtr | exact bin_eql | exact bin_neq | exact bin_leq | exact bin_geq | exact lenV_sl Us | exact ext_0 | exact ext_1 | exact ext_2 | exact pick_t | exact pick_f | exact bin_add64 (by omega) | exact bin_sub64 (by omega) | exact un_not | exact cv_int Uq Uw | exact cv_int Uw Uq | exact bin_add | exact bin_sub | exact bin_mul | rfl)) rfl ?_ | refine Ev.prim (by (first | with_reducible exact lssL | with_reducible exact gtrL | with_reducible exact eqlL | with_reducible exact neqL | with_reducible exact leqL | with_reducible exact geqL | with_reducible exact lssN | with_reducible exact gtrN | with_reducible exact eqlN | with_reducible exact neqN | with_reducible exact leqN | with_reducible exact geqN | (with_reducible refine addL ?_; omega) | (with_reducible refine subL ?_; omega) | (with_reducible refine quoL ?_; omega) | (with_reducible refine mulL ?_; omega) | (with_reducible refine lmul ?_; omega) | (with_reducible refine addN ?_; omega) | (with_reducible refine subN ?_; omega) | (with_reducible refine quoN ?_; omega) | (with_reducible refine mulN ?_; omega) | (with_reducible refine addQ ?_; omega) | (with_reducible refine subQ ?_; omega) | (with_reducible refine mulQ ?_; omega) | (with_reducible refine shlQL ?_; omega) | (with_reducible refine shlQ ?_; omega) | (with_reducible refine remL ?_; decide) | (with_reducible refine shrL ?_; decide) | (with_reducible refine remN ?_; omega) | (with_reducible refine toU64 ?_ Uw Uq; omega) | (with_reducible exact toU32 Uq Uw) | exact bin_lss | exact bin_gtr | exact bin_eql | exact bin_neq | exact bin_leq | exact bin_geq | exact lenV_sl Us | exact ext_0 | exact ext_1 | exact ext_2 | exact pick_t | exact pick_f | exact bin_add64 (by omega) | exact bin_sub64 (by omega) | exact un_not | exact cv_int Uq Uw | exact cv_int Uw Uq | exact bin_add | exact bin_sub | exact bin_mul | rfl)) ?_)
    refine Ev.gPrim (hw.lenN Ew) rfl ?_
    repeat (first | refine Ev.some2 ?_ | refine Ev.some1 ?_ | refine Ev.gDo ?_ | refine Ev.gSkipT ?_ | refine Ev.gSkipF ?_ | refine Ev.gUndef ?_ | refine Ev.gCall ?_ | refine Ev.tt ?_ | refine Ev.ff ?_ | refine Ev.gPrim (by (first | with_reducible exact lssL | with_reducible exact gtrL | with_reducible exact eqlL | with_reducible exact neqL | with_reducible exact leqL | with_reducible exact geqL | with_reducible exact lssN | with_reducible exact gtrN | with_reducible exact eqlN | with_reducible exact neqN | with_reducible exact leqN | with_reducible exact geqN | (with_reducible refine addL ?_; omega) | (with_reducible refine subL ?_; omega) | (with_reducible refine quoL ?_; omega) | (with_reducible refine mulL ?_; omega) | (with_reducible refine lmul ?_; omega) | (with_reducible refine addN ?_; omega) | (with_reducible refine subN ?_; omega) | (with_reducible refine quoN ?_; omega) | (with_reducible refine mulN ?_; omega) | (with_reducible refine addQ ?_; omega) | (with_reducible refine subQ ?_; omega) | (with_reducible refine mulQ ?_; omega) | (with_reducible refine shlQL ?_; omega) | (with_reducible refine shlQ ?_; omega) | (with_reducible refine remL ?_; decide) | (with_reducible refine shrL ?_; decide) | (with_reducible refine remN ?_; omega) | (with_reducible refine toU64 ?_ Uw Uq; omega) | (with_reducible exact toU32 Uq Uw) | exact bin_lss | exact bin_gtr | exact bin_eql | exact bin_neq | exact bin_leq | exact bin_geq | exact lenV_sl Us | exact ext_0 | exact ext_1 | exact ext_2 | exact pick_t | exact pick_f | exact bin_add64 (by omega) | exact bin_sub64 (by omega) | exact un_not | exact cv_int Uq Uw | exact cv_int Uw Uq | exact bin_add | exact bin_sub | exact bin_mul | rfl)) rfl ?_ | refine Ev.prim (by (first | with_reducible exact lssL | with_reducible exact gtrL | with_reducible exact eqlL | with_reducible exact neqL | with_reducible exact leqL | with_reducible exact geqL | with_reducible exact lssN | with_reducible exact gtrN | with_reducible exact eqlN | with_reducible exact neqN | with_reducible exact leqN | with_reducible exact geqN | (with_reducible refine addL ?_; omega) | (with_reducible refine subL ?_; omega) | (with_reducible refine quoL ?_; omega) | (with_reducible refine mulL ?_; omega) | (with_reducible refine lmul ?_; omega) | (with_reducible refine addN ?_; omega) | (with_reducible refine subN ?_; omega) | (with_reducible refine quoN ?_; omega) | (with_reducible refine mulN ?_; omega) | (with_reducible refine addQ ?_; omega) | (with_reducible refine subQ ?_; omega) | (with_reducible refine mulQ ?_; omega) | (with_reducible refine shlQL ?_; omega) | (with_reducible refine shlQ ?_; omega) | (with_reducible refine remL ?_; decide) | (with_reducible refine shrL ?_; decide) | (with_reducible refine remN ?_; omega) | (with_reducible refine toU64 ?_ Uw Uq; omega) | (with_reducible exact toU32 Uq Uw) | exact bin_lss | exact bin_gtr | exact bin_eql | exact bin_neq | exact bin_leq | exact bin_geq | exact lenV_sl Us | exact ext_0 | exact ext_1 | exact ext_2 | exact pick_t | exact pick_f | exact bin_add64 (by omega) | exact bin_sub64 (by omega) | exact un_not | exact cv_int Uq Uw | exact cv_int Uw Uq | exact bin_add | exact bin_sub | exact bin_mul | rfl)) ?_)
    refine fin _ ?_
    rw [Bool.true_and]
    refine decide_eq_decide.mpr ?_
    rw [Nat.pos_iff_ne_zero, ne_eq, List.length_eq_zero_iff, limbs_eq_nil]
end Go.AM.Z
set_option linter.unusedVariables false
set_option linter.unusedSimpArgs false
set_option maxRecDepth 100000
namespace Go.AM.Z
open Go Go.AM Go.Proofs
attribute [local irreducible] run bin un ld st box newV mkS fldA fld ixA ix slc slc3 build buildS cv cvS ap cpy lenV gOp pickV b2 aIf aChk evalK resume iterD Option.bind

theorem zero_spec {B H : AH} {xs : List Nat} {m : Value} (hm : xs.length < 1099511627776) (ha : RdN B m xs) (hL : Le B H) :
    Ev (fun k _ => rn k 62 [.agg #[m]] H) (An B H fun _ v => v = .bool (decide (xs.length = 0))) := by
  refine Ev.fn (fun k => f62_eq k _ H) ?_
  refine Ev.boxA (St.start hL) (by have := ha.cell; simp only [List.all_cons, List.all_nil, this]; rfl) fun b1 H1 hS1 => ?_
  refine Ev.prim fldSize0 ?_
  refine Ev.ld hS1 (by (first | exact .head _ | exact .tail _ (.head _) | exact .tail _ (.tail _ (.head _)) | exact .tail _ (.tail _ (.tail _ (.head _))) | exact .tail _ (.tail _ (.tail _ (.tail _ (.head _)))))) (ldkS.trans rfl) ?_
  refine Ev.prim (ha.lenN Ew) ?_
  refine Ev.prim eqlL ?_
  exact Ev.done hS1 rfl
theorem out_spec {B H : AH} {n : Nat} {m : Value} {neg : Bool} (hm : (limbs n).length < 1099511627776) (ha : RdN B m (limbs n)) (hL : Le B H) :
    Ev (fun k _ => rn k 49 [.agg #[m, .bool neg]] H) (An B H fun _ v => v = .agg #[.bool (neg && decide (n ≠ 0)), m]) := by
  refine Ev.fn (fun k => f49_eq k _ H) ?_
  refine Ev.boxA (St.start hL) (by have := ha.cell; simp only [List.all_cons, List.all_nil, this]; rfl) fun b1 H1 hS1 => ?_
  refine Ev.newA zInt hS1 rfl fun b2 H2 hS2 => ?_
  refine Ev.prim fldSig1 ?_
  refine Ev.ld hS2 (by (first | exact .head _ | exact .tail _ (.head _) | exact .tail _ (.tail _ (.head _)) | exact .tail _ (.tail _ (.tail _ (.head _))) | exact .tail _ (.tail _ (.tail _ (.tail _ (.head _)))))) (ldkBo.trans rfl) ?_
  cases neg with
  | false =>
    repeat (first | refine Ev.some2 ?_ | refine Ev.some1 ?_ | refine Ev.gDo ?_ | refine Ev.gSkipT ?_ | refine Ev.gSkipF ?_ | refine Ev.gUndef ?_ | refine Ev.gCall ?_ | refine Ev.tt ?_ | refine Ev.ff ?_ | refine Ev.gPrim (by (first | with_reducible exact lssL | with_reducible exact gtrL | with_reducible exact eqlL | with_reducible exact neqL | with_reducible exact leqL | with_reducible exact geqL | with_reducible exact lssN | with_reducible exact gtrN | with_reducible exact eqlN | with_reducible exact neqN | with_reducible exact leqN | with_reducible exact geqN | (with_reducible refine addL ?_; omega) | (with_reducible refine subL ?_; omega) | (with_reducible refine quoL ?_; omega) | (with_reducible refine mulL ?_; omega) | (with_reducible refine lmul ?_; omega) | (with_reducible refine addN ?_; omega) | (with_reducible refine subN ?_; omega) | (with_reducible refine quoN ?_; omega) | (with_reducible refine mulN ?_; omega) | (with_reducible refine addQ ?_; omega) | (with_reducible refine subQ ?_; omega) | (with_reducible refine mulQ ?_; omega) | (with_reducible refine shlQL ?_; omega) | (with_reducible refine shlQ ?_; omega) | (with_reducible refine remL ?_; decide) | (with_reducible refine shrL ?_; decide) | (with_reducible refine remN ?_; omega) | (with_reducible refine toU64 ?_ Uw Uq; omega) | (with_reducible exact toU32 Uq Uw) | exact bin_lss | exact bin_gtr | exact bin_eql | exact bin_neq | exact bin_leq | exact bin_geq | exact lenV_sl Us | exact ext_0 | exact ext_1 | exact ext_2 | exact pick_t | exact pick_f | exact bin_add64 (by omega) | exact bin_sub64 (by omega) | exact un_not | exact cv_int Uq Uw | exact cv_int Uw Uq | exact bin_add | exact bin_sub | exact bin_mul | rfl)) rfl ?_ | refine Ev.prim (by (first | with_reducible exact lssL | with_reducible exact gtrL | with_reducible exact eqlL | with_reducible exact neqL | with_reducible exact leqL | with_reducible exact geqL | with_reducible exact lssN | with_reducible exact gtrN | with_reducible exact eqlN | with_reducible exact neqN | with_reducible exact leqN | with_reducible exact geqN | (with_reducible refine addL ?_; omega) | (with_reducible refine subL ?_; omega) | (with_reducible refine quoL ?_; omega) | (with_reducible refine mulL ?_; omega) | (with_reducible refine lmul ?_; omega) | (with_reducible refine addN ?_; omega) | (with_reducible refine subN ?_; omega) | (with_reducible refine quoN ?_; omega) | (with_reducible refine mulN ?_; omega) | (with_reducible refine addQ ?_; omega) | (with_reducible refine subQ ?_; omega) | (with_reducible refine mulQ ?_; omega) | (with_reducible refine shlQL ?_; omega) | (with_reducible refine shlQ ?_; omega) | (with_reducible refine remL ?_; decide) | (with_reducible refine shrL ?_; decide) | (with_reducible refine remN ?_; omega) | (with_reducible refine toU64 ?_ Uw Uq; omega) | (with_reducible exact toU32 Uq Uw) | exact bin_lss | exact bin_gtr | exact bin_eql | exact bin_neq | exact bin_leq | exact bin_geq | exact lenV_sl Us | exact ext_0 | exact ext_1 | exact ext_2 | exact pick_t | exact pick_f | exact bin_add64 (by omega) | exact bin_sub64 (by omega) | exact un_not | exact cv_int Uq Uw | exact cv_int Uw Uq | exact bin_add | exact bin_sub | exact bin_mul | rfl)) ?_)
    refine Ev.prim fldSig0 ?_
    refine Ev.prim fldSize0 ?_
    refine Ev.ld hS2 (by (first | exact .head _ | exact .tail _ (.head _) | exact .tail _ (.tail _ (.head _)) | exact .tail _ (.tail _ (.tail _ (.head _))) | exact .tail _ (.tail _ (.tail _ (.tail _ (.head _)))))) (ldkS.trans rfl) ?_
    refine Ev.chk (by rw [ld_blk (hS2.get (.tail _ (.head _))), ldkS]; rfl) ?_
    refine Ev.prim (buildInt rfl ha.cell) ?_
    refine Ev.st hS2 (.head _) (stkInt rfl ha.cell) (by simp) (.head _) fun H4 hS4 => ?_
    refine Ev.assoc ?_
    refine Ev.ld hS4 (.head _) ldkInt ?_
    refine Ev.some1 ?_
    exact Ev.done hS4 rfl
  | true =>
    refine Ev.gDo (Ev.gPrim fldSig0 rfl ?_)
    refine Ev.gDo (Ev.gPrim ((ld_blk (hS2.get (by (first | exact .head _ | exact .tail _ (.head _) | exact .tail _ (.tail _ (.head _)) | exact .tail _ (.tail _ (.tail _ (.head _))) | exact .tail _ (.tail _ (.tail _ (.tail _ (.head _)))))))).trans ldkSize) rfl ?_)
    refine Ev.gDo (Ev.gCall ?_)
    refine Ev.call hS2 (zero_spec hm ha) fun v B3 H3 hm3 hS3 hv => ?_
    subst hv
    refine Ev.gDo (Ev.gPrim un_not rfl ?_)
    repeat (first | refine Ev.some2 ?_ | refine Ev.some1 ?_ | refine Ev.gDo ?_ | refine Ev.gSkipT ?_ | refine Ev.gSkipF ?_ | refine Ev.gUndef ?_ | refine Ev.gCall ?_ | refine Ev.tt ?_ | refine Ev.ff ?_ | refine Ev.gPrim (by (first | with_reducible exact lssL | with_reducible exact gtrL | with_reducible exact eqlL | with_reducible exact neqL | with_reducible exact leqL | with_reducible exact geqL | with_reducible exact lssN | with_reducible exact gtrN | with_reducible exact eqlN | with_reducible exact neqN | with_reducible exact leqN | with_reducible exact geqN | (with_reducible refine addL ?_; omega) | (with_reducible refine subL ?_; omega) | (with_reducible refine quoL ?_; omega) | (with_reducible refine mulL ?_; omega) | (with_reducible refine lmul ?_; omega) | (with_reducible refine addN ?_; omega) | (with_reducible refine subN ?_; omega) | (with_reducible refine quoN ?_; omega) | (with_reducible refine mulN ?_; omega) | (with_reducible refine addQ ?_; omega) | (with_reducible refine subQ ?_; omega) | (with_reducible refine mulQ ?_; omega) | (with_reducible refine shlQL ?_; omega) | (with_reducible refine shlQ ?_; omega) | (with_reducible refine remL ?_; decide) | (with_reducible refine shrL ?_; decide) | (with_reducible refine remN ?_; omega) | (with_reducible refine toU64 ?_ Uw Uq; omega) | (with_reducible exact toU32 Uq Uw) | exact bin_lss | exact bin_gtr | exact bin_eql | exact bin_neq | exact bin_leq | exact bin_geq | exact lenV_sl Us | exact ext_0 | exact ext_1 | exact ext_2 | exact pick_t | exact pick_f | exact bin_add64 (by omega) | exact bin_sub64 (by omega) | exact un_not | exact cv_int Uq Uw | exact cv_int Uw Uq | exact bin_add | exact bin_sub | exact bin_mul | rfl)) rfl ?_ | refine Ev.prim (by (first | with_reducible exact lssL | with_reducible exact gtrL | with_reducible exact eqlL | with_reducible exact neqL | with_reducible exact leqL | with_reducible exact geqL | with_reducible exact lssN | with_reducible exact gtrN | with_reducible exact eqlN | with_reducible exact neqN | with_reducible exact leqN | with_reducible exact geqN | (with_reducible refine addL ?_; omega) | (with_reducible refine subL ?_; omega) | (with_reducible refine quoL ?_; omega) | (with_reducible refine mulL ?_; omega) | (with_reducible refine lmul ?_; omega) | (with_reducible refine addN ?_; omega) | (with_reducible refine subN ?_; omega) | (with_reducible refine quoN ?_; omega) | (with_reducible refine mulN ?_; omega) | (with_reducible refine addQ ?_; omega) | (with_reducible refine subQ ?_; omega) | (with_reducible refine mulQ ?_; omega) | (with_reducible refine shlQL ?_; omega) | (with_reducible refine shlQ ?_; omega) | (with_reducible refine remL ?_; decide) | (with_reducible refine shrL ?_; decide) | (with_reducible refine remN ?_; omega) | (with_reducible refine toU64 ?_ Uw Uq; omega) | (with_reducible exact toU32 Uq Uw) | exact bin_lss | exact bin_gtr | exact bin_eql | exact bin_neq | exact bin_leq | exact bin_geq | exact lenV_sl Us | exact ext_0 | exact ext_1 | exact ext_2 | exact pick_t | exact pick_f | exact bin_add64 (by omega) | exact bin_sub64 (by omega) | exact un_not | exact cv_int Uq Uw | exact cv_int Uw Uq | exact bin_add | exact bin_sub | exact bin_mul | rfl)) ?_)
    refine Ev.prim fldSig0 ?_
    refine Ev.prim fldSize0 ?_
    refine Ev.ld hS3 (by (first | exact .head _ | exact .tail _ (.head _) | exact .tail _ (.tail _ (.head _)) | exact .tail _ (.tail _ (.tail _ (.head _))) | exact .tail _ (.tail _ (.tail _ (.tail _ (.head _)))))) (ldkS.trans rfl) ?_
    refine Ev.chk (by rw [ld_blk (hS2.get (.tail _ (.head _))), ldkS]; rfl) ?_
    refine Ev.prim (buildInt rfl ha.cell) ?_
    refine Ev.st hS3 (.head _) (stkInt rfl ha.cell) (by simp) (.head _) fun H4 hS4 => ?_
    refine Ev.assoc ?_
    refine Ev.ld hS4 (.head _) ldkInt ?_
    refine Ev.some1 ?_
    refine Ev.done hS4 ?_
    have e : (!decide ((limbs n).length = 0)) = (true && decide (n ≠ 0)) := by
      rw [Bool.true_and, ← decide_not]
      exact decide_eq_decide.mpr (by rw [List.length_eq_zero_iff, limbs_eq_nil])
    rw [← e]; rfl
def IntV (B : AH) (v : Value) (z : Int) : Prop := ∃ m, v = .agg #[.bool (decide (z < 0)), m] ∧ RdN B m (limbs z.natAbs)
theorem IntV.mono {B B' : AH} {v : Value} {z : Int} (hm : Mo B B') (h : IntV B v z) : IntV B' v z := h.elim fun m hh => ⟨m, hh.1, hh.2.mono hm⟩
theorem Make_spec {B H : AH} {xs : List Nat} {m : Value} {neg : Bool} (hm : xs.length < 1099511627776) (ha : RdN B m xs) (hL : Le B H) :
    Ev (fun k _ => rn k 25 [.bool neg, m] H) (An B H fun B' v => IntV B' v (sg neg (val xs))) := by
  refine Ev.fn (fun k => f25_eq k _ _ H) ?_
  refine Ev.newA zInt (St.start hL) rfl fun b2 H2 hS2 => ?_
  refine Ev.prim (buildInt rfl ha.cell) ?_
  refine Ev.call hS2 (of_spec hm ha) fun v B3 H3 hm3 hS3 h3 => ?_
  obtain ⟨w, rfl, hw⟩ := h3
  have hl := limbs_length_le (val_lt ha.2)
  refine Ev.call hS3 (out_spec (by omega) hw) fun v B4 H4 hm4 hS4 h4 => ?_
  subst h4
  refine Ev.st hS4 (.head _) (stkInt rfl hw.cell) (by simp) (.head _) fun H5 hS5 => ?_
  refine Ev.assoc ?_
  refine Ev.ld hS5 (.head _) ldkInt ?_
  refine Ev.some1 ?_
  refine Ev.done hS5 ⟨w, ?_, by rw [sg_abs]; exact hw.mono hm4⟩
  rw [← sg_neg, Bool.and_assoc, Bool.and_self]; rfl
end Go.AM.Z
set_option linter.unusedVariables false
set_option linter.unusedSimpArgs false
set_option maxRecDepth 100000
namespace Go.AM.Z
open Go Go.AM Go.Proofs
attribute [local irreducible] run bin un ld st box newV mkS fldA fld ixA ix slc slc3 build buildS cv cvS ap cpy lenV gOp pickV b2 aIf aChk evalK resume iterD Option.bind

theorem Neg_spec {B H : AH} {xs : List Nat} {m : Value} {neg : Bool} (hm : xs.length < 1099511627776) (ha : RdN B m xs) (hL : Le B H) :
    Ev (fun k _ => rn k 17 [.agg #[.bool neg, m]] H) (An B H fun B' v => IntV B' v (sg (!neg) (val xs))) := by
  refine Ev.fn (fun k => f17_eq k _ H) ?_
  refine Ev.boxA (St.start hL) (by have := ha.cell; simp only [List.all_cons, List.all_nil, this]; rfl) fun b1 H1 hS1 => ?_
  refine Ev.newA zInt hS1 rfl fun b2 H2 hS2 => ?_
  refine Ev.prim fldInt0 ?_
  refine Ev.ld hS2 (by (first | exact .head _ | exact .tail _ (.head _) | exact .tail _ (.tail _ (.head _)) | exact .tail _ (.tail _ (.tail _ (.head _))) | exact .tail _ (.tail _ (.tail _ (.tail _ (.head _)))))) (ldkBo.trans rfl) ?_
  refine Ev.prim un_not ?_
  refine Ev.prim fldInt1 ?_
  refine Ev.ld hS2 (by (first | exact .head _ | exact .tail _ (.head _) | exact .tail _ (.tail _ (.head _)) | exact .tail _ (.tail _ (.tail _ (.head _))) | exact .tail _ (.tail _ (.tail _ (.tail _ (.head _)))))) (ldkS.trans rfl) ?_
  refine Ev.call hS2 (Make_spec hm ha) fun v B3 H3 hm3 hS3 h3 => ?_
  obtain ⟨w, rfl, hw⟩ := h3
  refine Ev.st hS3 (.head _) (stkInt rfl hw.cell) (by simp) (.head _) fun H5 hS5 => ?_
  refine Ev.assoc ?_
  refine Ev.ld hS5 (.head _) ldkInt ?_
  refine Ev.some1 ?_
  exact Ev.done hS5 ⟨w, rfl, hw⟩
theorem zFrom_spec {B H : AH} {n : Int} (hn : -9223372036854775808 ≤ n ∧ n < 9223372036854775808) (hL : Le B H) :
    Ev (fun k _ => rn k 16 [.int .i64 n] H) (An B H fun B' v => IntV B' v n) := by
  refine Ev.fn (fun k => f16_eq k _ H) ?_
  refine Ev.newA zInt (St.start hL) rfl fun b2 H2 hS2 => ?_
  have fin : Ev (fun k _ => f16_J0 k (.int .i64 n) (ptr b2 0) (u64 n.natAbs) H2) (An B H fun B' v => IntV B' v n) := by
    refine Ev.eq (fun k _ => f16_J0_eq k _ _ _ H2) ?_
    refine Ev.prim bin_lss ?_
    refine Ev.call hS2 (From_spec (by omega)) fun v B3 H3 hm3 hS3 h3 => ?_
    have hl : (limbs n.natAbs).length ≤ 2 := limbs_length_le (by omega)
    refine Ev.call hS3 (Make_spec (by omega) h3) fun v B4 H4 hm4 hS4 h4 => ?_
    have e : sg (decide (n < 0)) (val (limbs n.natAbs)) = n := by
      rw [val_limbs]; unfold sg
      by_cases h : n < 0
      · rw [decide_eq_true h, if_pos rfl]; omega
      · rw [decide_eq_false h, if_neg (by decide)]; omega
    rw [e] at h4
    obtain ⟨w, rfl, hw⟩ := h4
    refine Ev.st hS4 (.head _) (stkInt rfl hw.cell) (by simp) (.head _) fun H5 hS5 => ?_
    refine Ev.assoc ?_
    refine Ev.ld hS5 (.head _) ldkInt ?_
    refine Ev.some1 ?_
    exact Ev.done hS5 ⟨w, rfl, hw⟩
  refine Ev.prim (cv_int Ui Uq) ?_
  refine Ev.prim bin_lss ?_
  refine Ev.ifp (fun h => ?_) fun h => ?_
  · refine Ev.prim un_neg ?_
    rw [wrapu64, wrapu64, show (0 - n % 18446744073709551616) % 18446744073709551616 = (n.natAbs : Int) by omega]
    exact fin
  · rw [wrapu64, show n % 18446744073709551616 = (n.natAbs : Int) by omega]
    exact fin
end Go.AM.Z
set_option linter.unusedVariables false
set_option linter.unusedSimpArgs false
set_option maxRecDepth 100000
namespace Go.AM.Z
open Go Go.AM Go.Proofs
attribute [local irreducible] run bin un ld st box newV mkS fldA fld ixA ix slc slc3 build buildS cv cvS ap cpy lenV gOp pickV b2 aIf aChk evalK resume iterD Option.bind

theorem eqlB {a b : Bool} : bin Tryd.prog .eql 4 (.bool a) (.bool b) = some (.bool (a == b)) := by cases a <;> cases b <;> kernel_rfl
end Go.AM.Z
set_option linter.unusedVariables false
set_option linter.unusedSimpArgs false
set_option maxRecDepth 100000
namespace Go.AM.Z
open Go Go.AM Go.Proofs
attribute [local irreducible] run bin un ld st box newV mkS fldA fld ixA ix slc slc3 build buildS cv cvS ap cpy lenV gOp pickV b2 aIf aChk evalK resume iterD Option.bind

theorem add_join {H0 B0 B H : AH} {L : List (Nat × Blk)} {x y p q r : Nat} {w1 w2 c2 o1 o2 : Value} {neg : Bool} (hw1 : RdN B w1 (limbs x)) (hw2 : RdN B w2 (limbs y)) (hx : (limbs x).length < 274877906944) (hy : (limbs y).length < 274877906944) (hxy : y ≤ x)
    (hS : St H0 B0 B L H) (hp : (p, ⟨[w1, .bool neg], 59, .fix⟩) ∈ L) (hq : (q, ⟨[w2, c2], 59, .fix⟩) ∈ L) (hr : (r, ⟨[o1, o2], 24, .fix⟩) ∈ L)
    (hu : ∀ a b, ∃ L', Upd r ⟨[o1, o2], 24, .fix⟩ ⟨[a, b], 24, .fix⟩ L L' ∧ (r, ⟨[a, b], 24, .fix⟩) ∈ L') :
    Ev (fun k _ => f18_J0 k (ptr r 0) (ptr p 0) (ptr q 0) H) (An B0 H0 fun B' v => IntV B' v (sg neg (x - y))) := by
  refine Ev.eq (fun k _ => f18_J0_eq k _ _ _ H) ?_
  refine Ev.prim fldSig0 ?_
  refine Ev.prim fldSize0 ?_
  refine Ev.ld hS hp (ldkS.trans rfl) ?_
  refine Ev.prim fldSig0 ?_
  refine Ev.prim fldSize0 ?_
  refine Ev.ld hS hq (ldkS.trans rfl) ?_
  refine Ev.call hS (Sub_spec hw1 hw2 (by omega) (by omega)) fun v B1 H1 hm1 hS1 h1 => ?_
  rw [val_limbs, val_limbs] at h1
  rcases h1 with ⟨h1, _⟩ | ⟨_, d, rfl, hd⟩
  · omega
  refine Ev.prim ext_0 ?_
  refine Ev.prim ext_1 ?_
  refine Ev.prim fldSig1 ?_
  refine Ev.ld hS1 hp (ldkBo.trans rfl) ?_
  have hl := limbs_length_mono (Nat.sub_le x y)
  refine Ev.call hS1 (Make_spec (by omega) hd) fun v B4 H4 hm4 hS4 h4 => ?_
  rw [val_limbs] at h4
  obtain ⟨w, rfl, hw⟩ := h4
  obtain ⟨L', hu1, hu2⟩ := hu _ w
  refine Ev.st hS4 hr (stkInt rfl hw.cell) (by simp) hu1 fun H5 hS5 => ?_
  refine Ev.assoc ?_
  refine Ev.ld hS5 hu2 ldkInt ?_
  refine Ev.some1 ?_
  exact Ev.done hS5 ⟨w, rfl, hw⟩
theorem zAdd_spec {B H : AH} {xs ys : List Nat} {m1 m2 : Value} {n1 n2 : Bool} (hm1 : xs.length < 137438953472) (hm2 : ys.length < 137438953472) (ha : RdN B m1 xs) (hb : RdN B m2 ys) (hL : Le B H) :
    Ev (fun k _ => rn k 18 [.agg #[.bool n1, m1], .agg #[.bool n2, m2]] H) (An B H fun B' v => IntV B' v (sg n1 (val xs) + sg n2 (val ys))) := by
  refine Ev.fn (fun k => f18_eq k _ _ H) ?_
  refine Ev.boxA (St.start hL) (by have := ha.cell; simp only [List.all_cons, List.all_nil, this]; rfl) fun b1 H1 hS1 => ?_
  refine Ev.boxA hS1 (by have := hb.cell; simp only [List.all_cons, List.all_nil, this]; rfl) fun b2 H2 hS2 => ?_
  refine Ev.newA zInt hS2 rfl fun b5 H25 hS25 => ?_
  refine Ev.ld hS25 (by (first | exact .head _ | exact .tail _ (.head _) | exact .tail _ (.tail _ (.head _)) | exact .tail _ (.tail _ (.tail _ (.head _))) | exact .tail _ (.tail _ (.tail _ (.tail _ (.head _)))))) ldkInt ?_
  refine Ev.call hS25 (of_spec (by omega) ha) fun v B3 H3 hm3 hS3 h3 => ?_
  obtain ⟨w1, rfl, hw1⟩ := h3
  refine Ev.ld hS3 (by (first | exact .head _ | exact .tail _ (.head _) | exact .tail _ (.tail _ (.head _)) | exact .tail _ (.tail _ (.tail _ (.head _))) | exact .tail _ (.tail _ (.tail _ (.tail _ (.head _)))))) ldkInt ?_
  refine Ev.chk (by rw [ld_blk (hS25.get (by (first | exact .head _ | exact .tail _ (.head _) | exact .tail _ (.tail _ (.head _)) | exact .tail _ (.tail _ (.tail _ (.head _))) | exact .tail _ (.tail _ (.tail _ (.tail _ (.head _))))))), ldkInt]) ?_
  refine Ev.call hS3 (of_spec (by omega) (hb.mono hm3)) fun v B4 H4 hm4 hS4 h4 => ?_
  obtain ⟨w2, rfl, hw2⟩ := h4
  have hw1 := hw1.mono hm4
  refine Ev.newA zSig hS4 rfl fun b3 H5 hS5 => ?_
  refine Ev.newA zSig hS5 rfl fun b4 H6 hS6 => ?_
  refine Ev.st hS6 (by (first | exact .head _ | exact .tail _ (.head _) | exact .tail _ (.tail _ (.head _)) | exact .tail _ (.tail _ (.tail _ (.head _))) | exact .tail _ (.tail _ (.tail _ (.tail _ (.head _)))))) (stkSig hw1.cell rfl) (by simp) (.tail _ (.head _)) fun H7 hS7 => ?_
  refine Ev.st hS7 (by (first | exact .head _ | exact .tail _ (.head _) | exact .tail _ (.tail _ (.head _)) | exact .tail _ (.tail _ (.tail _ (.head _))) | exact .tail _ (.tail _ (.tail _ (.tail _ (.head _)))))) (stkSig hw2.cell rfl) (by simp) (.head _) fun H8 hS8 => ?_
  have hxl := limbs_length_le (val_lt ha.2)
  have hyl := limbs_length_le (val_lt hb.2)
  refine Ev.prim fldSig1 ?_
  refine Ev.ld hS8 (by (first | exact .head _ | exact .tail _ (.head _) | exact .tail _ (.tail _ (.head _)) | exact .tail _ (.tail _ (.tail _ (.head _))) | exact .tail _ (.tail _ (.tail _ (.tail _ (.head _)))))) (ldkBo.trans rfl) ?_
  refine Ev.prim fldSig1 ?_
  refine Ev.ld hS8 (by (first | exact .head _ | exact .tail _ (.head _) | exact .tail _ (.tail _ (.head _)) | exact .tail _ (.tail _ (.tail _ (.head _))) | exact .tail _ (.tail _ (.tail _ (.tail _ (.head _)))))) (ldkBo.trans rfl) ?_
  refine Ev.prim eqlB ?_
  rw [← sg_norm (n := n1), ← sg_norm (n := n2)]
  generalize (n1 && decide (val xs ≠ 0)) = c1 at *
  generalize (n2 && decide (val ys ≠ 0)) = c2 at *
  generalize val xs = x at *
  generalize val ys = y at *
  refine Ev.ifb (fun h => ?_) fun h => ?_
  · have h : c1 = c2 := by simpa using h
    refine Ev.prim fldSig1 ?_
    refine Ev.ld hS8 (by (first | exact .head _ | exact .tail _ (.head _) | exact .tail _ (.tail _ (.head _)) | exact .tail _ (.tail _ (.tail _ (.head _))) | exact .tail _ (.tail _ (.tail _ (.tail _ (.head _)))))) (ldkBo.trans rfl) ?_
    refine Ev.prim fldSig0 ?_
    refine Ev.prim fldSize0 ?_
    refine Ev.ld hS8 (by (first | exact .head _ | exact .tail _ (.head _) | exact .tail _ (.tail _ (.head _)) | exact .tail _ (.tail _ (.tail _ (.head _))) | exact .tail _ (.tail _ (.tail _ (.tail _ (.head _)))))) (ldkS.trans rfl) ?_
    refine Ev.prim fldSig0 ?_
    refine Ev.prim fldSize0 ?_
    refine Ev.ld hS8 (by (first | exact .head _ | exact .tail _ (.head _) | exact .tail _ (.tail _ (.head _)) | exact .tail _ (.tail _ (.tail _ (.head _))) | exact .tail _ (.tail _ (.tail _ (.tail _ (.head _)))))) (ldkS.trans rfl) ?_
    refine Ev.call hS8 (Add_spec hw1 hw2 (by omega) (by omega)) fun v B9 H9 hm9 hS9 h9 => ?_
    rw [val_limbs, val_limbs] at h9
    refine Ev.chk (by rw [ld_blk (hS9.get (by (first | exact .head _ | exact .tail _ (.head _) | exact .tail _ (.tail _ (.head _)) | exact .tail _ (.tail _ (.tail _ (.head _))) | exact .tail _ (.tail _ (.tail _ (.tail _ (.head _))))))), ldkBo]; rfl) ?_
    have hl : (limbs (x + y)).length ≤ (limbs x).length + (limbs y).length + 1 := by
      refine limbs_length_le ?_
      have e1 := val_lt (small_limbs x)
      have e2 := val_lt (small_limbs y)
      rw [val_limbs] at e1 e2
      have e3 : 4294967296 ^ (limbs x).length ≤ 4294967296 ^ ((limbs x).length + (limbs y).length) := Nat.pow_le_pow_right (by decide) (by omega)
      have e4 : 4294967296 ^ (limbs y).length ≤ 4294967296 ^ ((limbs x).length + (limbs y).length) := Nat.pow_le_pow_right (by decide) (by omega)
      rw [Nat.pow_succ]
      generalize 4294967296 ^ ((limbs x).length + (limbs y).length) = p at *
      omega
    refine Ev.call hS9 (Make_spec (by omega) h9) fun v B4 H4 hm4 hS4 h4 => ?_
    rw [val_limbs, ← sg_add h] at h4
    obtain ⟨w, rfl, hw⟩ := h4
    refine Ev.st hS4 (by (first | exact .head _ | exact .tail _ (.head _) | exact .tail _ (.tail _ (.head _)) | exact .tail _ (.tail _ (.tail _ (.head _))) | exact .tail _ (.tail _ (.tail _ (.tail _ (.head _)))))) (stkInt rfl hw.cell) (by simp) (.tail _ (.tail _ (.head _))) fun H5 hS5 => ?_
    refine Ev.assoc ?_
    refine Ev.ld hS5 (by (first | exact .head _ | exact .tail _ (.head _) | exact .tail _ (.tail _ (.head _)) | exact .tail _ (.tail _ (.tail _ (.head _))) | exact .tail _ (.tail _ (.tail _ (.tail _ (.head _)))))) ldkInt ?_
    refine Ev.some1 ?_
    exact Ev.done hS5 ⟨w, rfl, hw⟩
  · have h : c1 ≠ c2 := by simpa using h
    refine Ev.prim fldSig0 ?_
    refine Ev.prim fldSize0 ?_
    refine Ev.ld hS8 (by (first | exact .head _ | exact .tail _ (.head _) | exact .tail _ (.tail _ (.head _)) | exact .tail _ (.tail _ (.tail _ (.head _))) | exact .tail _ (.tail _ (.tail _ (.tail _ (.head _)))))) (ldkS.trans rfl) ?_
    refine Ev.prim fldSig0 ?_
    refine Ev.prim fldSize0 ?_
    refine Ev.ld hS8 (by (first | exact .head _ | exact .tail _ (.head _) | exact .tail _ (.tail _ (.head _)) | exact .tail _ (.tail _ (.tail _ (.head _))) | exact .tail _ (.tail _ (.tail _ (.tail _ (.head _)))))) (ldkS.trans rfl) ?_
    refine Ev.callU (Cmp_spec hw1 hw2 (by omega) (by omega) hS8.lel) ?_
    rintro _ rfl
    rw [val_limbs, val_limbs]
    refine Ev.prim bin_lss ?_
    refine Ev.ifp (fun h1 => ?_) fun h1 => ?_
    · rw [cmpN_lt] at h1
      refine Ev.ld hS8 (by (first | exact .head _ | exact .tail _ (.head _) | exact .tail _ (.tail _ (.head _)) | exact .tail _ (.tail _ (.tail _ (.head _))) | exact .tail _ (.tail _ (.tail _ (.tail _ (.head _)))))) ldkSig ?_
      refine Ev.ld hS8 (by (first | exact .head _ | exact .tail _ (.head _) | exact .tail _ (.tail _ (.head _)) | exact .tail _ (.tail _ (.tail _ (.head _))) | exact .tail _ (.tail _ (.tail _ (.tail _ (.head _)))))) ldkSig ?_
      refine Ev.st hS8 (by (first | exact .head _ | exact .tail _ (.head _) | exact .tail _ (.tail _ (.head _)) | exact .tail _ (.tail _ (.tail _ (.head _))) | exact .tail _ (.tail _ (.tail _ (.tail _ (.head _)))))) (stkSig hw2.cell rfl) (by simp) (.tail _ (.head _)) fun H9 hS9 => ?_
      refine Ev.st hS9 (by (first | exact .head _ | exact .tail _ (.head _) | exact .tail _ (.tail _ (.head _)) | exact .tail _ (.tail _ (.tail _ (.head _))) | exact .tail _ (.tail _ (.tail _ (.tail _ (.head _)))))) (stkSig hw1.cell rfl) (by simp) (.head _) fun H10 hS10 => ?_
      rw [Int.add_comm, sg_diff h.symm (by omega)]
      exact add_join hw2 hw1 (by omega) (by omega) (by omega) hS10 (.tail _ (.head _)) (.head _) (.tail _ (.tail _ (.head _))) fun _ _ => ⟨_, .tail _ (.tail _ (.head _)), .tail _ (.tail _ (.head _))⟩
    · rw [cmpN_lt] at h1
      rw [sg_diff h (by omega)]
      exact add_join hw1 hw2 (by omega) (by omega) (by omega) hS8 (.tail _ (.head _)) (.head _) (.tail _ (.tail _ (.head _))) fun _ _ => ⟨_, .tail _ (.tail _ (.head _)), .tail _ (.tail _ (.head _))⟩
end Go.AM.Z
set_option linter.unusedVariables false
set_option linter.unusedSimpArgs false
set_option maxRecDepth 100000
namespace Go.AM.Z
open Go Go.AM Go.Proofs
attribute [local irreducible] run bin un ld st box newV mkS fldA fld ixA ix slc slc3 build buildS cv cvS ap cpy lenV gOp pickV b2 aIf aChk evalK resume iterD Option.bind

theorem Right_spec {B H : AH} {xs : List Nat} {m : Value} {neg : Bool} (hm : xs.length < 9223372036854775808) (ha : RdN B m xs) (hL : Le B H) :
    Ev (fun k _ => rn k 26 [.agg #[.bool neg, m]] H) (An B H fun _ v => v = .bool (rightI neg xs)) := by
  refine Ev.fn (fun k => f26_eq k _ H) ?_
  refine Ev.boxA (St.start hL) (by have := ha.cell; simp only [List.all_cons, List.all_nil, this]; rfl) fun b1 H1 hS1 => ?_
  refine Ev.prim fldInt1 ?_
  refine Ev.ld hS1 (by (first | exact .head _ | exact .tail _ (.head _) | exact .tail _ (.tail _ (.head _)) | exact .tail _ (.tail _ (.tail _ (.head _))) | exact .tail _ (.tail _ (.tail _ (.tail _ (.head _)))))) (ldkS.trans rfl) ?_
  refine Ev.prim (ha.lenN Ew) ?_
  refine Ev.prim eqlL ?_
  refine Ev.ifp (fun h => ?_) fun h => ?_
  · refine Ev.prim fldInt0 ?_
    refine Ev.ld hS1 (by (first | exact .head _ | exact .tail _ (.head _) | exact .tail _ (.tail _ (.head _)) | exact .tail _ (.tail _ (.tail _ (.head _))) | exact .tail _ (.tail _ (.tail _ (.tail _ (.head _)))))) (ldkBo.trans rfl) ?_
    refine Ev.prim un_not ?_
    exact Ev.done hS1 (by rw [rightI, if_pos h])
  · refine Ev.prim fldInt1 ?_
    refine Ev.ld hS1 (by (first | exact .head _ | exact .tail _ (.head _) | exact .tail _ (.tail _ (.head _)) | exact .tail _ (.tail _ (.tail _ (.head _))) | exact .tail _ (.tail _ (.tail _ (.tail _ (.head _)))))) (ldkS.trans rfl) ?_
    refine Ev.prim fldInt1 ?_
    refine Ev.ld hS1 (by (first | exact .head _ | exact .tail _ (.head _) | exact .tail _ (.tail _ (.head _)) | exact .tail _ (.tail _ (.tail _ (.head _))) | exact .tail _ (.tail _ (.tail _ (.tail _ (.head _)))))) (ldkS.trans rfl) ?_
    refine Ev.prim (ha.lenN Ew) ?_
    refine Ev.prim (subL (by omega)) ?_
    obtain ⟨p, hp1, hp2⟩ := ha.ixN (k := .i64) (i := xs.length - 1) Ew (by omega)
    refine Ev.prim hp1 ?_
    refine Ev.prim (hp2 H1 hS1.le) ?_
    refine Ev.prim neqL ?_
    exact Ev.done hS1 (by rw [rightI, if_neg h])
end Go.AM.Z
set_option linter.unusedVariables false
set_option linter.unusedSimpArgs false
set_option maxRecDepth 100000
namespace Go.AM.Z
open Go Go.AM Go.Proofs
attribute [local irreducible] run bin un ld st box newV mkS fldA fld ixA ix slc slc3 build buildS cv cvS ap cpy lenV gOp pickV b2 aIf aChk evalK resume iterD Option.bind

/-- A number as a machine's, if it is one. -/
def smallI (z : Int) : Value := if -9223372036854775808 ≤ z ∧ z < 9223372036854775808 then .tuple #[.int .i64 z, .bool true] else .tuple #[.int .i64 0, .bool false]
theorem tup1 {k : IntKind} {a a' : Int} {b : Bool} (h : a = a') : Value.tuple #[.int k a, .bool b] = .tuple #[.int k a', .bool b] := by rw [h]
theorem zSmall_spec {B H : AH} {xs : List Nat} {m : Value} {neg : Bool} (hm : xs.length < 274877906944) (ha : RdN B m xs) (hL : Le B H) :
    Ev (fun k _ => rn k 27 [.agg #[.bool neg, m]] H) (An B H fun _ v => v = smallI (sg neg (val xs))) := by
  refine Ev.fn (fun k => f27_eq k _ H) ?_
  refine Ev.boxA (St.start hL) (by have := ha.cell; simp only [List.all_cons, List.all_nil, this]; rfl) fun b1 H1 hS1 => ?_
  refine Ev.ld hS1 (by (first | exact .head _ | exact .tail _ (.head _) | exact .tail _ (.tail _ (.head _)) | exact .tail _ (.tail _ (.tail _ (.head _))) | exact .tail _ (.tail _ (.tail _ (.tail _ (.head _)))))) ldkInt ?_
  refine Ev.call hS1 (of_spec (by omega) ha) fun v B3 H3 hm3 hS3 h3 => ?_
  obtain ⟨w, rfl, hw⟩ := h3
  refine Ev.newA zSig hS3 rfl fun b2 H4 hS4 => ?_
  refine Ev.st hS4 (by (first | exact .head _ | exact .tail _ (.head _) | exact .tail _ (.tail _ (.head _)) | exact .tail _ (.tail _ (.tail _ (.head _))) | exact .tail _ (.tail _ (.tail _ (.tail _ (.head _)))))) (stkSig hw.cell rfl) (by simp) (.head _) fun H5 hS5 => ?_
  refine Ev.prim fldSig0 ?_
  refine Ev.prim fldSize0 ?_
  refine Ev.ld hS5 (by (first | exact .head _ | exact .tail _ (.head _) | exact .tail _ (.tail _ (.head _)) | exact .tail _ (.tail _ (.tail _ (.head _))) | exact .tail _ (.tail _ (.tail _ (.tail _ (.head _)))))) (ldkS.trans rfl) ?_
  have hl := limbs_length_le (val_lt ha.2)
  refine Ev.callU (Small_spec (by omega) hw hS5.lel) ?_
  rintro _ rfl
  rw [val_limbs, ← sg_norm (n := neg)]
  generalize (neg && decide (val xs ≠ 0)) = c at *
  generalize val xs = x at *
  by_cases hx : x < 18446744073709551616
  · rw [if_pos hx]
    refine Ev.prim ext_0 ?_
    refine Ev.prim ext_1 ?_
    refine Ev.gDo (Ev.gPrim fldSig1 rfl ?_)
    refine Ev.gDo (Ev.gPrim ((ld_blk (hS5.get (by (first | exact .head _ | exact .tail _ (.head _) | exact .tail _ (.tail _ (.head _)) | exact .tail _ (.tail _ (.tail _ (.head _))) | exact .tail _ (.tail _ (.tail _ (.tail _ (.head _)))))))).trans (ldkBo.trans rfl)) rfl ?_)
    cases c with
    | true =>
      repeat (first | refine Ev.some2 ?_ | refine Ev.some1 ?_ | refine Ev.gDo ?_ | refine Ev.gSkipT ?_ | refine Ev.gSkipF ?_ | refine Ev.gUndef ?_ | refine Ev.gCall ?_ | refine Ev.tt ?_ | refine Ev.ff ?_ | refine Ev.gPrim (by (first | with_reducible exact lssL | with_reducible exact gtrL | with_reducible exact eqlL | with_reducible exact neqL | with_reducible exact leqL | with_reducible exact geqL | with_reducible exact lssN | with_reducible exact gtrN | with_reducible exact eqlN | with_reducible exact neqN | with_reducible exact leqN | with_reducible exact geqN | (with_reducible refine addL ?_; omega) | (with_reducible refine subL ?_; omega) | (with_reducible refine quoL ?_; omega) | (with_reducible refine mulL ?_; omega) | (with_reducible refine lmul ?_; omega) | (with_reducible refine addN ?_; omega) | (with_reducible refine subN ?_; omega) | (with_reducible refine quoN ?_; omega) | (with_reducible refine mulN ?_; omega) | (with_reducible refine addQ ?_; omega) | (with_reducible refine subQ ?_; omega) | (with_reducible refine mulQ ?_; omega) | (with_reducible refine shlQL ?_; omega) | (with_reducible refine shlQ ?_; omega) | (with_reducible refine remL ?_; decide) | (with_reducible refine shrL ?_; decide) | (with_reducible refine remN ?_; omega) | (with_reducible refine toU64 ?_ Uw Uq; omega) | (with_reducible exact toU32 Uq Uw) | exact bin_lss | exact bin_gtr | exact bin_eql | exact bin_neq | exact bin_leq | exact bin_geq | exact lenV_sl Us | exact ext_0 | exact ext_1 | exact ext_2 | exact pick_t | exact pick_f | exact bin_add64 (by omega) | exact bin_sub64 (by omega) | exact un_not | exact cv_int Uq Uw | exact cv_int Uw Uq | exact bin_add | exact bin_sub | exact bin_mul | rfl)) rfl ?_ | refine Ev.prim (by (first | with_reducible exact lssL | with_reducible exact gtrL | with_reducible exact eqlL | with_reducible exact neqL | with_reducible exact leqL | with_reducible exact geqL | with_reducible exact lssN | with_reducible exact gtrN | with_reducible exact eqlN | with_reducible exact neqN | with_reducible exact leqN | with_reducible exact geqN | (with_reducible refine addL ?_; omega) | (with_reducible refine subL ?_; omega) | (with_reducible refine quoL ?_; omega) | (with_reducible refine mulL ?_; omega) | (with_reducible refine lmul ?_; omega) | (with_reducible refine addN ?_; omega) | (with_reducible refine subN ?_; omega) | (with_reducible refine quoN ?_; omega) | (with_reducible refine mulN ?_; omega) | (with_reducible refine addQ ?_; omega) | (with_reducible refine subQ ?_; omega) | (with_reducible refine mulQ ?_; omega) | (with_reducible refine shlQL ?_; omega) | (with_reducible refine shlQ ?_; omega) | (with_reducible refine remL ?_; decide) | (with_reducible refine shrL ?_; decide) | (with_reducible refine remN ?_; omega) | (with_reducible refine toU64 ?_ Uw Uq; omega) | (with_reducible exact toU32 Uq Uw) | exact bin_lss | exact bin_gtr | exact bin_eql | exact bin_neq | exact bin_leq | exact bin_geq | exact lenV_sl Us | exact ext_0 | exact ext_1 | exact ext_2 | exact pick_t | exact pick_f | exact bin_add64 (by omega) | exact bin_sub64 (by omega) | exact un_not | exact cv_int Uq Uw | exact cv_int Uw Uq | exact bin_add | exact bin_sub | exact bin_mul | rfl)) ?_)
      refine Ev.ifp (fun h => ?_) fun h => ?_
      · refine Ev.prim un_neg ?_
        refine Ev.prim (cv_int Uq Ui) ?_
        refine Ev.done hS5 ?_
        unfold smallI sg
        simp only [if_true]
        rw [if_pos (by omega)]
        refine tup1 ?_
        rw [wrapu64]
        simp only [IntKind.wrap, IntKind.bits, IntKind.signed]; simp; omega
      · refine Ev.gDo (Ev.gPrim fldSig1 rfl ?_)
        refine Ev.gDo (Ev.gPrim ((ld_blk (hS5.get (by (first | exact .head _ | exact .tail _ (.head _) | exact .tail _ (.tail _ (.head _)) | exact .tail _ (.tail _ (.tail _ (.head _))) | exact .tail _ (.tail _ (.tail _ (.tail _ (.head _)))))))).trans (ldkBo.trans rfl)) rfl ?_)
        repeat (first | refine Ev.some2 ?_ | refine Ev.some1 ?_ | refine Ev.gDo ?_ | refine Ev.gSkipT ?_ | refine Ev.gSkipF ?_ | refine Ev.gUndef ?_ | refine Ev.gCall ?_ | refine Ev.tt ?_ | refine Ev.ff ?_ | refine Ev.gPrim (by (first | with_reducible exact lssL | with_reducible exact gtrL | with_reducible exact eqlL | with_reducible exact neqL | with_reducible exact leqL | with_reducible exact geqL | with_reducible exact lssN | with_reducible exact gtrN | with_reducible exact eqlN | with_reducible exact neqN | with_reducible exact leqN | with_reducible exact geqN | (with_reducible refine addL ?_; omega) | (with_reducible refine subL ?_; omega) | (with_reducible refine quoL ?_; omega) | (with_reducible refine mulL ?_; omega) | (with_reducible refine lmul ?_; omega) | (with_reducible refine addN ?_; omega) | (with_reducible refine subN ?_; omega) | (with_reducible refine quoN ?_; omega) | (with_reducible refine mulN ?_; omega) | (with_reducible refine addQ ?_; omega) | (with_reducible refine subQ ?_; omega) | (with_reducible refine mulQ ?_; omega) | (with_reducible refine shlQL ?_; omega) | (with_reducible refine shlQ ?_; omega) | (with_reducible refine remL ?_; decide) | (with_reducible refine shrL ?_; decide) | (with_reducible refine remN ?_; omega) | (with_reducible refine toU64 ?_ Uw Uq; omega) | (with_reducible exact toU32 Uq Uw) | exact bin_lss | exact bin_gtr | exact bin_eql | exact bin_neq | exact bin_leq | exact bin_geq | exact lenV_sl Us | exact ext_0 | exact ext_1 | exact ext_2 | exact pick_t | exact pick_f | exact bin_add64 (by omega) | exact bin_sub64 (by omega) | exact un_not | exact cv_int Uq Uw | exact cv_int Uw Uq | exact bin_add | exact bin_sub | exact bin_mul | rfl)) rfl ?_ | refine Ev.prim (by (first | with_reducible exact lssL | with_reducible exact gtrL | with_reducible exact eqlL | with_reducible exact neqL | with_reducible exact leqL | with_reducible exact geqL | with_reducible exact lssN | with_reducible exact gtrN | with_reducible exact eqlN | with_reducible exact neqN | with_reducible exact leqN | with_reducible exact geqN | (with_reducible refine addL ?_; omega) | (with_reducible refine subL ?_; omega) | (with_reducible refine quoL ?_; omega) | (with_reducible refine mulL ?_; omega) | (with_reducible refine lmul ?_; omega) | (with_reducible refine addN ?_; omega) | (with_reducible refine subN ?_; omega) | (with_reducible refine quoN ?_; omega) | (with_reducible refine mulN ?_; omega) | (with_reducible refine addQ ?_; omega) | (with_reducible refine subQ ?_; omega) | (with_reducible refine mulQ ?_; omega) | (with_reducible refine shlQL ?_; omega) | (with_reducible refine shlQ ?_; omega) | (with_reducible refine remL ?_; decide) | (with_reducible refine shrL ?_; decide) | (with_reducible refine remN ?_; omega) | (with_reducible refine toU64 ?_ Uw Uq; omega) | (with_reducible exact toU32 Uq Uw) | exact bin_lss | exact bin_gtr | exact bin_eql | exact bin_neq | exact bin_leq | exact bin_geq | exact lenV_sl Us | exact ext_0 | exact ext_1 | exact ext_2 | exact pick_t | exact pick_f | exact bin_add64 (by omega) | exact bin_sub64 (by omega) | exact un_not | exact cv_int Uq Uw | exact cv_int Uw Uq | exact bin_add | exact bin_sub | exact bin_mul | rfl)) ?_)
        refine Ev.done hS5 ?_
        unfold smallI sg
        simp only [if_true]
        rw [if_neg (by omega)]
    | false =>
      repeat (first | refine Ev.some2 ?_ | refine Ev.some1 ?_ | refine Ev.gDo ?_ | refine Ev.gSkipT ?_ | refine Ev.gSkipF ?_ | refine Ev.gUndef ?_ | refine Ev.gCall ?_ | refine Ev.tt ?_ | refine Ev.ff ?_ | refine Ev.gPrim (by (first | with_reducible exact lssL | with_reducible exact gtrL | with_reducible exact eqlL | with_reducible exact neqL | with_reducible exact leqL | with_reducible exact geqL | with_reducible exact lssN | with_reducible exact gtrN | with_reducible exact eqlN | with_reducible exact neqN | with_reducible exact leqN | with_reducible exact geqN | (with_reducible refine addL ?_; omega) | (with_reducible refine subL ?_; omega) | (with_reducible refine quoL ?_; omega) | (with_reducible refine mulL ?_; omega) | (with_reducible refine lmul ?_; omega) | (with_reducible refine addN ?_; omega) | (with_reducible refine subN ?_; omega) | (with_reducible refine quoN ?_; omega) | (with_reducible refine mulN ?_; omega) | (with_reducible refine addQ ?_; omega) | (with_reducible refine subQ ?_; omega) | (with_reducible refine mulQ ?_; omega) | (with_reducible refine shlQL ?_; omega) | (with_reducible refine shlQ ?_; omega) | (with_reducible refine remL ?_; decide) | (with_reducible refine shrL ?_; decide) | (with_reducible refine remN ?_; omega) | (with_reducible refine toU64 ?_ Uw Uq; omega) | (with_reducible exact toU32 Uq Uw) | exact bin_lss | exact bin_gtr | exact bin_eql | exact bin_neq | exact bin_leq | exact bin_geq | exact lenV_sl Us | exact ext_0 | exact ext_1 | exact ext_2 | exact pick_t | exact pick_f | exact bin_add64 (by omega) | exact bin_sub64 (by omega) | exact un_not | exact cv_int Uq Uw | exact cv_int Uw Uq | exact bin_add | exact bin_sub | exact bin_mul | rfl)) rfl ?_ | refine Ev.prim (by (first | with_reducible exact lssL | with_reducible exact gtrL | with_reducible exact eqlL | with_reducible exact neqL | with_reducible exact leqL | with_reducible exact geqL | with_reducible exact lssN | with_reducible exact gtrN | with_reducible exact eqlN | with_reducible exact neqN | with_reducible exact leqN | with_reducible exact geqN | (with_reducible refine addL ?_; omega) | (with_reducible refine subL ?_; omega) | (with_reducible refine quoL ?_; omega) | (with_reducible refine mulL ?_; omega) | (with_reducible refine lmul ?_; omega) | (with_reducible refine addN ?_; omega) | (with_reducible refine subN ?_; omega) | (with_reducible refine quoN ?_; omega) | (with_reducible refine mulN ?_; omega) | (with_reducible refine addQ ?_; omega) | (with_reducible refine subQ ?_; omega) | (with_reducible refine mulQ ?_; omega) | (with_reducible refine shlQL ?_; omega) | (with_reducible refine shlQ ?_; omega) | (with_reducible refine remL ?_; decide) | (with_reducible refine shrL ?_; decide) | (with_reducible refine remN ?_; omega) | (with_reducible refine toU64 ?_ Uw Uq; omega) | (with_reducible exact toU32 Uq Uw) | exact bin_lss | exact bin_gtr | exact bin_eql | exact bin_neq | exact bin_leq | exact bin_geq | exact lenV_sl Us | exact ext_0 | exact ext_1 | exact ext_2 | exact pick_t | exact pick_f | exact bin_add64 (by omega) | exact bin_sub64 (by omega) | exact un_not | exact cv_int Uq Uw | exact cv_int Uw Uq | exact bin_add | exact bin_sub | exact bin_mul | rfl)) ?_)
      refine Ev.gPrim fldSig1 rfl ?_
      refine Ev.gDo (Ev.gPrim ((ld_blk (hS5.get (by (first | exact .head _ | exact .tail _ (.head _) | exact .tail _ (.tail _ (.head _)) | exact .tail _ (.tail _ (.tail _ (.head _))) | exact .tail _ (.tail _ (.tail _ (.tail _ (.head _)))))))).trans (ldkBo.trans rfl)) rfl ?_)
      repeat (first | refine Ev.some2 ?_ | refine Ev.some1 ?_ | refine Ev.gDo ?_ | refine Ev.gSkipT ?_ | refine Ev.gSkipF ?_ | refine Ev.gUndef ?_ | refine Ev.gCall ?_ | refine Ev.tt ?_ | refine Ev.ff ?_ | refine Ev.gPrim (by (first | with_reducible exact lssL | with_reducible exact gtrL | with_reducible exact eqlL | with_reducible exact neqL | with_reducible exact leqL | with_reducible exact geqL | with_reducible exact lssN | with_reducible exact gtrN | with_reducible exact eqlN | with_reducible exact neqN | with_reducible exact leqN | with_reducible exact geqN | (with_reducible refine addL ?_; omega) | (with_reducible refine subL ?_; omega) | (with_reducible refine quoL ?_; omega) | (with_reducible refine mulL ?_; omega) | (with_reducible refine lmul ?_; omega) | (with_reducible refine addN ?_; omega) | (with_reducible refine subN ?_; omega) | (with_reducible refine quoN ?_; omega) | (with_reducible refine mulN ?_; omega) | (with_reducible refine addQ ?_; omega) | (with_reducible refine subQ ?_; omega) | (with_reducible refine mulQ ?_; omega) | (with_reducible refine shlQL ?_; omega) | (with_reducible refine shlQ ?_; omega) | (with_reducible refine remL ?_; decide) | (with_reducible refine shrL ?_; decide) | (with_reducible refine remN ?_; omega) | (with_reducible refine toU64 ?_ Uw Uq; omega) | (with_reducible exact toU32 Uq Uw) | exact bin_lss | exact bin_gtr | exact bin_eql | exact bin_neq | exact bin_leq | exact bin_geq | exact lenV_sl Us | exact ext_0 | exact ext_1 | exact ext_2 | exact pick_t | exact pick_f | exact bin_add64 (by omega) | exact bin_sub64 (by omega) | exact un_not | exact cv_int Uq Uw | exact cv_int Uw Uq | exact bin_add | exact bin_sub | exact bin_mul | rfl)) rfl ?_ | refine Ev.prim (by (first | with_reducible exact lssL | with_reducible exact gtrL | with_reducible exact eqlL | with_reducible exact neqL | with_reducible exact leqL | with_reducible exact geqL | with_reducible exact lssN | with_reducible exact gtrN | with_reducible exact eqlN | with_reducible exact neqN | with_reducible exact leqN | with_reducible exact geqN | (with_reducible refine addL ?_; omega) | (with_reducible refine subL ?_; omega) | (with_reducible refine quoL ?_; omega) | (with_reducible refine mulL ?_; omega) | (with_reducible refine lmul ?_; omega) | (with_reducible refine addN ?_; omega) | (with_reducible refine subN ?_; omega) | (with_reducible refine quoN ?_; omega) | (with_reducible refine mulN ?_; omega) | (with_reducible refine addQ ?_; omega) | (with_reducible refine subQ ?_; omega) | (with_reducible refine mulQ ?_; omega) | (with_reducible refine shlQL ?_; omega) | (with_reducible refine shlQ ?_; omega) | (with_reducible refine remL ?_; decide) | (with_reducible refine shrL ?_; decide) | (with_reducible refine remN ?_; omega) | (with_reducible refine toU64 ?_ Uw Uq; omega) | (with_reducible exact toU32 Uq Uw) | exact bin_lss | exact bin_gtr | exact bin_eql | exact bin_neq | exact bin_leq | exact bin_geq | exact lenV_sl Us | exact ext_0 | exact ext_1 | exact ext_2 | exact pick_t | exact pick_f | exact bin_add64 (by omega) | exact bin_sub64 (by omega) | exact un_not | exact cv_int Uq Uw | exact cv_int Uw Uq | exact bin_add | exact bin_sub | exact bin_mul | rfl)) ?_)
      refine Ev.ifp (fun h => ?_) fun h => ?_
      · refine Ev.prim (cv_int Uq Ui) ?_
        refine Ev.done hS5 ?_
        unfold smallI sg
        simp only [Bool.false_eq_true, if_false]
        rw [if_pos (by omega)]
        exact tup1 (wrap64 (by omega))
      · refine Ev.done hS5 ?_
        unfold smallI sg
        simp only [Bool.false_eq_true, if_false]
        rw [if_neg (by omega)]
  · rw [if_neg hx]
    repeat (first | refine Ev.some2 ?_ | refine Ev.some1 ?_ | refine Ev.gDo ?_ | refine Ev.gSkipT ?_ | refine Ev.gSkipF ?_ | refine Ev.gUndef ?_ | refine Ev.gCall ?_ | refine Ev.tt ?_ | refine Ev.ff ?_ | refine Ev.gPrim (by (first | with_reducible exact lssL | with_reducible exact gtrL | with_reducible exact eqlL | with_reducible exact neqL | with_reducible exact leqL | with_reducible exact geqL | with_reducible exact lssN | with_reducible exact gtrN | with_reducible exact eqlN | with_reducible exact neqN | with_reducible exact leqN | with_reducible exact geqN | (with_reducible refine addL ?_; omega) | (with_reducible refine subL ?_; omega) | (with_reducible refine quoL ?_; omega) | (with_reducible refine mulL ?_; omega) | (with_reducible refine lmul ?_; omega) | (with_reducible refine addN ?_; omega) | (with_reducible refine subN ?_; omega) | (with_reducible refine quoN ?_; omega) | (with_reducible refine mulN ?_; omega) | (with_reducible refine addQ ?_; omega) | (with_reducible refine subQ ?_; omega) | (with_reducible refine mulQ ?_; omega) | (with_reducible refine shlQL ?_; omega) | (with_reducible refine shlQ ?_; omega) | (with_reducible refine remL ?_; decide) | (with_reducible refine shrL ?_; decide) | (with_reducible refine remN ?_; omega) | (with_reducible refine toU64 ?_ Uw Uq; omega) | (with_reducible exact toU32 Uq Uw) | exact bin_lss | exact bin_gtr | exact bin_eql | exact bin_neq | exact bin_leq | exact bin_geq | exact lenV_sl Us | exact ext_0 | exact ext_1 | exact ext_2 | exact pick_t | exact pick_f | exact bin_add64 (by omega) | exact bin_sub64 (by omega) | exact un_not | exact cv_int Uq Uw | exact cv_int Uw Uq | exact bin_add | exact bin_sub | exact bin_mul | rfl)) rfl ?_ | refine Ev.prim (by (first | with_reducible exact lssL | with_reducible exact gtrL | with_reducible exact eqlL | with_reducible exact neqL | with_reducible exact leqL | with_reducible exact geqL | with_reducible exact lssN | with_reducible exact gtrN | with_reducible exact eqlN | with_reducible exact neqN | with_reducible exact leqN | with_reducible exact geqN | (with_reducible refine addL ?_; omega) | (with_reducible refine subL ?_; omega) | (with_reducible refine quoL ?_; omega) | (with_reducible refine mulL ?_; omega) | (with_reducible refine lmul ?_; omega) | (with_reducible refine addN ?_; omega) | (with_reducible refine subN ?_; omega) | (with_reducible refine quoN ?_; omega) | (with_reducible refine mulN ?_; omega) | (with_reducible refine addQ ?_; omega) | (with_reducible refine subQ ?_; omega) | (with_reducible refine mulQ ?_; omega) | (with_reducible refine shlQL ?_; omega) | (with_reducible refine shlQ ?_; omega) | (with_reducible refine remL ?_; decide) | (with_reducible refine shrL ?_; decide) | (with_reducible refine remN ?_; omega) | (with_reducible refine toU64 ?_ Uw Uq; omega) | (with_reducible exact toU32 Uq Uw) | exact bin_lss | exact bin_gtr | exact bin_eql | exact bin_neq | exact bin_leq | exact bin_geq | exact lenV_sl Us | exact ext_0 | exact ext_1 | exact ext_2 | exact pick_t | exact pick_f | exact bin_add64 (by omega) | exact bin_sub64 (by omega) | exact un_not | exact cv_int Uq Uw | exact cv_int Uw Uq | exact bin_add | exact bin_sub | exact bin_mul | rfl)) ?_)
    refine Ev.done hS5 ?_
    unfold smallI sg
    cases c <;> simp <;> omega
end Go.AM.Z
set_option linter.unusedVariables false
set_option linter.unusedSimpArgs false
set_option maxRecDepth 100000
namespace Go.AM.Z
open Go Go.AM Go.Proofs
attribute [local irreducible] run bin un ld st box newV mkS fldA fld ixA ix slc slc3 build buildS cv cvS ap cpy lenV gOp pickV b2 aIf aChk evalK resume iterD Option.bind

end Go.AM.Z
set_option linter.unusedVariables false
set_option linter.unusedSimpArgs false
set_option maxRecDepth 100000
namespace Go.AM.Z
open Go Go.AM Go.Proofs
attribute [local irreducible] run bin un ld st box newV mkS fldA fld ixA ix slc slc3 build buildS cv cvS ap cpy lenV gOp pickV b2 aIf aChk evalK resume iterD Option.bind

end Go.AM.Z
set_option linter.unusedVariables false
set_option linter.unusedSimpArgs false
namespace Go.AM
variable {α β R : Type} {P : Program}

class PrimEq (E : Option α) (a : outParam α) : Prop where
  eq : E = some a
class PrimC (E : Option α) (p : outParam Prop) (a : outParam α) : Prop where
  eq : p → E = some a
class IsCell (v : Value) : Prop where
  is : isCell v = true
class Nth (cs : List Value) (i : Nat) (v : outParam Value) : Prop where
  eq : cs[i]? = some v
class InL (b : Nat) (K : outParam Blk) (L : List (Nat × Blk)) : Prop where
  mem : (b, K) ∈ L
class UpL (b : Nat) (K : outParam Blk) (K' : Blk) (L : List (Nat × Blk)) (L' : outParam (List (Nat × Blk))) : Prop where
  upd : Upd b K K' L L'
class CellsOf (v : Value) (l : outParam (List Value)) : Prop where
  eq : v.cells.toList = l
  ok : okCells v = true
/-- A type's nought. -/
class ZeroOf (P : Program) (t : TypeId) (z : outParam Value) : Prop where
  eq : zeroT P t = some z
class AggOf (P : Program) (t : TypeId) (b : outParam Bool) : Prop where
  eq : aggT P t = some b
class SzOf (P : Program) (t : TypeId) (n : outParam Nat) : Prop where
  eq : szT P t = n
/-- Cells from one on. -/
class Cut (cs : List Value) (off n : Nat) (l : outParam (List Value)) : Prop where
  le : off + n ≤ cs.length
  eq : (cs.drop off).take n = l
class AllCell (l : List Value) : Prop where
  all : l.all isCell = true
class Und (P : Program) (t : TypeId) (D : outParam TypeDesc) : Prop where
  eq : P.underlying t = some D

instance {n : Int} {k : IntKind} : IsCell (.int k n) := ⟨rfl⟩
instance {b : Bool} : IsCell (.bool b) := ⟨rfl⟩
instance {s : ByteArray} : IsCell (.string s) := ⟨rfl⟩
instance {p : Option Addr} {n c : Nat} : IsCell (.slice p n c) := ⟨rfl⟩
instance {b o n c : Nat} : IsCell (sl b o n c) := ⟨rfl⟩
instance {b o : Nat} : IsCell (ptr b o) := ⟨rfl⟩
instance {p : Option Addr} : IsCell (.pointer p) := ⟨rfl⟩
instance {c : Fn} {x y : Array Value} : IsCell (.func c x y) := ⟨rfl⟩
instance : IsCell .nilFunc := ⟨rfl⟩
instance {B : AH} {v : Value} {xs : List Nat} [h : RdN B v xs] : IsCell v := ⟨h.cell⟩
instance : AllCell [] := ⟨rfl⟩
instance {v : Value} {l : List Value} [h : IsCell v] [k : AllCell l] : AllCell (v :: l) := ⟨by simp only [List.all_cons, h.is, k.all]; rfl⟩
instance {l : List Value} [h : AllCell l] : CellsOf (.agg (List.toArray l)) l := ⟨rfl, h.all⟩
instance (priority := low) {v : Value} [h : IsCell v] : CellsOf v [v] := ⟨cells_one h.is, okCells_of h.is⟩
instance {a : Value} {l : List Value} : Nth (a :: l) 0 a := ⟨rfl⟩
instance {a v : Value} {l : List Value} {n : Nat} [h : Nth l n v] : Nth (a :: l) (n + 1) v := ⟨h.eq⟩
instance {b : Nat} {K : Blk} {L : List (Nat × Blk)} : InL b K ((b, K) :: L) := ⟨.head _⟩
instance (priority := low) {b : Nat} {K : Blk} {x : Nat × Blk} {L : List (Nat × Blk)} [h : InL b K L] : InL b K (x :: L) := ⟨.tail _ h.mem⟩
instance {b : Nat} {K K' : Blk} {L : List (Nat × Blk)} : UpL b K K' ((b, K) :: L) ((b, K') :: L) := ⟨.head _⟩
instance (priority := low) {b : Nat} {K K' : Blk} {x : Nat × Blk} {L L' : List (Nat × Blk)} [h : UpL b K K' L L'] : UpL b K K' (x :: L) (x :: L') := ⟨.tail _ h.upd⟩
class CutN (cs : List Value) (n : Nat) (l : outParam (List Value)) : Prop where
  le : n ≤ cs.length
  eq : cs.take n = l
instance {cs : List Value} : CutN cs 0 [] := ⟨Nat.zero_le _, rfl⟩
instance {a : Value} {cs l : List Value} {n : Nat} [h : CutN cs n l] : CutN (a :: cs) (n + 1) (a :: l) := ⟨Nat.succ_le_succ h.le, by rw [List.take_succ_cons, h.eq]⟩
instance {cs l : List Value} {n : Nat} [h : CutN cs n l] : Cut cs 0 n l := ⟨by rw [Nat.zero_add]; exact h.le, h.eq⟩
instance {a : Value} {cs l : List Value} {off n : Nat} [h : Cut cs off n l] : Cut (a :: cs) (off + 1) n l := ⟨by have := h.le; simp only [List.length_cons]; omega, h.eq⟩
/-- Cells put over others. -/
class SplN (cs l : List Value) (r : outParam (List Value)) : Prop where
  le : l.length ≤ cs.length
  eq : l ++ cs.drop l.length = r
instance {cs : List Value} : SplN cs [] cs := ⟨Nat.zero_le _, rfl⟩
instance {a b : Value} {cs l r : List Value} [h : SplN cs l r] : SplN (a :: cs) (b :: l) (b :: r) := ⟨Nat.succ_le_succ h.le, by rw [List.length_cons, List.drop_succ_cons, List.cons_append, h.eq]⟩
class Spl (cs : List Value) (off : Nat) (l : List Value) (r : outParam (List Value)) : Prop where
  le : off + l.length ≤ cs.length
  eq : spl cs off l = r
instance {cs l r : List Value} [h : SplN cs l r] : Spl cs 0 l r := ⟨by rw [Nat.zero_add]; exact h.le, by unfold spl; rw [List.take_zero, List.nil_append, Nat.zero_add]; exact h.eq⟩
instance {a : Value} {cs l r : List Value} {off : Nat} [h : Spl cs off l r] : Spl (a :: cs) (off + 1) l (a :: r) :=
  ⟨by have := h.le; simp only [List.length_cons]; omega, by have := h.eq; unfold spl at this ⊢; rw [← this, Nat.add_right_comm, List.drop_succ_cons, List.take_succ_cons, List.cons_append]⟩

instance {t : TypeId} {cs : List Value} {off : Nat} {v : Value} [h : AggOf P t false] [k : Nth cs off v] : PrimEq (ldK P t cs off) v := ⟨by unfold ldK; rw [h.eq]; exact k.eq⟩
instance {t : TypeId} {cs l : List Value} {off n : Nat} [h : AggOf P t true] [s : SzOf P t n] [k : Cut cs off n l] : PrimEq (ldK P t cs off) (.agg (List.toArray l)) := ⟨by
  unfold ldK; rw [h.eq, s.eq]; simp only; rw [if_pos k.le, k.eq]⟩
instance {t : TypeId} {cs r : List Value} {off : Nat} {v : Value} [h : AggOf P t false] [s : SzOf P t 1] [c : IsCell v] [k : Spl cs off [v] r] : PrimEq (stK P t cs off v) r := ⟨by
  have hl : off < cs.length := by have := k.le; simp only [List.length_cons, List.length_nil] at this; omega
  unfold stK; rw [h.eq]; simp only; rw [if_pos ⟨s.eq, hl, c.is⟩, ← k.eq]
  unfold spl
  rw [List.set_eq_take_append_cons_drop, if_pos hl]; rfl⟩
instance {t : TypeId} {cs l r : List Value} {off n : Nat} [h : AggOf P t true] [s : SzOf P t n] [c : AllCell l] [k : Spl cs off l r] [hn : CutN l n l] : PrimEq (stK P t cs off (.agg (List.toArray l))) r := ⟨by
  have e : l.length = n := by have h1 := hn.le; have h2 := congrArg List.length hn.eq; rw [List.length_take] at h2; omega
  unfold stK; rw [h.eq]; simp only; rw [if_pos ⟨by rw [s.eq, ← e]; exact k.le, by rw [s.eq, ← e]; rfl, c.all⟩, ← k.eq]⟩
instance {H0 B0 B : AH} {L : List (Nat × Blk)} {H : AH} {b off : Nat} {K : Blk} {v : Value} {t : TypeId} [hS : St H0 B0 B L H] [hm : InL b K L] [hv : PrimEq (ldK P t K.cells off) v] : PrimEq (ld P t H (ptr b off)) v :=
  ⟨(ld_blk (hS.get hm.mem)).trans hv.eq⟩
theorem Ev.stC {H0 B0 B : AH} {L L' : List (Nat × Blk)} {H : AH} {b off : Nat} {cs0 : List Value} {e : TypeId} {v : Value} {cs : List Value} {t : TypeId} {f : Nat → Nat → AH → Option R} {Q : R → Prop} [hS : St H0 B0 B L H] [hm : InL b ⟨cs0, e, .fix⟩ L] [hs : PrimEq (stK P t cs0 off v) cs]
    [hu : UpL b ⟨cs0, e, .fix⟩ ⟨cs, e, .fix⟩ L L'] (h : ∀ H', St H0 B0 B L' H' → Ev (fun k n => f k n H') Q) : Ev (fun k n => (Go.AM.st P t H (ptr b off) v).bind (f k n)) Q :=
  Ev.st hS hm.mem hs.eq (fun h => by cases h) hu.upd h
theorem Ev.newC {H0 B0 B : AH} {L : List (Nat × Blk)} {H : AH} {t : TypeId} {z : Value} {l : List Value} {f : Nat → Nat → Value → AH → Option R} {Q : R → Prop} [hz : ZeroOf P t z] [hl : CellsOf z l] [hS : St H0 B0 B L H]
    (h : ∀ b H', St H0 B0 B ((b, ⟨l, t, .fix⟩) :: L) H' → Ev (fun k n => f k n (ptr b 0) H') Q) : Ev (fun k n => Go.AM.b2 (Go.AM.newV P t H) (f k n)) Q := by
  have e : Go.AM.newV P t H = Go.AM.box t H z := by unfold Go.AM.newV; rw [hz.eq]; rfl
  rw [e]
  exact Ev.prim2 (by unfold Go.AM.box; rw [if_pos hl.ok, hl.eq]) (h H.length _ (hS.mkB' l t .fix))
theorem Ev.boxC {H0 B0 B : AH} {L : List (Nat × Blk)} {H : AH} {t : TypeId} {v : Value} {l : List Value} {f : Nat → Nat → Value → AH → Option R} {Q : R → Prop} [hl : CellsOf v l] [hS : St H0 B0 B L H]
    (h : ∀ b H', St H0 B0 B ((b, ⟨l, t, .fix⟩) :: L) H' → Ev (fun k n => f k n (ptr b 0) H') Q) : Ev (fun k n => Go.AM.b2 (Go.AM.box t H v) (f k n)) Q :=
  Ev.prim2 (by unfold Go.AM.box; rw [if_pos hl.ok, hl.eq]) (h H.length _ (hS.mkB' l t .fix))

section
variable {t s d : TypeId} {a b n : Nat} {x y : Int} {k k' : IntKind}
instance (priority := 900) : PrimEq (bin P .lss t (.int k (a : Int)) (.int k (no_index (@OfNat.ofNat Int n instOfNat)))) (.bool (decide (a < @OfNat.ofNat Nat n (instOfNatNat n)))) := ⟨lssL⟩
instance (priority := 900) : PrimEq (bin P .leq t (.int k (a : Int)) (.int k (no_index (@OfNat.ofNat Int n instOfNat)))) (.bool (decide (a ≤ @OfNat.ofNat Nat n (instOfNatNat n)))) := ⟨leqL⟩
instance (priority := 900) : PrimEq (bin P .gtr t (.int k (a : Int)) (.int k (no_index (@OfNat.ofNat Int n instOfNat)))) (.bool (decide (@OfNat.ofNat Nat n (instOfNatNat n) < a))) := ⟨gtrL⟩
instance (priority := 900) : PrimEq (bin P .geq t (.int k (a : Int)) (.int k (no_index (@OfNat.ofNat Int n instOfNat)))) (.bool (decide (@OfNat.ofNat Nat n (instOfNatNat n) ≤ a))) := ⟨geqL⟩
instance (priority := 900) : PrimEq (bin P .eql t (.int k (a : Int)) (.int k (no_index (@OfNat.ofNat Int n instOfNat)))) (.bool (decide (a = @OfNat.ofNat Nat n (instOfNatNat n)))) := ⟨eqlL⟩
instance (priority := 900) : PrimEq (bin P .neq t (.int k (a : Int)) (.int k (no_index (@OfNat.ofNat Int n instOfNat)))) (.bool (decide (a ≠ @OfNat.ofNat Nat n (instOfNatNat n)))) := ⟨neqL⟩
instance (priority := 2000) : PrimEq (bin P .eql t (.int k x) (.int k x)) (.bool true) := ⟨by rw [bin_eql, decide_eq_true rfl]⟩
instance (priority := 2000) : PrimEq (bin P .neq t (.int k x) (.int k x)) (.bool false) := ⟨by rw [bin_neq, decide_eq_false (fun h => h rfl)]⟩
instance : PrimEq (bin P .lss t (.int k (a : Int)) (.int k (b : Int))) (.bool (decide (a < b))) := ⟨lssN⟩
instance : PrimEq (bin P .leq t (.int k (a : Int)) (.int k (b : Int))) (.bool (decide (a ≤ b))) := ⟨leqN⟩
instance : PrimEq (bin P .gtr t (.int k (a : Int)) (.int k (b : Int))) (.bool (decide (b < a))) := ⟨gtrN⟩
instance : PrimEq (bin P .geq t (.int k (a : Int)) (.int k (b : Int))) (.bool (decide (b ≤ a))) := ⟨geqN⟩
instance : PrimEq (bin P .eql t (.int k (a : Int)) (.int k (b : Int))) (.bool (decide (a = b))) := ⟨eqlN⟩
instance : PrimEq (bin P .neq t (.int k (a : Int)) (.int k (b : Int))) (.bool (decide (a ≠ b))) := ⟨neqN⟩
instance (priority := 100) : PrimEq (bin P .lss t (.int k x) (.int k y)) (.bool (decide (x < y))) := ⟨bin_lss⟩
instance (priority := 100) : PrimEq (bin P .leq t (.int k x) (.int k y)) (.bool (decide (x ≤ y))) := ⟨bin_leq⟩
instance (priority := 100) : PrimEq (bin P .gtr t (.int k x) (.int k y)) (.bool (decide (y < x))) := ⟨bin_gtr⟩
instance (priority := 100) : PrimEq (bin P .geq t (.int k x) (.int k y)) (.bool (decide (y ≤ x))) := ⟨bin_geq⟩
instance (priority := 100) : PrimEq (bin P .eql t (.int k x) (.int k y)) (.bool (decide (x = y))) := ⟨bin_eql⟩
instance (priority := 100) : PrimEq (bin P .neq t (.int k x) (.int k y)) (.bool (decide (x ≠ y))) := ⟨bin_neq⟩
instance (priority := low) {b : Bool} : PrimEq (un P .not (.bool b)) (.bool (!b)) := ⟨un_not⟩
instance : PrimEq (un P .not (.bool true)) (.bool false) := ⟨un_not⟩
instance : PrimEq (un P .not (.bool false)) (.bool true) := ⟨un_not⟩
instance : PrimEq (un P .neg (.int k x)) (.int k (k.wrap (0 - x))) := ⟨un_neg⟩
end
instance {x y : Value} : PrimEq (pickV (.bool true) x y) x := ⟨rfl⟩
instance {x y : Value} : PrimEq (pickV (.bool false) x y) y := ⟨rfl⟩
instance {b o : Nat} : PrimEq (nilChk (ptr b o)) (ptr b o) := ⟨rfl⟩
instance {f : FuncId} {a b : Array Value} : PrimEq (nilChk (.func (.func f) a b)) (.func (.func f) a b) := ⟨rfl⟩
instance {a : Value} {l : List Value} : PrimEq (ext (.tuple (List.toArray (a :: l))) 0) a := ⟨rfl⟩
instance {a b : Value} {l : List Value} : PrimEq (ext (.tuple (List.toArray (a :: b :: l))) 1) b := ⟨rfl⟩
instance {a b c : Value} {l : List Value} : PrimEq (ext (.tuple (List.toArray (a :: b :: c :: l))) 2) c := ⟨rfl⟩
instance {t e : TypeId} {b o n c : Nat} [h : Und P t (.slice e)] : PrimEq (lenV P t (sl b o n c)) (i64 n) := ⟨lenV_sl h.eq⟩
instance {t e : TypeId} [h : Und P t (.slice e)] : PrimEq (lenV P t (.slice none 0 0)) (.int .i64 0) := ⟨by unfold lenV; rw [h.eq]; rfl⟩
instance (priority := low) {t e : TypeId} {z : Value} {sz : Nat} {B : AH} {v : Value} {xs : List Nat} [hE : Elt P t e z sz] [h : RdN B v xs] : PrimEq (lenV P t v) (i64 xs.length) := ⟨h.lenN hE⟩
instance {x y : Value} {v : Value} [h : PrimEq (maxV x y) v] : PrimEq (fold1 maxV [x, y]) v := ⟨by show Option.bind _ _ = _; rw [h.eq]; rfl⟩
instance {x y : Value} {v : Value} [h : PrimEq (minV x y) v] : PrimEq (fold1 minV [x, y]) v := ⟨by show Option.bind _ _ = _; rw [h.eq]; rfl⟩
instance {k k' : IntKind} {x y : Int} : PrimEq (maxV (.int k x) (.int k' y)) (.int k (if y > x then y else x)) := ⟨rfl⟩
instance {k k' : IntKind} {x y : Int} : PrimEq (minV (.int k x) (.int k' y)) (.int k (if y < x then y else x)) := ⟨rfl⟩

class Step (g : Nat → Nat → Option R) (g' : outParam (Nat → Nat → Option R)) : Prop where
  step : ∀ {Q : R → Prop}, Ev g' Q → Ev g Q
theorem Ev.s {g g' : Nat → Nat → Option R} {Q : R → Prop} [h : Step g g'] (k : Ev g' Q) : Ev g Q := h.step k
instance {v : Value} {H : AH} {f : Nat → Nat → Value → AH → Option R} : Step (fun k n => Go.AM.b2 (some (v, H)) (f k n)) (fun k n => f k n v H) := ⟨fun h => h⟩
instance {a : α} {f : Nat → Nat → α → Option R} : Step (fun k n => (some a).bind (f k n)) (fun k n => f k n a) := ⟨fun h => h⟩
instance {x y : Nat → Nat → Option R} : Step (fun k n => aIf (.bool true) (x k n) (y k n)) x := ⟨fun h => h⟩
instance {x y : Nat → Nat → Option R} : Step (fun k n => aIf (.bool false) (x k n) (y k n)) y := ⟨fun h => h⟩
instance {x y : Nat → Nat → Option R} : Step (fun k n => aIf (.bool (!true)) (x k n) (y k n)) y := ⟨fun h => h⟩
instance {x y : Nat → Nat → Option R} : Step (fun k n => aIf (.bool (!false)) (x k n) (y k n)) x := ⟨fun h => h⟩
instance (priority := low) {E : Option α} {a : α} {f : Nat → Nat → α → Option R} [h : PrimEq E a] : Step (fun k n => E.bind (f k n)) (fun k n => f k n a) := ⟨fun h2 => Ev.prim h.eq h2⟩
instance {E : Nat → Nat → Option (Value × AH)} {H : AH} {f : Nat → Nat → Value → AH → Option R} : Step (fun k n => Go.AM.b2 (gOp (.bool true) true (E k n) H) (f k n)) (fun k n => Go.AM.b2 (E k n) (f k n)) := ⟨fun h => Ev.gDo h⟩
instance {E : Nat → Nat → Option (Value × AH)} {H : AH} {f : Nat → Nat → Value → AH → Option R} : Step (fun k n => Go.AM.b2 (gOp (.bool false) false (E k n) H) (f k n)) (fun k n => Go.AM.b2 (E k n) (f k n)) := ⟨fun h => Ev.gDo h⟩
instance {E : Nat → Nat → Option (Value × AH)} {H : AH} {f : Nat → Nat → Value → AH → Option R} : Step (fun k n => Go.AM.b2 (gOp (.bool true) false (E k n) H) (f k n)) (fun k n => f k n undef H) := ⟨fun h => Ev.gSkipF h⟩
instance {E : Nat → Nat → Option (Value × AH)} {H : AH} {f : Nat → Nat → Value → AH → Option R} : Step (fun k n => Go.AM.b2 (gOp (.bool false) true (E k n) H) (f k n)) (fun k n => f k n undef H) := ⟨fun h => Ev.gSkipT h⟩
instance {w : Bool} {E : Nat → Nat → Option (Value × AH)} {H : AH} {f : Nat → Nat → Value → AH → Option R} : Step (fun k n => Go.AM.b2 (gOp undef w (E k n) H) (f k n)) (fun k n => f k n undef H) := ⟨fun h => Ev.gUndef h⟩
instance {E : Nat → Nat → Option (Value × AH)} {H : AH} {f : Nat → Nat → Value → AH → Option R} : Step (fun k n => Go.AM.b2 (gOp (.bool (!true)) true (E k n) H) (f k n)) (fun k n => f k n undef H) := ⟨fun h => Ev.gSkipT h⟩
instance {E : Nat → Nat → Option (Value × AH)} {H : AH} {f : Nat → Nat → Value → AH → Option R} : Step (fun k n => Go.AM.b2 (gOp (.bool (!false)) true (E k n) H) (f k n)) (fun k n => Go.AM.b2 (E k n) (f k n)) := ⟨fun h => Ev.gDo h⟩
instance {E : Nat → Nat → Option (Value × AH)} {H : AH} {f : Nat → Nat → Value → AH → Option R} : Step (fun k n => Go.AM.b2 (gOp (.bool (!true)) false (E k n) H) (f k n)) (fun k n => Go.AM.b2 (E k n) (f k n)) := ⟨fun h => Ev.gDo h⟩
instance {E : Nat → Nat → Option (Value × AH)} {H : AH} {f : Nat → Nat → Value → AH → Option R} : Step (fun k n => Go.AM.b2 (gOp (.bool (!false)) false (E k n) H) (f k n)) (fun k n => f k n undef H) := ⟨fun h => Ev.gSkipF h⟩
instance {E : Option Value} {a : Value} {H : AH} {f : Nat → Nat → Value → AH → Option R} [h : PrimEq E a] : Step (fun k n => Go.AM.b2 (E.bind fun v => some (v, H)) (f k n)) (fun k n => f k n a H) := ⟨fun h2 => Ev.gPrim h.eq rfl h2⟩
instance {g : Nat → Nat → Option (Value × AH)} {f : Nat → Nat → Value → AH → Option R} : Step (fun k n => Go.AM.b2 (Go.AM.b2 (g k n) fun v H => some (v, H)) (f k n)) (fun k n => Go.AM.b2 (g k n) (f k n)) := ⟨fun h => Ev.gCall h⟩
instance {g : Nat → Nat → Option α} {f : Nat → Nat → α → Option β} {f2 : Nat → Nat → β → Option R} : Step (fun k n => ((g k n).bind (f k n)).bind (f2 k n)) (fun k n => (g k n).bind fun x => (f k n x).bind (f2 k n)) := ⟨fun h => Ev.assoc h⟩
instance {x : Nat → Nat → Option R} {E : Option α} {a : α} [h : PrimEq E a] : Step (fun k n => aChk (E = some a) (x k n)) x := ⟨fun h2 => Ev.chk h.eq h2⟩
instance {x : Nat → Nat → Option R} {q : Prop} {E : Option α} {a : α} [h : PrimEq E a] : Step (fun k n => aChk (q → E = some a) (x k n)) x := ⟨fun h2 => Ev.chk (fun _ => h.eq) h2⟩
instance (priority := high) {x : Nat → Nat → Option R} {p : Prop} : Step (fun k n => aChk (Value.bool false = .bool true → p) (x k n)) x := ⟨fun h2 => Ev.chk (fun h => by cases h) h2⟩
/-- With a condition. -/
theorem Ev.sc {E : Option α} {p : Prop} {a : α} {f : Nat → Nat → α → Option R} {Q : R → Prop} [h : PrimC E p a] (hp : p) (k : Ev (fun k n => f k n a) Q) : Ev (fun k n => E.bind (f k n)) Q := Ev.prim (h.eq hp) k
theorem Ev.scg {E : Option Value} {p : Prop} {a : Value} {H : AH} {f : Nat → Nat → Value → AH → Option R} {Q : R → Prop} [h : PrimC E p a] (hp : p) (k : Ev (fun k n => f k n a H) Q) : Ev (fun k n => Go.AM.b2 (E.bind fun v => some (v, H)) (f k n)) Q := Ev.gPrim (h.eq hp) rfl k
section
variable {t s d : TypeId} {a b n : Nat} {x y : Int} {k k' : IntKind}
instance (priority := 900) : PrimC (bin P .add t (i64 a) (.int .i64 (no_index (@OfNat.ofNat Int n instOfNat)))) (a + @OfNat.ofNat Nat n (instOfNatNat n) < 9223372036854775808) (i64 (a + @OfNat.ofNat Nat n (instOfNatNat n))) := ⟨addL⟩
instance (priority := 900) : PrimC (bin P .sub t (i64 a) (.int .i64 (no_index (@OfNat.ofNat Int n instOfNat)))) (@OfNat.ofNat Nat n (instOfNatNat n) ≤ a ∧ a < 9223372036854775808) (i64 (a - @OfNat.ofNat Nat n (instOfNatNat n))) := ⟨subL⟩
instance (priority := 900) : PrimC (bin P .mul t (i64 a) (.int .i64 (no_index (@OfNat.ofNat Int n instOfNat)))) (a * @OfNat.ofNat Nat n (instOfNatNat n) < 9223372036854775808) (i64 (a * @OfNat.ofNat Nat n (instOfNatNat n))) := ⟨mulL⟩
instance (priority := 900) : PrimC (bin P .mul t (.int .i64 (no_index (@OfNat.ofNat Int n instOfNat))) (i64 a)) (@OfNat.ofNat Nat n (instOfNatNat n) * a < 9223372036854775808) (i64 (@OfNat.ofNat Nat n (instOfNatNat n) * a)) := ⟨lmul⟩
instance (priority := 900) : PrimC (bin P .quo t (i64 a) (.int .i64 (no_index (@OfNat.ofNat Int n instOfNat)))) (@OfNat.ofNat Nat n (instOfNatNat n) ≠ 0 ∧ a < 9223372036854775808) (i64 (a / @OfNat.ofNat Nat n (instOfNatNat n))) := ⟨quoL⟩
instance (priority := 900) : PrimC (bin P .rem t (.int k (a : Int)) (.int k (no_index (@OfNat.ofNat Int n instOfNat)))) (@OfNat.ofNat Nat n (instOfNatNat n) ≠ 0) (.int k ((a % @OfNat.ofNat Nat n (instOfNatNat n) : Nat) : Int)) := ⟨remL⟩
instance : PrimC (bin P .add t (i64 a) (i64 b)) (a + b < 9223372036854775808) (i64 (a + b)) := ⟨addN⟩
instance : PrimC (bin P .sub t (i64 a) (i64 b)) (b ≤ a ∧ a < 9223372036854775808) (i64 (a - b)) := ⟨subN⟩
instance : PrimC (bin P .mul t (i64 a) (i64 b)) (a * b < 9223372036854775808) (i64 (a * b)) := ⟨mulN⟩
instance : PrimC (bin P .quo t (i64 a) (i64 b)) (b ≠ 0 ∧ a < 9223372036854775808) (i64 (a / b)) := ⟨quoN⟩
instance : PrimC (bin P .rem t (.int k (a : Int)) (.int k (b : Int))) (b ≠ 0) (.int k ((a % b : Nat) : Int)) := ⟨remN⟩
instance : PrimC (bin P .add t (u64 a) (u64 b)) (a + b < 18446744073709551616) (u64 (a + b)) := ⟨addQ⟩
instance : PrimC (bin P .sub t (u64 a) (u64 b)) (b ≤ a ∧ a < 18446744073709551616) (u64 (a - b)) := ⟨subQ⟩
instance : PrimC (bin P .mul t (u64 a) (u64 b)) (a * b < 18446744073709551616) (u64 (a * b)) := ⟨mulQ⟩
instance (priority := 100) : PrimC (bin P .add t (.int .i64 x) (.int .i64 y)) (-9223372036854775808 ≤ x + y ∧ x + y < 9223372036854775808) (.int .i64 (x + y)) := ⟨bin_add64⟩
instance (priority := 100) : PrimC (bin P .sub t (.int .i64 x) (.int .i64 y)) (-9223372036854775808 ≤ x - y ∧ x - y < 9223372036854775808) (.int .i64 (x - y)) := ⟨bin_sub64⟩
instance (priority := 100) : PrimC (bin P .mul t (.int .i64 x) (.int .i64 y)) (-9223372036854775808 ≤ x * y ∧ x * y < 9223372036854775808) (.int .i64 (x * y)) := ⟨bin_mul64⟩
end
theorem Ev.doneC {H0 B0 B : AH} {L : List (Nat × Blk)} {H : AH} {Post : AH → Value → Prop} {v : Value} [hS : St H0 B0 B L H] (hp : Post B v) : Ev (fun _ _ => some (v, H)) (An B0 H0 Post) := Ev.done hS hp
end Go.AM
set_option linter.unusedVariables false
set_option linter.unusedSimpArgs false
namespace Go.AM
variable {α β R : Type} {P : Program}
class PlusL (a b : Nat) (r : outParam Nat) : Prop where
  eq : a + b = r
instance (priority := low) {a b : Nat} : PlusL a b (a + b) := ⟨rfl⟩
instance {b : Nat} : PlusL 0 b b := ⟨Nat.zero_add b⟩
instance {a : Nat} : PlusL a 0 a := ⟨rfl⟩
instance : PlusL 1 1 2 := ⟨rfl⟩
instance : PlusL 1 2 3 := ⟨rfl⟩
instance : PlusL 1 3 4 := ⟨rfl⟩
instance : PlusL 1 4 5 := ⟨rfl⟩
instance : PlusL 1 5 6 := ⟨rfl⟩
instance : PlusL 1 6 7 := ⟨rfl⟩
instance : PlusL 1 7 8 := ⟨rfl⟩
instance : PlusL 1 8 9 := ⟨rfl⟩
instance : PlusL 2 1 3 := ⟨rfl⟩
instance : PlusL 2 2 4 := ⟨rfl⟩
instance : PlusL 2 3 5 := ⟨rfl⟩
instance : PlusL 2 4 6 := ⟨rfl⟩
instance : PlusL 2 5 7 := ⟨rfl⟩
instance : PlusL 2 6 8 := ⟨rfl⟩
instance : PlusL 2 7 9 := ⟨rfl⟩
instance : PlusL 2 8 10 := ⟨rfl⟩
instance : PlusL 3 1 4 := ⟨rfl⟩
instance : PlusL 3 2 5 := ⟨rfl⟩
instance : PlusL 3 3 6 := ⟨rfl⟩
instance : PlusL 3 4 7 := ⟨rfl⟩
instance : PlusL 3 5 8 := ⟨rfl⟩
instance : PlusL 3 6 9 := ⟨rfl⟩
instance : PlusL 3 7 10 := ⟨rfl⟩
instance : PlusL 3 8 11 := ⟨rfl⟩
instance : PlusL 4 1 5 := ⟨rfl⟩
instance : PlusL 4 2 6 := ⟨rfl⟩
instance : PlusL 4 3 7 := ⟨rfl⟩
instance : PlusL 4 4 8 := ⟨rfl⟩
instance : PlusL 4 5 9 := ⟨rfl⟩
instance : PlusL 4 6 10 := ⟨rfl⟩
instance : PlusL 4 7 11 := ⟨rfl⟩
instance : PlusL 4 8 12 := ⟨rfl⟩
instance : PlusL 5 1 6 := ⟨rfl⟩
instance : PlusL 5 2 7 := ⟨rfl⟩
instance : PlusL 5 3 8 := ⟨rfl⟩
instance : PlusL 5 4 9 := ⟨rfl⟩
instance : PlusL 5 5 10 := ⟨rfl⟩
instance : PlusL 5 6 11 := ⟨rfl⟩
instance : PlusL 5 7 12 := ⟨rfl⟩
instance : PlusL 5 8 13 := ⟨rfl⟩
instance : PlusL 6 1 7 := ⟨rfl⟩
instance : PlusL 6 2 8 := ⟨rfl⟩
instance : PlusL 6 3 9 := ⟨rfl⟩
instance : PlusL 6 4 10 := ⟨rfl⟩
instance : PlusL 6 5 11 := ⟨rfl⟩
instance : PlusL 6 6 12 := ⟨rfl⟩
instance : PlusL 6 7 13 := ⟨rfl⟩
instance : PlusL 6 8 14 := ⟨rfl⟩
instance : PlusL 7 1 8 := ⟨rfl⟩
instance : PlusL 7 2 9 := ⟨rfl⟩
instance : PlusL 7 3 10 := ⟨rfl⟩
instance : PlusL 7 4 11 := ⟨rfl⟩
instance : PlusL 7 5 12 := ⟨rfl⟩
instance : PlusL 7 6 13 := ⟨rfl⟩
instance : PlusL 7 7 14 := ⟨rfl⟩
instance : PlusL 7 8 15 := ⟨rfl⟩
instance : PlusL 8 1 9 := ⟨rfl⟩
instance : PlusL 8 2 10 := ⟨rfl⟩
instance : PlusL 8 3 11 := ⟨rfl⟩
instance : PlusL 8 4 12 := ⟨rfl⟩
instance : PlusL 8 5 13 := ⟨rfl⟩
instance : PlusL 8 6 14 := ⟨rfl⟩
instance : PlusL 8 7 15 := ⟨rfl⟩
instance : PlusL 8 8 16 := ⟨rfl⟩
class FieldOf (P : Program) (s : TypeId) (i : Nat) (off : outParam Nat) (ft : outParam TypeId) : Prop where
  ex : ∃ fs f, P.underlying s = some (.struct fs) ∧ fs[i]? = some f ∧ f.offset = off ∧ f.type = ft
  nz : szT P ft ≠ 0
class StructOf (P : Program) (s : TypeId) (l : outParam (List Value)) : Prop where
  zero : zeroT P s = some (.agg (List.toArray l))
  ex : ∃ fs, P.underlying s = some (.struct fs) ∧ fs.toList.all (fun f => (P.info? f.type).isSome) = true
instance {s : TypeId} {l : List Value} [h : StructOf P s l] : ZeroOf P s (.agg (List.toArray l)) := ⟨h.zero⟩
instance {s ft : TypeId} {i off b o r : Nat} [h : FieldOf P s i off ft] [p : PlusL o off r] : PrimEq (fldA P s (ptr b o) i) (ptr b r) := ⟨by
  obtain ⟨fs, f, h1, h2, h3, h4⟩ := h.ex
  unfold fldA ptr; rw [h1]; simp only [h2, Option.bind_some]; rw [if_neg (by rw [h4]; exact h.nz), h3, p.eq]⟩
instance {s ft : TypeId} {i off : Nat} {l : List Value} {v : Value} [h : FieldOf P s i off ft] [a : AggOf P ft false] [n : Nth l off v] : PrimEq (fld P s (.agg (List.toArray l)) i) v := ⟨by
  obtain ⟨fs, f, h1, h2, h3, h4⟩ := h.ex
  unfold fld; rw [h1]; simp only [h2, Option.bind_some]; unfold prt; rw [h4, a.eq, h3]; exact n.eq⟩
instance {s ft : TypeId} {i off n : Nat} {l r : List Value} [h : FieldOf P s i off ft] [a : AggOf P ft true] [z : SzOf P ft n] [c : Cut l off n r] : PrimEq (fld P s (.agg (List.toArray l)) i) (.agg (List.toArray r)) := ⟨by
  obtain ⟨fs, f, h1, h2, h3, h4⟩ := h.ex
  unfold fld; rw [h1]; simp only [h2, Option.bind_some]; unfold prt; rw [h4, a.eq, h3, z.eq]; simp only; rw [c.eq]⟩
class FillP (P : Program) (s : TypeId) (cs : List Value) (parts : List (Nat × Value)) (r : outParam (List Value)) : Prop where
  eq : ∀ fs, P.underlying s = some (.struct fs) → fillB (fun i => (fs[i]?).map fun f => (f.offset, szT P f.type)) cs parts = some r
instance {s : TypeId} {cs : List Value} : FillP P s cs [] cs := ⟨fun _ _ => rfl⟩
instance {s ft : TypeId} {i off n : Nat} {v : Value} {l cs cs' r : List Value} {ps : List (Nat × Value)} [h : FieldOf P s i off ft] [z : SzOf P ft n] [c : CellsOf v l] [k : CutN l n l] [sp : Spl cs off l cs'] [f : FillP P s cs' ps r] :
    FillP P s cs ((i, v) :: ps) r := ⟨fun fs hf => by
  obtain ⟨fs', g, h1, h2, h3, h4⟩ := h.ex
  rw [hf] at h1; cases h1
  have e : l.length = n := by have h1 := k.le; have h2 := congrArg List.length k.eq; rw [List.length_take] at h2; omega
  have e2 : v.cells.size = n := by rw [← e, ← c.eq]; rfl
  unfold fillB
  simp only [h2, Option.map_some, h3, h4, z.eq]
  rw [if_pos ⟨e2, by rw [← e]; exact sp.le, c.ok⟩, c.eq, sp.eq]
  exact f.eq fs hf⟩
instance {s : TypeId} {l r : List Value} {parts : List (Nat × Value)} [h : StructOf P s l] [f : FillP P s l parts r] : PrimEq (build P s parts) (.agg (List.toArray r)) := ⟨by
  obtain ⟨fs, h1, h2⟩ := h.ex
  unfold build; rw [h.zero]; simp only [Option.bind_some, h1]
  rw [if_neg (by rw [h2]; simp)]
  have := f.eq fs h1
  simp only [Value.cells]
  rw [this]; rfl⟩
section
variable {s d : TypeId} {D : TypeDesc} {a : Nat} {x : Int} {k k' : IntKind}
instance [hs : Und P s D] [hd : Und P d (.int .u32)] : PrimEq (cv P s d (.int k (a : Int))) (u32 (a % 4294967296)) := ⟨toU32 hs.eq hd.eq⟩
instance [hs : Und P s D] [hd : Und P d (.int .u8)] : PrimEq (cv P s d (.int k (a : Int))) (u8 (a % 256)) := ⟨toU8 hs.eq hd.eq⟩
instance [hs : Und P s D] [hd : Und P d (.int .u64)] : PrimC (cv P s d (.int k (a : Int))) (a < 18446744073709551616) (u64 a) := ⟨fun h => toU64 h hs.eq hd.eq⟩
instance [hs : Und P s D] [hd : Und P d (.int .i64)] : PrimC (cv P s d (.int k (a : Int))) (a < 9223372036854775808) (i64 a) := ⟨fun h => toI64 h hs.eq hd.eq⟩
end
class LdB (P : Program) (e : TypeId) (p : Value) (B : outParam AH) (v : outParam Value) : Prop where
  eq : ∀ H', Mo B H' → ld P e H' p = some v
instance {e : TypeId} {p v : Value} {H0 B0 B H : AH} {L : List (Nat × Blk)} [h : LdB P e p B v] [hS : St H0 B0 B L H] : PrimEq (ld P e H p) v := ⟨h.eq H hS.le⟩
section
variable {t e : TypeId} {z : Value} {sz : Nat} {H0 B0 B H : AH} {L : List (Nat × Blk)} {v : Value} {xs : List Nat} {k : IntKind}
theorem Ev.ixC {f : Nat → Nat → Value → Option R} {Q : R → Prop} {i : Int} [hE : Elt P t e z sz] [h : RdN B v xs] (j : Nat) (hi : i = (j : Int)) (hj : j < xs.length) (hk : ∀ p, LdB P e p B (u32 (xs.getD j 0)) → Ev (fun k n => f k n p) Q) :
    Ev (fun k' n => (ixA P t v (.int k i)).bind (f k' n)) Q := by
  subst hi
  obtain ⟨p, h1, h2⟩ := h.ixN (k := k) (i := j) hE hj
  exact Ev.prim h1 (hk p ⟨h2⟩)
theorem Ev.ixCg {f : Nat → Nat → Value → AH → Option R} {Q : R → Prop} {i : Int} {H1 : AH} [hE : Elt P t e z sz] [h : RdN B v xs] (j : Nat) (hi : i = (j : Int)) (hj : j < xs.length) (hk : ∀ p, LdB P e p B (u32 (xs.getD j 0)) → Ev (fun k n => f k n p H1) Q) :
    Ev (fun k' n => Go.AM.b2 ((ixA P t v (.int k i)).bind fun v => some (v, H1)) (f k' n)) Q := by
  subst hi
  obtain ⟨p, h1, h2⟩ := h.ixN (k := k) (i := j) hE hj
  exact Ev.gPrim h1 rfl (hk p ⟨h2⟩)
theorem Ev.uptoC {f : Nat → Nat → Value → Option R} {Q : R → Prop} {i : Int} [hE : Elt P t e z sz] [h : RdN B v xs] (j : Nat) (hi : i = (j : Int)) (hj : j ≤ xs.length) (hk : ∀ w, RdN B w (xs.take j) → Ev (fun k n => f k n w) Q) :
    Ev (fun k' n => (slc P t v none (some (.int k i))).bind (f k' n)) Q := by
  subst hi
  obtain ⟨w, h1, h2⟩ := h.uptoN (k := k) (i := j) hE hj
  exact Ev.prim h1 (hk w h2)
class Rep (n : Nat) (z : Value) (l : outParam (List Value)) : Prop where
  eq : List.replicate n z = l
instance {z : Value} : Rep 0 z [] := ⟨rfl⟩
instance {z : Value} {n : Nat} {l : List Value} [h : Rep n z l] : Rep (n + 1) z (z :: l) := ⟨by rw [List.replicate_succ, h.eq]⟩
class FillL (cs : List Value) (parts : List (Nat × Value)) (r : outParam (List Value)) : Prop where
  eq : fillB (fun i => some (i * 1, 1)) cs parts = some r
instance {cs : List Value} : FillL cs [] cs := ⟨rfl⟩
instance {i : Nat} {v : Value} {cs cs' r : List Value} {ps : List (Nat × Value)} [c : IsCell v] [sp : Spl cs i [v] cs'] [f : FillL cs' ps r] : FillL cs ((i, v) :: ps) r := ⟨by
  have h1 := cells_one c.is
  have h2 := f.eq
  simp only [Nat.mul_one] at h2
  unfold fillB
  simp only [Nat.mul_one]
  rw [if_pos ⟨size_cells h1, by have := sp.le; simpa using this, okCells_of c.is⟩, h1, sp.eq]
  exact h2⟩
theorem Ev.bsC {m : Nat} {parts : List (Nat × Value)} {l cs : List Value} {f : Nat → Nat → Value → AH → Option R} {Q : R → Prop} [hE : Elt P t e z sz] [hS : St H0 B0 B L H] [hr : Rep m z l] [hf : FillL l parts cs] (hm : m ≤ 16777216)
    (h : ∀ b H', St H0 B0 B ((b, ⟨cs, e, .fix⟩) :: L) H' → Ev (fun k n => f k n (sl b 0 m m) H') Q) : Ev (fun k n => Go.AM.b2 (Go.AM.buildS P t H m parts) (f k n)) Q := by
  refine Ev.prim2 ?_ (h H.length _ (hS.mkB' cs e .fix))
  unfold Go.AM.buildS
  rw [hE.U]; simp only [hE.Z, hE.S, hE.zn, Option.bind_some, rep_one]
  rw [if_pos ⟨by omega, size_cells hE.zn⟩, hr.eq, hf.eq]; rfl
end
end Go.AM
set_option linter.unusedVariables false
set_option linter.unusedSimpArgs false
namespace Go.AM
variable {α β R : Type} {P : Program}
/-- A call that changes what is the caller's. -/
def AnS (H0 B0 B : AH) (L : List (Nat × Blk)) (Post : AH → Value → Prop) (r : Value × AH) : Prop := ∃ B', Mo B B' ∧ St H0 B0 B' L r.2 ∧ Post B' r.1
theorem Ev.callS {H0 B0 B : AH} {L : List (Nat × Blk)} {g : Nat → Nat → Option (Value × AH)} {Post : AH → Value → Prop} {f : Nat → Nat → Value → AH → Option R} {Q : R → Prop}
    (hc : Ev g (AnS H0 B0 B L Post)) (h : ∀ v B' H', Mo B B' → St H0 B0 B' L H' → Post B' v → Ev (fun k n => f k n v H') Q) : Ev (fun k n => Go.AM.b2 (g k n) (f k n)) Q :=
  Ev.b2 hc fun v H' ha => by
    obtain ⟨B', hm, hS', hp⟩ := ha
    exact h v B' H' hm hS' hp
theorem Ev.doneS {H0 B0 B B1 : AH} {L : List (Nat × Blk)} {H : AH} {Post : AH → Value → Prop} {v : Value} [hS : St H0 B0 B L H] (hm : Mo B1 B) (hp : Post B v) : Ev (fun _ _ => some (v, H)) (AnS H0 B0 B1 L Post) := Ev.ret ⟨B, hm, hS, hp⟩
theorem AnS.an {H0 B0 B : AH} {L : List (Nat × Blk)} {Post : AH → Value → Prop} {g : Nat → Nat → Option (Value × AH)} (h : Ev g (AnS H0 B0 B L Post)) : Ev g (An B0 H0 Post) :=
  h.mono fun r ⟨B', hm, hS, hp⟩ => hS.an hp
class InfoOf (P : Program) (t : TypeId) : Prop where
  is : (P.info? t).isSome = true
class TimesL (a b : Nat) (r : outParam Nat) : Prop where
  eq : a * b = r
instance (priority := low) {a b : Nat} : TimesL a b (a * b) := ⟨rfl⟩
instance {b : Nat} : TimesL 0 b 0 := ⟨Nat.zero_mul b⟩
instance {b : Nat} : TimesL 1 b b := ⟨Nat.one_mul b⟩
instance {b : Nat} : TimesL b 1 b := ⟨Nat.mul_one b⟩
instance : TimesL 2 2 4 := ⟨rfl⟩
instance : TimesL 2 3 6 := ⟨rfl⟩
instance : TimesL 2 4 8 := ⟨rfl⟩
instance : TimesL 2 5 10 := ⟨rfl⟩
instance : TimesL 2 6 12 := ⟨rfl⟩
instance : TimesL 2 7 14 := ⟨rfl⟩
instance : TimesL 2 8 16 := ⟨rfl⟩
instance : TimesL 3 2 6 := ⟨rfl⟩
instance : TimesL 3 3 9 := ⟨rfl⟩
instance : TimesL 3 4 12 := ⟨rfl⟩
instance : TimesL 3 5 15 := ⟨rfl⟩
instance : TimesL 3 6 18 := ⟨rfl⟩
instance : TimesL 3 7 21 := ⟨rfl⟩
instance : TimesL 3 8 24 := ⟨rfl⟩
instance : TimesL 4 2 8 := ⟨rfl⟩
instance : TimesL 4 3 12 := ⟨rfl⟩
instance : TimesL 4 4 16 := ⟨rfl⟩
instance : TimesL 4 5 20 := ⟨rfl⟩
instance : TimesL 4 6 24 := ⟨rfl⟩
instance : TimesL 4 7 28 := ⟨rfl⟩
instance : TimesL 4 8 32 := ⟨rfl⟩
instance : TimesL 5 2 10 := ⟨rfl⟩
instance : TimesL 5 3 15 := ⟨rfl⟩
instance : TimesL 5 4 20 := ⟨rfl⟩
instance : TimesL 5 5 25 := ⟨rfl⟩
instance : TimesL 5 6 30 := ⟨rfl⟩
instance : TimesL 5 7 35 := ⟨rfl⟩
instance : TimesL 5 8 40 := ⟨rfl⟩
instance : TimesL 6 2 12 := ⟨rfl⟩
instance : TimesL 6 3 18 := ⟨rfl⟩
instance : TimesL 6 4 24 := ⟨rfl⟩
instance : TimesL 6 5 30 := ⟨rfl⟩
instance : TimesL 6 6 36 := ⟨rfl⟩
instance : TimesL 6 7 42 := ⟨rfl⟩
instance : TimesL 6 8 48 := ⟨rfl⟩
instance : TimesL 7 2 14 := ⟨rfl⟩
instance : TimesL 7 3 21 := ⟨rfl⟩
instance : TimesL 7 4 28 := ⟨rfl⟩
instance : TimesL 7 5 35 := ⟨rfl⟩
instance : TimesL 7 6 42 := ⟨rfl⟩
instance : TimesL 7 7 49 := ⟨rfl⟩
instance : TimesL 7 8 56 := ⟨rfl⟩
class AppL (a b : List Value) (r : outParam (List Value)) : Prop where
  eq : a ++ b = r
instance {b : List Value} : AppL [] b b := ⟨rfl⟩
instance {x : Value} {a b r : List Value} [h : AppL a b r] : AppL (x :: a) b (x :: r) := ⟨by rw [List.cons_append, h.eq]⟩
class RepA (n : Nat) (z : List Value) (l : outParam (List Value)) : Prop where
  eq : rep z n = l
instance {z : List Value} : RepA 0 z [] := ⟨rfl⟩
instance {z : List Value} {n : Nat} {l r : List Value} [h : RepA n z l] [k : AppL z l r] : RepA (n + 1) z r := ⟨by rw [rep, h.eq, k.eq]⟩
class FillE (sz : Nat) (cs : List Value) (parts : List (Nat × Value)) (r : outParam (List Value)) : Prop where
  eq : fillB (fun i => some (i * sz, sz)) cs parts = some r
instance {sz : Nat} {cs : List Value} : FillE sz cs [] cs := ⟨rfl⟩
instance {sz i o : Nat} {v : Value} {l cs cs' r : List Value} {ps : List (Nat × Value)} [t : TimesL i sz o] [c : CellsOf v l] [k : CutN l sz l] [sp : Spl cs o l cs'] [f : FillE sz cs' ps r] : FillE sz cs ((i, v) :: ps) r := ⟨by
  have e : l.length = sz := by have h1 := k.le; have h2 := congrArg List.length k.eq; rw [List.length_take] at h2; omega
  have e2 : v.cells.size = sz := by rw [← e, ← c.eq]; rfl
  have hf := f.eq
  have hl := sp.le
  have hs := sp.eq
  unfold fillB
  simp only [t.eq]
  rw [if_pos ⟨e2, by rw [← e]; exact hl, c.ok⟩, c.eq, hs]
  exact hf⟩
instance {t e : TypeId} {sz b len cap i ofs : Nat} {k : IntKind} [hU : Und P t (.slice e)] [hs : SzOf P e sz] [hi : InfoOf P e] [ht : TimesL i sz ofs] : PrimC (ixA P t (sl b 0 len cap) (.int k (i : Int))) (i < len) (ptr b ofs) := ⟨fun h => by
  unfold ixA sl; rw [hU.eq]; simp only; rw [if_pos ⟨hi.is, by omega, by omega⟩, hs.eq, Int.toNat_natCast, ht.eq, Nat.zero_add]⟩
instance (priority := 900) {t e : TypeId} {sz b len cap n ofs : Nat} {k : IntKind} [hU : Und P t (.slice e)] [hs : SzOf P e sz] [hi : InfoOf P e] [ht : TimesL n sz ofs] : PrimC (ixA P t (sl b 0 len cap) (.int k (no_index (@OfNat.ofNat Int n instOfNat)))) (n < len) (ptr b ofs) := ⟨fun h => by
  have e : (@OfNat.ofNat Int n instOfNat) = ((n : Nat) : Int) := rfl
  rw [e]
  unfold ixA sl; rw [hU.eq]; simp only; rw [if_pos ⟨hi.is, by omega, by omega⟩, hs.eq, Int.toNat_natCast, ht.eq, Nat.zero_add]⟩
theorem St.drop1 {H0 B0 B : AH} {x : Nat × Blk} {L : List (Nat × Blk)} {H : AH} (h : St H0 B0 B (x :: L) H) : St H0 B0 B L H := h.drop (List.sublist_cons_self x L)
theorem Upd.make {b : Nat} {K K' : Blk} {L : List (Nat × Blk)} (h : (b, K) ∈ L) : ∃ L', Upd b K K' L L' := by
  induction L with
  | nil => cases h
  | cons x L ih =>
    cases h with
    | head => exact ⟨_, .head _⟩
    | tail _ h => exact (ih h).elim fun L' h' => ⟨_, .tail x h'⟩
theorem Upd.fix {b : Nat} {K K' : Blk} {L L' L'' : List (Nat × Blk)} (h : Upd b K K' L L') (hn : (L.map Prod.fst).Nodup) (h' : Upd b K K' L L'') : L'' = L' := by
  induction h generalizing L'' with
  | head L =>
    cases h' with
    | head => rfl
    | tail _ h' => exact absurd (mem_fst h'.mem rfl) (List.nodup_cons.mp hn).1
  | tail x h ih =>
    cases h' with
    | head => exact absurd (mem_fst h.mem rfl) (List.nodup_cons.mp hn).1
    | tail _ h' => rw [ih (List.nodup_cons.mp hn).2 h']
theorem Upd.other {b c : Nat} {K K' K2 : Blk} {L L' : List (Nat × Blk)} (h : Upd b K K' L L') (hc : (c, K2) ∈ L) (hn : c ≠ b) : (c, K2) ∈ L' := by
  induction h with
  | head L =>
    cases hc with
    | head => exact absurd rfl hn
    | tail _ hc => exact .tail _ hc
  | tail x h ih =>
    cases hc with
    | head => exact .head _
    | tail _ hc => exact .tail _ (ih hc)
theorem Mo.le {B H : AH} (h : Mo B H) : Le B H := ⟨h⟩
end Go.AM
set_option linter.unusedVariables false
namespace Go.AM
variable {α β R : Type} {P : Program}
class MoC (B : outParam AH) (B' : AH) : Prop where
  mo : Mo B B'
class MoT (B B' : AH) : Prop where
  mo : Mo B B'
instance {B : AH} : MoT B B := ⟨Mo.refl B⟩
instance (priority := low) {A B C : AH} [h : MoC B C] [k : MoT A B] : MoT A C := ⟨k.mo.trans h.mo⟩
/-- Digits that stand, from some time on. -/
class RdT (B : AH) (v : Value) (xs : outParam (List Nat)) : Prop where
  rd : RdN B v xs
instance {B0 B : AH} {v : Value} {xs : List Nat} [h : RdN B0 v xs] [t : MoT B0 B] : RdT B v xs := ⟨h.mono t.mo⟩
instance {B : AH} : RdT B (.slice none 0 0) [] := ⟨RdN.nil⟩
theorem Ev.callD {H0 B0 B : AH} {L : List (Nat × Blk)} {H : AH} {g : Nat → Nat → Option (Value × AH)} {Post : AH → Value → Prop} {f : Nat → Nat → Value → AH → Option R} {Q : R → Prop} [hS : St H0 B0 B L H]
    (hc : Le B H → Ev g (An B H Post)) (h : ∀ v B' H', MoC B B' → St H0 B0 B' L H' → Post B' v → Ev (fun k n => f k n v H') Q) : Ev (fun k n => Go.AM.b2 (g k n) (f k n)) Q :=
  Ev.call hS hc fun v B' H' hm hS' hp => h v B' H' ⟨hm⟩ hS' hp
end Go.AM
set_option maxRecDepth 100000
namespace Go.AM.Z
open Go Go.AM Go.Proofs
instance : Und Tryd.prog 3 (.int .i64) := ⟨Tryd.underlying3⟩
instance : InfoOf Tryd.prog 3 := ⟨by kernel_rfl⟩
instance : AggOf Tryd.prog 3 false := ⟨by kernel_rfl⟩
instance : SzOf Tryd.prog 3 1 := ⟨by kernel_rfl⟩
instance : ZeroOf Tryd.prog 3 (.int .i64 0) := ⟨by kernel_rfl⟩
instance : Und Tryd.prog 4 (.bool) := ⟨Tryd.underlying4⟩
instance : InfoOf Tryd.prog 4 := ⟨by kernel_rfl⟩
instance : AggOf Tryd.prog 4 false := ⟨by kernel_rfl⟩
instance : SzOf Tryd.prog 4 1 := ⟨by kernel_rfl⟩
instance : ZeroOf Tryd.prog 4 (.bool false) := ⟨by kernel_rfl⟩
instance {a b : Bool} : PrimEq (bin Tryd.prog .eql 4 (.bool a) (.bool b)) (.bool (a == b)) := ⟨by cases a <;> cases b <;> kernel_rfl⟩
instance {a b : Bool} : PrimEq (bin Tryd.prog .neq 4 (.bool a) (.bool b)) (.bool (a != b)) := ⟨by cases a <;> cases b <;> kernel_rfl⟩
instance : Und Tryd.prog 5 (.int .u8) := ⟨Tryd.underlying5⟩
instance : InfoOf Tryd.prog 5 := ⟨by kernel_rfl⟩
instance : AggOf Tryd.prog 5 false := ⟨by kernel_rfl⟩
instance : SzOf Tryd.prog 5 1 := ⟨by kernel_rfl⟩
instance : ZeroOf Tryd.prog 5 (.int .u8 0) := ⟨by kernel_rfl⟩
instance : Und Tryd.prog 9 (.string) := ⟨Tryd.underlying9⟩
instance : InfoOf Tryd.prog 9 := ⟨by kernel_rfl⟩
instance : AggOf Tryd.prog 9 false := ⟨by kernel_rfl⟩
instance : SzOf Tryd.prog 9 1 := ⟨by kernel_rfl⟩
instance : ZeroOf Tryd.prog 9 (.string ByteArray.empty) := ⟨by kernel_rfl⟩
instance : Und Tryd.prog 21 (.int .i32) := ⟨Tryd.underlying21⟩
instance : InfoOf Tryd.prog 21 := ⟨by kernel_rfl⟩
instance : AggOf Tryd.prog 21 false := ⟨by kernel_rfl⟩
instance : SzOf Tryd.prog 21 1 := ⟨by kernel_rfl⟩
instance : ZeroOf Tryd.prog 21 (.int .i32 0) := ⟨by kernel_rfl⟩
instance : Und Tryd.prog 22 (.slice 70) := ⟨Tryd.underlying22⟩
instance : InfoOf Tryd.prog 22 := ⟨by kernel_rfl⟩
instance : AggOf Tryd.prog 22 false := ⟨by kernel_rfl⟩
instance : SzOf Tryd.prog 22 1 := ⟨by kernel_rfl⟩
instance : ZeroOf Tryd.prog 22 (.slice none 0 0) := ⟨by kernel_rfl⟩
instance : Elt Tryd.prog 22 70 (.int .u32 0) 4 := ⟨Tryd.underlying22, by kernel_rfl, by kernel_rfl, by kernel_rfl, by kernel_rfl, by kernel_rfl, rfl, rfl⟩
instance : InfoOf Tryd.prog 24 := ⟨by kernel_rfl⟩
instance : AggOf Tryd.prog 24 true := ⟨by kernel_rfl⟩
instance : SzOf Tryd.prog 24 2 := ⟨by kernel_rfl⟩
instance : StructOf Tryd.prog 24 [.bool false, .slice none 0 0] := ⟨by kernel_rfl, _, Tryd.underlying24, by kernel_rfl⟩
instance : FieldOf Tryd.prog 24 0 0 4 := ⟨⟨_, _, Tryd.underlying24, rfl, rfl, rfl⟩, by decide +kernel⟩
instance : FieldOf Tryd.prog 24 1 1 22 := ⟨⟨_, _, Tryd.underlying24, rfl, rfl, rfl⟩, by decide +kernel⟩
instance : Und Tryd.prog 44 (.int .i64) := ⟨Tryd.underlying44⟩
instance : InfoOf Tryd.prog 44 := ⟨by kernel_rfl⟩
instance : AggOf Tryd.prog 44 false := ⟨by kernel_rfl⟩
instance : SzOf Tryd.prog 44 1 := ⟨by kernel_rfl⟩
instance : ZeroOf Tryd.prog 44 (.int .i64 0) := ⟨by kernel_rfl⟩
instance : InfoOf Tryd.prog 57 := ⟨by kernel_rfl⟩
instance : AggOf Tryd.prog 57 true := ⟨by kernel_rfl⟩
instance : SzOf Tryd.prog 57 1 := ⟨by kernel_rfl⟩
instance : StructOf Tryd.prog 57 [.slice none 0 0] := ⟨by kernel_rfl, _, Tryd.underlying57, by kernel_rfl⟩
instance : FieldOf Tryd.prog 57 0 0 22 := ⟨⟨_, _, Tryd.underlying57, rfl, rfl, rfl⟩, by decide +kernel⟩
instance : InfoOf Tryd.prog 59 := ⟨by kernel_rfl⟩
instance : AggOf Tryd.prog 59 true := ⟨by kernel_rfl⟩
instance : SzOf Tryd.prog 59 2 := ⟨by kernel_rfl⟩
instance : StructOf Tryd.prog 59 [.slice none 0 0, .bool false] := ⟨by kernel_rfl, _, Tryd.underlying59, by kernel_rfl⟩
instance : FieldOf Tryd.prog 59 0 0 57 := ⟨⟨_, _, Tryd.underlying59, rfl, rfl, rfl⟩, by decide +kernel⟩
instance : FieldOf Tryd.prog 59 1 1 4 := ⟨⟨_, _, Tryd.underlying59, rfl, rfl, rfl⟩, by decide +kernel⟩
instance : Und Tryd.prog 62 (.int .u64) := ⟨Tryd.underlying62⟩
instance : InfoOf Tryd.prog 62 := ⟨by kernel_rfl⟩
instance : AggOf Tryd.prog 62 false := ⟨by kernel_rfl⟩
instance : SzOf Tryd.prog 62 1 := ⟨by kernel_rfl⟩
instance : ZeroOf Tryd.prog 62 (.int .u64 0) := ⟨by kernel_rfl⟩
instance : Und Tryd.prog 70 (.int .u32) := ⟨Tryd.underlying70⟩
instance : InfoOf Tryd.prog 70 := ⟨by kernel_rfl⟩
instance : AggOf Tryd.prog 70 false := ⟨by kernel_rfl⟩
instance : SzOf Tryd.prog 70 1 := ⟨by kernel_rfl⟩
instance : ZeroOf Tryd.prog 70 (.int .u32 0) := ⟨by kernel_rfl⟩
instance : Und Tryd.prog 76 (.slice 5) := ⟨Tryd.underlying76⟩
instance : InfoOf Tryd.prog 76 := ⟨by kernel_rfl⟩
instance : AggOf Tryd.prog 76 false := ⟨by kernel_rfl⟩
instance : SzOf Tryd.prog 76 1 := ⟨by kernel_rfl⟩
instance : ZeroOf Tryd.prog 76 (.slice none 0 0) := ⟨by kernel_rfl⟩
instance : Elt Tryd.prog 76 5 (.int .u8 0) 1 := ⟨Tryd.underlying76, by kernel_rfl, by kernel_rfl, by kernel_rfl, by kernel_rfl, by kernel_rfl, rfl, rfl⟩
instance : Und Tryd.prog 78 (.slice 9) := ⟨Tryd.underlying78⟩
instance : InfoOf Tryd.prog 78 := ⟨by kernel_rfl⟩
instance : AggOf Tryd.prog 78 false := ⟨by kernel_rfl⟩
instance : SzOf Tryd.prog 78 1 := ⟨by kernel_rfl⟩
instance : ZeroOf Tryd.prog 78 (.slice none 0 0) := ⟨by kernel_rfl⟩
instance : Elt Tryd.prog 78 9 (.string ByteArray.empty) 16 := ⟨Tryd.underlying78, by kernel_rfl, by kernel_rfl, by kernel_rfl, by kernel_rfl, by kernel_rfl, rfl, rfl⟩
instance : InfoOf Tryd.prog 93 := ⟨by kernel_rfl⟩
instance : AggOf Tryd.prog 93 true := ⟨by kernel_rfl⟩
instance : SzOf Tryd.prog 93 256 := ⟨by kernel_rfl⟩
instance : Und Tryd.prog 98 (.pointer 100) := ⟨Tryd.underlying98⟩
instance : InfoOf Tryd.prog 98 := ⟨by kernel_rfl⟩
instance : AggOf Tryd.prog 98 false := ⟨by kernel_rfl⟩
instance : SzOf Tryd.prog 98 1 := ⟨by kernel_rfl⟩
instance : ZeroOf Tryd.prog 98 (.pointer none) := ⟨by kernel_rfl⟩
instance : InfoOf Tryd.prog 100 := ⟨by kernel_rfl⟩
instance : AggOf Tryd.prog 100 true := ⟨by kernel_rfl⟩
instance : SzOf Tryd.prog 100 2 := ⟨by kernel_rfl⟩
instance : StructOf Tryd.prog 100 [.pointer none, .slice none 0 0] := ⟨by kernel_rfl, _, Tryd.underlying100, by kernel_rfl⟩
instance : FieldOf Tryd.prog 100 0 0 98 := ⟨⟨_, _, Tryd.underlying100, rfl, rfl, rfl⟩, by decide +kernel⟩
instance : FieldOf Tryd.prog 100 1 1 76 := ⟨⟨_, _, Tryd.underlying100, rfl, rfl, rfl⟩, by decide +kernel⟩
instance : Und Tryd.prog 114 (.pointer 5) := ⟨Tryd.underlying114⟩
instance : InfoOf Tryd.prog 114 := ⟨by kernel_rfl⟩
instance : AggOf Tryd.prog 114 false := ⟨by kernel_rfl⟩
instance : SzOf Tryd.prog 114 1 := ⟨by kernel_rfl⟩
instance : ZeroOf Tryd.prog 114 (.pointer none) := ⟨by kernel_rfl⟩
instance : InfoOf Tryd.prog 119 := ⟨by kernel_rfl⟩
instance : AggOf Tryd.prog 119 true := ⟨by kernel_rfl⟩
instance : SzOf Tryd.prog 119 256 := ⟨by kernel_rfl⟩
instance : InfoOf Tryd.prog 121 := ⟨by kernel_rfl⟩
instance : AggOf Tryd.prog 121 true := ⟨by kernel_rfl⟩
instance : SzOf Tryd.prog 121 2 := ⟨by kernel_rfl⟩
instance : StructOf Tryd.prog 121 [.int .u8 0, .int .u8 0] := ⟨by kernel_rfl, _, Tryd.underlying121, by kernel_rfl⟩
instance : FieldOf Tryd.prog 121 0 0 5 := ⟨⟨_, _, Tryd.underlying121, rfl, rfl, rfl⟩, by decide +kernel⟩
instance : FieldOf Tryd.prog 121 1 1 5 := ⟨⟨_, _, Tryd.underlying121, rfl, rfl, rfl⟩, by decide +kernel⟩
instance : InfoOf Tryd.prog 122 := ⟨by kernel_rfl⟩
instance : AggOf Tryd.prog 122 true := ⟨by kernel_rfl⟩
instance : SzOf Tryd.prog 122 32 := ⟨by kernel_rfl⟩
end Go.AM.Z
set_option linter.unusedVariables false
namespace Go.AM
variable {α β R : Type} {P : Program}
section
variable {t e : TypeId} {z : Value} {sz : Nat}
def Acc (e : TypeId) (H0 B0 B : AH) (L : List (Nat × Blk)) (H : AH) (v : Value) (ds : List Nat) : Prop :=
  (ds = [] ∧ (v = .slice none 0 0 ∨ ∃ b off, v = sl b off 0 0) ∧ St H0 B0 B L H) ∨
  (ds ≠ [] ∧ ∃ b kd cap, v = sl b 0 ds.length cap ∧ (kd = .grow ∧ cap ≠ 0 ∧ ds.length ≤ cap ∨ kd = .fix ∧ cap = ds.length) ∧ St H0 B0 B ((b, ⟨ds.map u32, e, kd⟩) :: L) H)
theorem Acc.nil {H0 B0 B L H} (hS : St H0 B0 B L H) : Acc e H0 B0 B L H (.slice none 0 0) [] := .inl ⟨rfl, .inl rfl, hS⟩
theorem Acc.le {H0 B0 B L H v ds} (h : Acc e H0 B0 B L H v ds) : Le B H := by
  rcases h with ⟨_, _, hS⟩ | ⟨_, b, kd, cap, _, _, hS⟩
  · exact hS.lel
  · exact hS.lel
theorem Acc.st {H0 B0 B L H v ds} (h : Acc e H0 B0 B L H v ds) : St H0 B0 B L H := by
  rcases h with ⟨_, _, hS⟩ | ⟨_, b, kd, cap, _, _, hS⟩
  · exact hS
  · exact hS.drop1
theorem drop2 {x y : Nat × Blk} {L : List (Nat × Blk)} {H0 B0 B H} (h : St H0 B0 B (x :: y :: L) H) : St H0 B0 B (x :: L) H := h.drop (.cons_cons _ (List.sublist_cons_self _ _))
theorem drop3 {x y z : Nat × Blk} {L : List (Nat × Blk)} {H0 B0 B H} (h : St H0 B0 B (x :: y :: z :: L) H) : St H0 B0 B (x :: L) H := drop2 (drop2 h)
/-- One more digit. -/
theorem Acc.push {H0 B0 B : AH} {L : List (Nat × Blk)} {H : AH} {v : Value} {ds : List Nat} {d : Nat} {f : Nat → Nat → Value → AH → Option R} {Q : R → Prop} [hE : Elt P t e (.int .u32 0) sz] (h : Acc e H0 B0 B L H v ds)
    (hl : (ds.length + 1) * sz ≤ 140737488355328 ∧ ds.length + 1 ≤ 9223372036854775807) (hk : ∀ v' B' H', MoC B B' → Acc e H0 B0 B' L H' v' (ds ++ [d]) → Ev (fun k n => f k n v' H') Q) :
    Ev (fun k n => Go.AM.b2 (Go.AM.buildS P t H 1 [(0, u32 d)]) fun w h => Go.AM.b2 (Go.AM.ap P t t h v w) (f k n)) Q := by
  have e1 : ([d].map u32).length = 1 := rfl
  have hlen : (ds.map u32).length = ds.length := List.length_map ..
  rcases h with ⟨rfl, hv, hS⟩ | ⟨hne, b, kd, cap, rfl, hkc, hS⟩
  · refine Ev.bsC (P := P) (t := t) (by decide) fun bw H1 hS1 => ?_
    have hx : Sc H1 (sl bw 0 1 1) ([d].map u32) := hS1.sc (.head _) (Nat.le_refl 1)
    refine Ev.apNew hE hE.U hS1 (hv.imp id fun ⟨b, off, h⟩ => ⟨b, off, 0, h⟩) hx (all_u32 _) (by simp) ⟨by simpa using hl.1, by simp⟩ fun b' B' H' hm hS' => ?_
    exact hk _ B' H' ⟨hm⟩ (.inr ⟨by simp, b', .grow, 2, rfl, .inl ⟨rfl, by decide, by simp⟩, drop2 hS'⟩)
  · refine Ev.bsC (P := P) (t := t) (by decide) fun bw H1 hS1 => ?_
    have hx : Sc H1 (sl bw 0 1 1) ([d].map u32) := hS1.sc (.head _) (Nat.le_refl 1)
    rcases hkc with ⟨rfl, hc, hcl⟩ | ⟨rfl, rfl⟩
    · have hS2 : St H0 B0 B ((b, ⟨ds.map u32, e, .grow⟩) :: (bw, ⟨[u32 d], e, .fix⟩) :: L) H1 := hS1.perm (List.Perm.swap _ _ _)
      have hk2 := Ev.apGrow (b := b) (cap := cap) (cs := ds.map u32) (v := sl bw 0 1 1) (ds := [d].map u32) (f := f) (Q := Q) hE hE.U hS2 hc hx (all_u32 _) (by simp) (by rw [hlen, e1]; exact hl) (fun b' B' H' hm hS' => by
        have := hk (sl b' 0 (ds ++ [d]).length ((ds ++ [d]).length + 1)) B' H' ⟨hm⟩ (.inr ⟨by simp, b', .grow, _, rfl, .inl ⟨rfl, by omega, by omega⟩, by rw [List.map_append]; exact drop2 hS'⟩)
        have e2 : (ds.map u32 ++ [d].map u32).length = (ds ++ [d]).length := by simp
        rw [e2]; exact this)
      rw [hlen] at hk2
      exact hk2
    · have hk2 := Ev.apFull (b := b) (cs := ds.map u32) (v := sl bw 0 1 1) (ds := [d].map u32) (f := f) (Q := Q) hE hE.U hS1 (hS1.get (.tail _ (.head _))) (by simpa using hne) hx (all_u32 _) (by simp) (by rw [hlen, e1]; exact hl) (fun b' B' H' hm hS' => by
        have := hk (sl b' 0 (ds ++ [d]).length ((ds ++ [d]).length + 1)) B' H' ⟨hm⟩ (.inr ⟨by simp, b', .grow, _, rfl, .inl ⟨rfl, by omega, by omega⟩, by rw [List.map_append]; exact drop3 hS'⟩)
        have e2 : (ds.map u32 ++ [d].map u32).length = (ds ++ [d]).length := by simp
        rw [e2]; exact this)
      rw [hlen] at hk2
      exact hk2
/-- It is done. -/
theorem Acc.freeze {H0 B0 B : AH} {L : List (Nat × Blk)} {H : AH} {v : Value} {ds : List Nat} (h : Acc e H0 B0 B L H v ds) (hs : small ds) : ∃ B', MoC B B' ∧ RdN B' v ds ∧ St H0 B0 B' L H := by
  rcases h with ⟨rfl, hv, hS⟩ | ⟨hne, b, kd, cap, rfl, hkc, hS⟩
  · refine ⟨B, ⟨Mo.refl B⟩, ?_, hS⟩
    rcases hv with rfl | ⟨b, off, rfl⟩
    · exact RdN.nil
    · exact ⟨.inr ⟨b, off, 0, rfl, Nat.le_refl _, .inl rfl⟩, hs⟩
  · obtain ⟨B', h1, h2, h3⟩ := hS.freezeN hs rfl (cap := cap) (by rcases hkc with ⟨_, _, h⟩ | ⟨_, h⟩ <;> omega)
    exact ⟨B', ⟨h1⟩, h2, h3⟩
/-- A call beside it. -/
theorem Acc.mo {H0 B0 B : AH} {L : List (Nat × Blk)} {H : AH} {v : Value} {ds : List Nat} (h : Acc e H0 B0 B L H v ds) {r : Value × AH} {Post : AH → Value → Prop} (ha : An B H Post r) : ∃ B', Mo B B' ∧ Acc e H0 B0 B' L r.2 v ds ∧ Post B' r.1 := by
  rcases h with ⟨rfl, hv, hS⟩ | ⟨hne, b, kd, cap, rfl, hkc, hS⟩
  · obtain ⟨B', h1, h2, h3⟩ := hS.call ha
    exact ⟨B', h1, .inl ⟨rfl, hv, h2⟩, h3⟩
  · obtain ⟨B', h1, h2, h3⟩ := hS.call ha
    exact ⟨B', h1, .inr ⟨hne, b, kd, cap, rfl, hkc, h2⟩, h3⟩
end
theorem val_ext {xs ys : List Nat} (h : ∀ t, xs.getD t 0 = ys.getD t 0) : val xs = val ys := by
  induction xs generalizing ys with
  | nil =>
    induction ys with
    | nil => rfl
    | cons y ys ih =>
      have h0 := h 0
      have := ih (fun t => by have := h (t + 1); simpa using this)
      simp only [val]
      have h0 : 0 = y := by simpa using h0
      rw [← this, ← h0]; rfl
  | cons x xs ih =>
    cases ys with
    | nil =>
      have h0 : x = 0 := by simpa using h 0
      have := ih (ys := []) (fun t => by have := h (t + 1); simpa using this)
      simp only [val]
      rw [this, h0]; rfl
    | cons y ys =>
      have h0 : x = y := by simpa using h 0
      have := ih (ys := ys) (fun t => by have := h (t + 1); simpa using this)
      simp only [val]
      rw [this, h0]
theorem val_snoc (ds : List Nat) (d : Nat) : val (ds ++ [d]) = val ds + 4294967296 ^ ds.length * d := by rw [val_append]; simp [val]
theorem small_snoc {ds : List Nat} {d : Nat} (h : small ds) (hd : d < 4294967296) : small (ds ++ [d]) := h.append (fun x hx => by simp at hx; omega)
theorem small_nil : small [] := fun x hx => absurd hx List.not_mem_nil
end Go.AM
set_option linter.unusedVariables false
set_option linter.unusedSimpArgs false
set_option maxRecDepth 100000
namespace Go.AM.Z
open Go Go.AM Go.Proofs
attribute [local irreducible] run bin un ld st box newV mkS fldA fld ixA ix slc slc3 build buildS cv cvS ap cpy lenV gOp pickV b2 aIf aChk evalK resume iterD Option.bind

theorem take_limbs {xs : List Nat} (hs : small xs) {n : Nat} (hn : n ≤ xs.length) (hz : ∀ t, n ≤ t → xs.getD t 0 = 0) (ht : n = 0 ∨ xs.getD (n - 1) 0 ≠ 0) : xs.take n = limbs (val xs) := by
  have e : val xs = val (xs.take n) := by
    refine val_ext fun t => ?_
    by_cases h : t < n
    · rw [getD_take h]
    · rw [hz t (by omega), List.getD_eq_getElem?_getD, List.getElem?_eq_none (by rw [List.length_take]; omega)]; rfl
  rw [e]
  refine (limbs_val (hs.take n) fun y hy => ?_).symm
  rcases ht with rfl | ht
  · simp at hy
  · rw [List.getLast?_eq_getElem?, List.length_take, Nat.min_eq_left hn] at hy
    have : (xs.take n).getD (n - 1) 0 = y := by rw [List.getD_eq_getElem?_getD, hy]; rfl
    rw [← this]
    by_cases h0 : n = 0
    · subst h0; simp at hy
    · rw [getD_take (by omega)]; exact ht
theorem rtrim_loop {B H : AH} {a : Value} {xs : List Nat} [hx : RdN B a xs] (hL : Le B H) (hl : xs.length < 549755813888) : ∀ (n : Nat), n ≤ xs.length → (∀ t, n ≤ t → xs.getD t 0 = 0) →
    Ev (fun k l => f69_L0 k a (i64 n) l H) (fun o => ∃ n, o = (.exit 0, f69_X_L0 a (i64 n), H) ∧ n ≤ xs.length ∧ xs.take n = limbs (val xs)) := by
  intro n
  have hS := St.start hL
  induction n with
  | zero =>
    intro hn hz
    refine Ev.succ (fun k l => f69_L0_succ k _ _ l H) ?_
    repeat (first | refine Ev.s ?_ | refine Ev.newC fun _ _ _ => ?_ | refine Ev.boxC fun _ _ _ => ?_ | refine Ev.stC fun _ _ => ?_ | refine Ev.sc (by omega) ?_ | refine Ev.scg (by omega) ?_)
    rw [decide_eq_false (by omega)]
    repeat (first | refine Ev.s ?_ | refine Ev.newC fun _ _ _ => ?_ | refine Ev.boxC fun _ _ _ => ?_ | refine Ev.stC fun _ _ => ?_ | refine Ev.sc (by omega) ?_ | refine Ev.scg (by omega) ?_)
    exact Ev.ret ⟨0, rfl, hn, take_limbs hx.sm hn hz (.inl rfl)⟩
  | succ n ih =>
    intro hn hz
    refine Ev.succ (fun k l => f69_L0_succ k _ _ l H) ?_
    repeat (first | refine Ev.s ?_ | refine Ev.newC fun _ _ _ => ?_ | refine Ev.boxC fun _ _ _ => ?_ | refine Ev.stC fun _ _ => ?_ | refine Ev.sc (by omega) ?_ | refine Ev.scg (by omega) ?_)
    rw [decide_eq_true (by omega)]
    repeat (first | refine Ev.s ?_ | refine Ev.newC fun _ _ _ => ?_ | refine Ev.boxC fun _ _ _ => ?_ | refine Ev.stC fun _ _ => ?_ | refine Ev.sc (by omega) ?_ | refine Ev.scg (by omega) ?_)
    refine Ev.ixCg n rfl (by omega) fun p hp => ?_
    repeat (first | refine Ev.s ?_ | refine Ev.newC fun _ _ _ => ?_ | refine Ev.boxC fun _ _ _ => ?_ | refine Ev.stC fun _ _ => ?_ | refine Ev.sc (by omega) ?_ | refine Ev.scg (by omega) ?_)
    by_cases h : xs.getD n 0 = 0
    · rw [decide_eq_true h]
      repeat (first | refine Ev.s ?_ | refine Ev.newC fun _ _ _ => ?_ | refine Ev.boxC fun _ _ _ => ?_ | refine Ev.stC fun _ _ => ?_ | refine Ev.sc (by omega) ?_ | refine Ev.scg (by omega) ?_)
      exact ih (by omega) fun t ht => by
        by_cases e : t = n
        · rw [e]; exact h
        · exact hz t (by omega)
    · rw [decide_eq_false h]
      repeat (first | refine Ev.s ?_ | refine Ev.newC fun _ _ _ => ?_ | refine Ev.boxC fun _ _ _ => ?_ | refine Ev.stC fun _ _ => ?_ | refine Ev.sc (by omega) ?_ | refine Ev.scg (by omega) ?_)
      exact Ev.ret ⟨n + 1, rfl, hn, take_limbs hx.sm hn hz (.inr h)⟩
theorem rTrim_spec {B H : AH} {xs : List Nat} {a : Value} (hm : xs.length < 549755813888) [ha : RdT B a xs] (hL : Le B H) : Ev (fun k _ => rn k 69 [a] H) (An B H fun B' v => RdN B' v (limbs (val xs))) := by
  refine Ev.fn (fun k => f69_eq k a H) ?_
  have hS := St.start hL
  have ha := ha.rd
  repeat (first | refine Ev.s ?_ | refine Ev.newC fun _ _ _ => ?_ | refine Ev.boxC fun _ _ _ => ?_ | refine Ev.stC fun _ _ => ?_ | refine Ev.sc (by omega) ?_ | refine Ev.scg (by omega) ?_)
  refine Ev.bind (Ev.loop (rtrim_loop hL hm xs.length (Nat.le_refl _) (fun t ht => by rw [List.getD_eq_getElem?_getD, List.getElem?_eq_none (by omega)]; rfl))) ?_
  rintro _ ⟨n, rfl, hn, e⟩
  refine Ev.eq (fun k _ => f69_A0_x0 k _ _ _) ?_
  refine Ev.uptoC n rfl hn fun w hw => ?_
  rw [e] at hw
  have hsl := small_limbs (val xs)
  have hll : (limbs (val xs)).length ≤ xs.length := limbs_length_le (val_lt ha.sm)
  generalize limbs (val xs) = ys at *
  by_cases h0 : ys = []
  · subst h0
    refine Ev.apNone Ew Us (.inl rfl) (hw.sc.up hS.le) ?_
    exact Ev.doneC RdN.nil
  · refine Ev.apNew Ew Us hS (.inl rfl) (hw.sc.up hS.le) (all_u32 ys) (by simpa using h0) (by rw [List.length_map]; omega) fun b3 B3 H3 hm3 hS3 => ?_
    obtain ⟨B4, hm4, hr4, hS4⟩ := hS3.freezeN (n := (ys.map u32).length) hsl (List.length_map ..) (cap := (ys.map u32).length + 1) (by rw [List.length_map]; omega)
    exact Ev.doneC hr4
theorem rat_spec {B H : AH} {xs : List Nat} {a : Value} {i : Nat} (hi : i < 9223372036854775808) [ha : RdT B a xs] (hL : Le B H) : Ev (fun k _ => rn k 79 [a, i64 i] H) (Pu H fun v => v = u64 (xs.getD i 0)) := by
  refine Ev.fn (fun k => f79_eq k a _ H) ?_
  have hS := St.start hL
  have ha := ha.rd
  repeat (first | refine Ev.s ?_ | refine Ev.newC fun _ _ _ => ?_ | refine Ev.boxC fun _ _ _ => ?_ | refine Ev.stC fun _ _ => ?_ | refine Ev.sc (by omega) ?_ | refine Ev.scg (by omega) ?_)
  by_cases h : xs.length ≤ i
  · rw [decide_eq_true h]
    repeat (first | refine Ev.s ?_ | refine Ev.newC fun _ _ _ => ?_ | refine Ev.boxC fun _ _ _ => ?_ | refine Ev.stC fun _ _ => ?_ | refine Ev.sc (by omega) ?_ | refine Ev.scg (by omega) ?_)
    exact Ev.doneU (by rw [List.getD_eq_getElem?_getD, List.getElem?_eq_none h]; rfl)
  · rw [decide_eq_false h]
    repeat (first | refine Ev.s ?_ | refine Ev.newC fun _ _ _ => ?_ | refine Ev.boxC fun _ _ _ => ?_ | refine Ev.stC fun _ _ => ?_ | refine Ev.sc (by omega) ?_ | refine Ev.scg (by omega) ?_)
    refine Ev.ixC i rfl (by omega) fun p hp => ?_
    have := ha.sm.getD i
    repeat (first | refine Ev.s ?_ | refine Ev.newC fun _ _ _ => ?_ | refine Ev.boxC fun _ _ _ => ?_ | refine Ev.stC fun _ _ => ?_ | refine Ev.sc (by omega) ?_ | refine Ev.scg (by omega) ?_)
    exact Ev.doneU rfl
theorem rFrom_spec {B H : AH} {n : Nat} (hn : n < 18446744073709551616) (hL : Le B H) : Ev (fun k _ => rn k 68 [u64 n] H) (An B H fun B' v => RdN B' v (limbs n)) := by
  refine Ev.fn (fun k => f68_eq k _ H) ?_
  have hS := St.start hL
  repeat (first | refine Ev.s ?_ | refine Ev.newC fun _ _ _ => ?_ | refine Ev.boxC fun _ _ _ => ?_ | refine Ev.stC fun _ _ => ?_ | refine Ev.sc (by omega) ?_ | refine Ev.scg (by omega) ?_)
  refine Ev.prim (shrL (by decide)) ?_
  repeat (first | refine Ev.s ?_ | refine Ev.newC fun _ _ _ => ?_ | refine Ev.boxC fun _ _ _ => ?_ | refine Ev.stC fun _ _ => ?_ | refine Ev.sc (by omega) ?_ | refine Ev.scg (by omega) ?_)
  refine Ev.bsC (by decide) fun b2 H2 hS2 => ?_
  rw [Nat.mod_eq_of_lt (show n / 2 ^ 32 < 4294967296 by omega)] at hS2
  obtain ⟨B3, hm3, h3, hS3⟩ := hS2.freezeN (n := 2) (cap := 2) (xs := [n % 4294967296, n / 4294967296]) (by intro x hx; simp at hx; omega) rfl (Nat.le_refl _)
  refine Ev.callD (rTrim_spec (xs := [n % 4294967296, n / 4294967296]) (by simp)) fun v B1 H1 hm1 hS1 h1 => ?_
  rw [show val [n % 4294967296, n / 4294967296] = n by simp only [val]; omega] at h1
  exact Ev.doneC h1
theorem rcmp_loop {B H : AH} {a b : Value} {xs ys : List Nat} [hx : RdN B a xs] [hy : RdN B b ys] (hL : Le B H) : ∀ (n : Nat), n < 4611686018427387904 → (∀ t, n ≤ t → xs.getD t 0 = ys.getD t 0) →
    Ev (fun k l => f58_L0 k a b (.int .i64 ((n : Int) - 1)) l H) (fun o => (o = (.exit 0, f58_X_L0 unk, H) ∧ val xs = val ys) ∨ (∃ c, o = (.ret, f58_X_L0 (.int .i64 c), H) ∧ c = cmpN (val xs) (val ys))) := by
  intro n
  have hS := St.start hL
  induction n with
  | zero =>
    intro _ hz
    refine Ev.succ (fun k l => f58_L0_succ k _ _ _ l H) ?_
    repeat (first | refine Ev.s ?_ | refine Ev.newC fun _ _ _ => ?_ | refine Ev.boxC fun _ _ _ => ?_ | refine Ev.stC fun _ _ => ?_ | refine Ev.sc (by omega) ?_ | refine Ev.scg (by omega) ?_)
    rw [decide_eq_false (by omega)]
    repeat (first | refine Ev.s ?_ | refine Ev.newC fun _ _ _ => ?_ | refine Ev.boxC fun _ _ _ => ?_ | refine Ev.stC fun _ _ => ?_ | refine Ev.sc (by omega) ?_ | refine Ev.scg (by omega) ?_)
    exact Ev.ret (.inl ⟨rfl, val_ext fun t => hz t (by omega)⟩)
  | succ n ih =>
    intro hn hz
    refine Ev.succ (fun k l => f58_L0_succ k _ _ _ l H) ?_
    have drop_eq : val (xs.drop (n + 1)) = val (ys.drop (n + 1)) := val_ext fun t => by
      rw [List.getD_eq_getElem?_getD, List.getElem?_drop, List.getD_eq_getElem?_getD, List.getElem?_drop, ← List.getD_eq_getElem?_getD, ← List.getD_eq_getElem?_getD]
      exact hz _ (by omega)
    have hdx := val_drop xs (n + 1)
    have hdy := val_drop ys (n + 1)
    rw [drop_eq] at hdx
    have e : ((n + 1 : Nat) : Int) - 1 = (n : Int) := by omega
    rw [e]
    repeat (first | refine Ev.s ?_ | refine Ev.newC fun _ _ _ => ?_ | refine Ev.boxC fun _ _ _ => ?_ | refine Ev.stC fun _ _ => ?_ | refine Ev.sc (by omega) ?_ | refine Ev.scg (by omega) ?_)
    rw [decide_eq_true (by omega)]
    repeat (first | refine Ev.s ?_ | refine Ev.newC fun _ _ _ => ?_ | refine Ev.boxC fun _ _ _ => ?_ | refine Ev.stC fun _ _ => ?_ | refine Ev.sc (by omega) ?_ | refine Ev.scg (by omega) ?_)
    refine Ev.callU (rat_spec (xs := xs) (by omega) hL) ?_
    rintro _ rfl
    refine Ev.callU (rat_spec (xs := ys) (by omega) hL) ?_
    rintro _ rfl
    repeat (first | refine Ev.s ?_ | refine Ev.newC fun _ _ _ => ?_ | refine Ev.boxC fun _ _ _ => ?_ | refine Ev.stC fun _ _ => ?_ | refine Ev.sc (by omega) ?_ | refine Ev.scg (by omega) ?_)
    by_cases h : xs.getD n 0 < ys.getD n 0
    · rw [decide_eq_true h]
      repeat (first | refine Ev.s ?_ | refine Ev.newC fun _ _ _ => ?_ | refine Ev.boxC fun _ _ _ => ?_ | refine Ev.stC fun _ _ => ?_ | refine Ev.sc (by omega) ?_ | refine Ev.scg (by omega) ?_)
      have := val_take_cmp hx.sm hy.sm n h
      exact Ev.ret (.inr ⟨-1, rfl, by unfold cmpN; rw [if_pos (by omega)]⟩)
    rw [decide_eq_false h]
    repeat (first | refine Ev.s ?_ | refine Ev.newC fun _ _ _ => ?_ | refine Ev.boxC fun _ _ _ => ?_ | refine Ev.stC fun _ _ => ?_ | refine Ev.sc (by omega) ?_ | refine Ev.scg (by omega) ?_)
    refine Ev.callU (rat_spec (xs := xs) (by omega) hL) ?_
    rintro _ rfl
    refine Ev.callU (rat_spec (xs := ys) (by omega) hL) ?_
    rintro _ rfl
    repeat (first | refine Ev.s ?_ | refine Ev.newC fun _ _ _ => ?_ | refine Ev.boxC fun _ _ _ => ?_ | refine Ev.stC fun _ _ => ?_ | refine Ev.sc (by omega) ?_ | refine Ev.scg (by omega) ?_)
    by_cases h2 : ys.getD n 0 < xs.getD n 0
    · rw [decide_eq_true h2]
      repeat (first | refine Ev.s ?_ | refine Ev.newC fun _ _ _ => ?_ | refine Ev.boxC fun _ _ _ => ?_ | refine Ev.stC fun _ _ => ?_ | refine Ev.sc (by omega) ?_ | refine Ev.scg (by omega) ?_)
      have := val_take_cmp hy.sm hx.sm n h2
      exact Ev.ret (.inr ⟨1, rfl, by unfold cmpN; rw [if_neg (by omega), if_pos (by omega)]⟩)
    rw [decide_eq_false h2]
    repeat (first | refine Ev.s ?_ | refine Ev.newC fun _ _ _ => ?_ | refine Ev.boxC fun _ _ _ => ?_ | refine Ev.stC fun _ _ => ?_ | refine Ev.sc (by omega) ?_ | refine Ev.scg (by omega) ?_)
    refine Ev.prim (bin_sub64 (by omega)) ?_
    refine ih (by omega) fun t ht => ?_
    by_cases e : t = n
    · rw [e]; omega
    · exact hz t (by omega)
theorem rCmp_spec {B H : AH} {xs ys : List Nat} {a b : Value} (hm : xs.length < 549755813888) (hm' : ys.length < 549755813888) [ha : RdT B a xs] [hb : RdT B b ys] (hL : Le B H) :
    Ev (fun k _ => rn k 58 [a, b] H) (Pu H fun v => v = .int .i64 (cmpN (val xs) (val ys))) := by
  refine Ev.fn (fun k => f58_eq k a b H) ?_
  have hS := St.start hL
  have ha := ha.rd
  have hb := hb.rd
  repeat (first | refine Ev.s ?_ | refine Ev.newC fun _ _ _ => ?_ | refine Ev.boxC fun _ _ _ => ?_ | refine Ev.stC fun _ _ => ?_ | refine Ev.sc (by omega) ?_ | refine Ev.scg (by omega) ?_)
  rw [show (if (ys.length : Int) > (xs.length : Int) then (ys.length : Int) else (xs.length : Int)) = ((max xs.length ys.length : Nat) : Int) by split <;> omega]
  refine Ev.bind (Ev.loop (rcmp_loop (xs := xs) (ys := ys) hL (max xs.length ys.length) (by omega) (fun t ht => by rw [List.getD_eq_getElem?_getD, List.getD_eq_getElem?_getD, List.getElem?_eq_none (by omega), List.getElem?_eq_none (by omega)]))) ?_
  rintro _ (⟨rfl, e⟩ | ⟨c, rfl, e⟩)
  · refine Ev.eq (fun k _ => f58_A0_x0 k _ _) ?_
    exact Ev.doneU (by rw [e]; unfold cmpN; rw [if_neg (by omega), if_neg (by omega)])
  · refine Ev.eq (fun k _ => f58_A0_ret k _ _) ?_
    exact Ev.doneU (by rw [e])
end Go.AM.Z
set_option linter.unusedVariables false
set_option linter.unusedSimpArgs false
set_option maxRecDepth 100000
namespace Go.AM.Z
open Go Go.AM Go.Proofs
attribute [local irreducible] run bin un ld st box newV mkS fldA fld ixA ix slc slc3 build buildS cv cvS ap cpy lenV gOp pickV b2 aIf aChk evalK resume iterD Option.bind

abbrev AccW := Acc 70
theorem take_step {xs : List Nat} {i : Nat} : val (xs.take (i + 1)) = val (xs.take i) + 4294967296 ^ i * xs.getD i 0 := val_take_succ' xs i
theorem rsub_loop {H0 B0 : AH} {L : List (Nat × Blk)} {xs ys : List Nat} {a b : Value} (hlx : xs.length < 549755813888) (hly : ys.length < 549755813888) :
    ∀ (m i : Nat) (ds : List Nat) (c : Nat) (v : Value) (B H : AH), i + m = xs.length → RdN B a xs → RdN B b ys → AccW H0 B0 B L H v ds → small ds → ds.length = i → c ≤ 1 → val ds + val (ys.take i) = val (xs.take i) + 4294967296 ^ i * c →
    Ev (fun k n => f51_L0 k a b v (u64 c) (i64 i) n H) (fun o => ∃ B' H' v' ds c, o = (.exit 0, f51_X_L0 v', H') ∧ Mo B B' ∧ AccW H0 B0 B' L H' v' ds ∧ small ds ∧ ds.length = xs.length ∧ val ds + val (ys.take xs.length) = val xs + 4294967296 ^ xs.length * c) := by
  intro m
  induction m with
  | zero =>
    intro i ds c v B H hi ha hb hA hsm hl hc hv
    refine Ev.succ (fun k n => f51_L0_succ k _ _ _ _ _ n H) ?_
    repeat (first | refine Ev.s ?_ | refine Ev.newC fun _ _ _ => ?_ | refine Ev.boxC fun _ _ _ => ?_ | refine Ev.stC fun _ _ => ?_ | refine Ev.sc (by omega) ?_ | refine Ev.scg (by omega) ?_)
    rw [decide_eq_false (by omega)]
    repeat (first | refine Ev.s ?_ | refine Ev.newC fun _ _ _ => ?_ | refine Ev.boxC fun _ _ _ => ?_ | refine Ev.stC fun _ _ => ?_ | refine Ev.sc (by omega) ?_ | refine Ev.scg (by omega) ?_)
    have hi : i = xs.length := by omega
    subst hi
    rw [List.take_of_length_le (l := xs) (by omega)] at hv
    exact Ev.ret ⟨B, H, v, ds, c, rfl, Mo.refl B, hA, hsm, hl, hv⟩
  | succ m ih =>
    intro i ds c v B H hi ha hb hA hsm hl hc hv
    refine Ev.succ (fun k n => f51_L0_succ k _ _ _ _ _ n H) ?_
    have hx := ha.sm.getD i
    have hy := hb.sm.getD i
    repeat (first | refine Ev.s ?_ | refine Ev.newC fun _ _ _ => ?_ | refine Ev.boxC fun _ _ _ => ?_ | refine Ev.stC fun _ _ => ?_ | refine Ev.sc (by omega) ?_ | refine Ev.scg (by omega) ?_)
    rw [decide_eq_true (by omega)]
    repeat (first | refine Ev.s ?_ | refine Ev.newC fun _ _ _ => ?_ | refine Ev.boxC fun _ _ _ => ?_ | refine Ev.stC fun _ _ => ?_ | refine Ev.sc (by omega) ?_ | refine Ev.scg (by omega) ?_)
    refine Ev.callU (rat_spec (xs := xs) (by omega) hA.le) ?_
    rintro _ rfl
    refine Ev.prim (addQ (b := 4294967296) (by omega)) ?_
    refine Ev.callU (rat_spec (xs := ys) (by omega) hA.le) ?_
    rintro _ rfl
    repeat (first | refine Ev.s ?_ | refine Ev.newC fun _ _ _ => ?_ | refine Ev.boxC fun _ _ _ => ?_ | refine Ev.stC fun _ _ => ?_ | refine Ev.sc (by omega) ?_ | refine Ev.scg (by omega) ?_)
    refine hA.push (by omega) fun v' B' H' hm hA' => ?_
    refine Ev.prim (shrL (by decide)) ?_
    rw [show (2 : Nat) ^ 32 = 4294967296 from rfl]
    have hc2 : (xs.getD i 0 + 4294967296 - ys.getD i 0 - c) / 4294967296 ≤ 1 := by omega
    refine Ev.prim (subQ (a := 1) ⟨hc2, by decide⟩) ?_
    repeat (first | refine Ev.s ?_ | refine Ev.newC fun _ _ _ => ?_ | refine Ev.boxC fun _ _ _ => ?_ | refine Ev.stC fun _ _ => ?_ | refine Ev.sc (by omega) ?_ | refine Ev.scg (by omega) ?_)
    refine (ih (i + 1) _ (1 - (xs.getD i 0 + 4294967296 - ys.getD i 0 - c) / 4294967296) v' B' H' (by omega) (ha.mono hm.mo) (hb.mono hm.mo) hA' (small_snoc hsm (Nat.mod_lt _ (by decide))) (by simp [hl]) (by omega) ?_).mono ?_
    · rw [val_snoc, hl, take_step, take_step, Nat.pow_succ]
      have key : (xs.getD i 0 + 4294967296 - ys.getD i 0 - c) % 4294967296 + ys.getD i 0 + c = xs.getD i 0 + 4294967296 * (1 - (xs.getD i 0 + 4294967296 - ys.getD i 0 - c) / 4294967296) := by omega
      generalize (xs.getD i 0 + 4294967296 - ys.getD i 0 - c) % 4294967296 = u at *
      generalize 1 - (xs.getD i 0 + 4294967296 - ys.getD i 0 - c) / 4294967296 = w at *
      generalize xs.getD i 0 = X at *
      generalize ys.getD i 0 = Y at *
      generalize 4294967296 ^ i = p at *
      have k2 : p * u + p * Y + p * c = p * X + p * 4294967296 * w := by
        rw [← Nat.mul_add, ← Nat.mul_add, key, Nat.mul_add, Nat.mul_assoc]
      omega
    · rintro o ⟨B2, H2, v2, ds2, c2, h1, h2, h3⟩
      exact ⟨B2, H2, v2, ds2, c2, h1, hm.mo.trans h2, h3⟩
theorem rSub_spec {B H : AH} {xs ys : List Nat} {a b : Value} (hm : xs.length < 274877906944) (hm' : ys.length < 274877906944) [ha : RdT B a xs] [hb : RdT B b ys] (hL : Le B H) :
    Ev (fun k _ => rn k 51 [a, b] H) (An B H fun B' v => (val xs < val ys ∧ v = .tuple #[.slice none 0 0, .bool false]) ∨ (val ys ≤ val xs ∧ ∃ s, v = .tuple #[s, .bool true] ∧ RdN B' s (limbs (val xs - val ys)))) := by
  refine Ev.fn (fun k => f51_eq k a b H) ?_
  have hS := St.start hL
  refine Ev.callU (rCmp_spec (xs := xs) (ys := ys) (by omega) (by omega) hL) ?_
  rintro _ rfl
  repeat (first | refine Ev.s ?_ | refine Ev.newC fun _ _ _ => ?_ | refine Ev.boxC fun _ _ _ => ?_ | refine Ev.stC fun _ _ => ?_ | refine Ev.sc (by omega) ?_ | refine Ev.scg (by omega) ?_)
  by_cases h : val xs < val ys
  · rw [decide_eq_true (show cmpN (val xs) (val ys) < 0 by unfold cmpN; rw [if_pos h]; decide)]
    repeat (first | refine Ev.s ?_ | refine Ev.newC fun _ _ _ => ?_ | refine Ev.boxC fun _ _ _ => ?_ | refine Ev.stC fun _ _ => ?_ | refine Ev.sc (by omega) ?_ | refine Ev.scg (by omega) ?_)
    exact Ev.doneC (.inl ⟨h, rfl⟩)
  · rw [decide_eq_false (show ¬ cmpN (val xs) (val ys) < 0 by unfold cmpN; rw [if_neg h]; split <;> decide)]
    repeat (first | refine Ev.s ?_ | refine Ev.newC fun _ _ _ => ?_ | refine Ev.boxC fun _ _ _ => ?_ | refine Ev.stC fun _ _ => ?_ | refine Ev.sc (by omega) ?_ | refine Ev.scg (by omega) ?_)
    refine Ev.bind (Ev.loop (rsub_loop (by omega) (by omega) xs.length 0 [] 0 _ B H (by omega) ha.rd hb.rd (Acc.nil hS) small_nil rfl (by omega) (by simp [val]))) ?_
    rintro _ ⟨B2, H2, v2, ds, c, rfl, hm2, hA2, hsm, hl, hv⟩
    obtain ⟨B3, hm3, hr3, hS3⟩ := hA2.freeze hsm
    refine Ev.eq (fun k _ => f51_A0_x0 k _ _) ?_
    refine Ev.callD (rTrim_spec (xs := ds) (by omega)) fun v B4 H4 hm4 hS4 h4 => ?_
    have e : val ds = val xs - val ys := by
      have h1 := val_lt hsm
      rw [hl] at h1
      have h2 := val_lt ha.rd.sm
      have hy : val (ys.take xs.length) = val ys := by
        have h5 := (val_div_mod hb.rd.sm xs.length).2
        rw [← h5]
        exact Nat.mod_eq_of_lt (by omega)
      rw [hy] at hv
      generalize 4294967296 ^ xs.length = p at *
      have : c = 0 := by
        rcases Nat.eq_zero_or_pos c with h | h
        · exact h
        · have : p * 1 ≤ p * c := Nat.mul_le_mul_left _ h
          omega
      subst this
      omega
    rw [e] at h4
    exact Ev.doneC (.inr ⟨by omega, v, rfl, h4⟩)
theorem rbits_loop {H : AH} : ∀ (m d n : Nat), nbits d = m → d < 4294967296 → n + m < 4611686018427387904 →
    Ev (fun k l => f77_L0 k (i64 n) (u32 d) l H) (fun o => o = (.exit 0, f77_X_L0 (i64 (n + nbits d)), H)) := by
  intro m
  induction m with
  | zero =>
    intro d n hd h1 h2
    have : d = 0 := nbits_eq_zero.mp hd
    subst this
    refine Ev.succ (fun k l => f77_L0_succ k _ _ l H) ?_
    repeat (first | refine Ev.s ?_ | refine Ev.newC fun _ _ _ => ?_ | refine Ev.boxC fun _ _ _ => ?_ | refine Ev.stC fun _ _ => ?_ | refine Ev.sc (by omega) ?_ | refine Ev.scg (by omega) ?_)
    rw [decide_eq_false (by decide)]
    repeat (first | refine Ev.s ?_ | refine Ev.newC fun _ _ _ => ?_ | refine Ev.boxC fun _ _ _ => ?_ | refine Ev.stC fun _ _ => ?_ | refine Ev.sc (by omega) ?_ | refine Ev.scg (by omega) ?_)
    exact Ev.ret rfl
  | succ m ih =>
    intro d n hd h1 h2
    have h0 : d ≠ 0 := fun h => by rw [h] at hd; cases hd
    have hb : nbits (d / 2) = m ∧ nbits d = nbits (d / 2) + 1 := by
      by_cases h : d = 1
      · subst h
        have h1 : nbits 1 = 1 := rfl
        rw [h1] at hd
        have : m = 0 := by omega
        subst this
        exact ⟨rfl, rfl⟩
      · have := nbits_div (n := d) (k := 1) (by omega)
        rw [Nat.pow_one] at this
        omega
    have hle := nbits_le.mpr (show d < 2 ^ 32 by omega)
    refine Ev.succ (fun k l => f77_L0_succ k _ _ l H) ?_
    repeat (first | refine Ev.s ?_ | refine Ev.newC fun _ _ _ => ?_ | refine Ev.boxC fun _ _ _ => ?_ | refine Ev.stC fun _ _ => ?_ | refine Ev.sc (by omega) ?_ | refine Ev.scg (by omega) ?_)
    rw [decide_eq_true (by omega)]
    repeat (first | refine Ev.s ?_ | refine Ev.newC fun _ _ _ => ?_ | refine Ev.boxC fun _ _ _ => ?_ | refine Ev.stC fun _ _ => ?_ | refine Ev.sc (by omega) ?_ | refine Ev.scg (by omega) ?_)
    refine Ev.prim (shrL (by decide)) ?_
    rw [Nat.pow_one]
    refine (ih (d / 2) (n + 1) hb.1 (by omega) (by omega)).mono fun o h => ?_
    rw [h, hb.2, Nat.add_assoc, Nat.add_comm 1]
theorem rBits_spec {B H : AH} {xs : List Nat} {a : Value} (hm : xs.length < 274877906944) [ha : RdT B a xs] (hL : Le B H) : Ev (fun k _ => rn k 77 [a] H) (An B H fun _ v => v = i64 (nbits (val xs))) := by
  refine Ev.fn (fun k => f77_eq k a H) ?_
  have hS := St.start hL
  refine Ev.callD (rTrim_spec (xs := xs) (by omega)) fun v B1 H1 hm1 hS1 h1 => ?_
  have hll := limbs_length_le (val_lt ha.rd.sm)
  by_cases h0 : val xs = 0
  · repeat (first | refine Ev.s ?_ | refine Ev.newC fun _ _ _ => ?_ | refine Ev.boxC fun _ _ _ => ?_ | refine Ev.stC fun _ _ => ?_ | refine Ev.sc (by omega) ?_ | refine Ev.scg (by omega) ?_)
    rw [h0, limbs_zero, List.length_nil, decide_eq_true rfl]
    repeat (first | refine Ev.s ?_ | refine Ev.newC fun _ _ _ => ?_ | refine Ev.boxC fun _ _ _ => ?_ | refine Ev.stC fun _ _ => ?_ | refine Ev.sc (by omega) ?_ | refine Ev.scg (by omega) ?_)
    exact Ev.doneC rfl
  have hne : (limbs (val xs)).length ≠ 0 := fun h => h0 (limbs_eq_nil.mp (List.length_eq_zero_iff.mp h))
  have hnb := nbits_limbs h0
  repeat (first | refine Ev.s ?_ | refine Ev.newC fun _ _ _ => ?_ | refine Ev.boxC fun _ _ _ => ?_ | refine Ev.stC fun _ _ => ?_ | refine Ev.sc (by omega) ?_ | refine Ev.scg (by omega) ?_)
  rw [decide_eq_false hne]
  repeat (first | refine Ev.s ?_ | refine Ev.newC fun _ _ _ => ?_ | refine Ev.boxC fun _ _ _ => ?_ | refine Ev.stC fun _ _ => ?_ | refine Ev.sc (by omega) ?_ | refine Ev.scg (by omega) ?_)
  refine Ev.ixC ((limbs (val xs)).length - 1) rfl (by omega) fun p hp => ?_
  have hd := (small_limbs (val xs)).getD ((limbs (val xs)).length - 1)
  have hle := nbits_le.mpr (show (limbs (val xs)).getD ((limbs (val xs)).length - 1) 0 < 2 ^ 32 by omega)
  repeat (first | refine Ev.s ?_ | refine Ev.newC fun _ _ _ => ?_ | refine Ev.boxC fun _ _ _ => ?_ | refine Ev.stC fun _ _ => ?_ | refine Ev.sc (by omega) ?_ | refine Ev.scg (by omega) ?_)
  refine Ev.bind (Ev.loop (rbits_loop _ _ _ rfl hd (by omega))) ?_
  rintro _ rfl
  refine Ev.eq (fun k _ => f77_A0_x0 k _ _) ?_
  exact Ev.doneC (by rw [hnb])
end Go.AM.Z
set_option linter.unusedVariables false
set_option linter.unusedSimpArgs false
set_option maxRecDepth 100000
namespace Go.AM.Z
open Go Go.AM Go.Proofs
attribute [local irreducible] run bin un ld st box newV mkS fldA fld ixA ix slc slc3 build buildS cv cvS ap cpy lenV gOp pickV b2 aIf aChk evalK resume iterD Option.bind

theorem pow32 (q s : Nat) : 2 ^ (32 * q + s) = 4294967296 ^ q * 2 ^ s := by rw [Nat.pow_add, Nat.pow_mul]
theorem rshl_step {p q x c d w s v t : Nat} (hd : d + 4294967296 * w = x * 2 ^ s + c) (hv : v + p * c = q * (t * 2 ^ s)) : v + p * d + p * 4294967296 * w = q * (t * 2 ^ s) + p * (x * 2 ^ s) := by
  have := congrArg (p * ·) hd
  simp only [Nat.mul_add] at this
  rw [Nat.mul_assoc p 4294967296]
  omega
theorem rshl_loop {H0 B0 : AH} {L : List (Nat × Blk)} {xs : List Nat} {a : Value} {n q s : Nat} (hn : n = 32 * q + s) (hs : s < 32) (hlx : xs.length < 549755813888) (hq : q < 100000) :
    ∀ (m i : Nat) (ds : List Nat) (c : Nat) (v : Value) (B H : AH), i + m = xs.length → RdN B a xs → AccW H0 B0 B L H v ds → small ds → ds.length = q + i → c < 2 ^ s → val ds + 4294967296 ^ (q + i) * c = 4294967296 ^ q * (val (xs.take i) * 2 ^ s) →
    Ev (fun k l => f56_L0 k a (i64 n) v (u64 c) (i64 i) l H) (fun o => ∃ B' H' v' ds c, o = (.exit 0, f56_X_L0 v' (u64 c), H') ∧ Mo B B' ∧ AccW H0 B0 B' L H' v' ds ∧ small ds ∧ ds.length = q + xs.length ∧ c < 2 ^ s ∧ val ds + 4294967296 ^ (q + xs.length) * c = 4294967296 ^ q * (val xs * 2 ^ s)) := by
  intro m
  induction m with
  | zero =>
    intro i ds c v B H hi ha hA hsm hl hc hv
    refine Ev.succ (fun k l => f56_L0_succ k _ _ _ _ _ l H) ?_
    repeat (first | refine Ev.s ?_ | refine Ev.newC fun _ _ _ => ?_ | refine Ev.boxC fun _ _ _ => ?_ | refine Ev.stC fun _ _ => ?_ | refine Ev.sc (by omega) ?_ | refine Ev.scg (by omega) ?_)
    rw [decide_eq_false (by omega)]
    repeat (first | refine Ev.s ?_ | refine Ev.newC fun _ _ _ => ?_ | refine Ev.boxC fun _ _ _ => ?_ | refine Ev.stC fun _ _ => ?_ | refine Ev.sc (by omega) ?_ | refine Ev.scg (by omega) ?_)
    have hi : i = xs.length := by omega
    subst hi
    rw [List.take_of_length_le (Nat.le_refl _)] at hv
    exact Ev.ret ⟨B, H, v, ds, c, rfl, Mo.refl B, hA, hsm, hl, hc, hv⟩
  | succ m ih =>
    intro i ds c v B H hi ha hA hsm hl hc hv
    refine Ev.succ (fun k l => f56_L0_succ k _ _ _ _ _ l H) ?_
    have hx := ha.sm.getD i
    have hps : 2 ^ s ≤ 2 ^ 31 := Nat.pow_le_pow_right (n := 2) (by decide) (by omega : s ≤ 31)
    rw [show (2 : Nat) ^ 31 = 2147483648 by decide] at hps
    have hxs : xs.getD i 0 * 2 ^ s ≤ 4294967295 * 2147483648 := Nat.mul_le_mul (by omega) hps
    have hSt := hA.st
    repeat (first | refine Ev.s ?_ | refine Ev.newC fun _ _ _ => ?_ | refine Ev.boxC fun _ _ _ => ?_ | refine Ev.stC fun _ _ => ?_ | refine Ev.sc (by omega) ?_ | refine Ev.scg (by omega) ?_)
    rw [decide_eq_true (by omega)]
    repeat (first | refine Ev.s ?_ | refine Ev.newC fun _ _ _ => ?_ | refine Ev.boxC fun _ _ _ => ?_ | refine Ev.stC fun _ _ => ?_ | refine Ev.sc (by omega) ?_ | refine Ev.scg (by omega) ?_)
    refine Ev.ixC i rfl (by omega) fun p hp => ?_
    repeat (first | refine Ev.s ?_ | refine Ev.newC fun _ _ _ => ?_ | refine Ev.boxC fun _ _ _ => ?_ | refine Ev.stC fun _ _ => ?_ | refine Ev.sc (by omega) ?_ | refine Ev.scg (by omega) ?_)
    rw [show n % 32 = s by omega]
    refine Ev.prim (shlQ ⟨by omega, by omega⟩) ?_
    refine Ev.prim (orQ ⟨by omega, by omega⟩) ?_
    rw [Nat.or_comm, or_add hc, Nat.add_comm]
    repeat (first | refine Ev.s ?_ | refine Ev.newC fun _ _ _ => ?_ | refine Ev.boxC fun _ _ _ => ?_ | refine Ev.stC fun _ _ => ?_ | refine Ev.sc (by omega) ?_ | refine Ev.scg (by omega) ?_)
    refine hA.push (by omega) fun v' B' H' hm hA' => ?_
    refine Ev.prim (shrL (by decide)) ?_
    rw [show (2 : Nat) ^ 32 = 4294967296 from rfl]
    repeat (first | refine Ev.s ?_ | refine Ev.newC fun _ _ _ => ?_ | refine Ev.boxC fun _ _ _ => ?_ | refine Ev.stC fun _ _ => ?_ | refine Ev.sc (by omega) ?_ | refine Ev.scg (by omega) ?_)
    have hsum := Nat.mod_add_div (xs.getD i 0 * 2 ^ s + c) 4294967296
    have hsm' := small_snoc hsm (Nat.mod_lt (xs.getD i 0 * 2 ^ s + c) (show 0 < 4294967296 by decide))
    have hc' : (xs.getD i 0 * 2 ^ s + c) / 4294967296 < 2 ^ s := by
      refine Nat.div_lt_of_lt_mul ?_
      have : (xs.getD i 0 + 1) * 2 ^ s ≤ 4294967296 * 2 ^ s := Nat.mul_le_mul_right _ hx
      rw [Nat.add_mul, Nat.one_mul] at this
      omega
    have hv' : val (ds ++ [(xs.getD i 0 * 2 ^ s + c) % 4294967296]) + 4294967296 ^ (q + (i + 1)) * ((xs.getD i 0 * 2 ^ s + c) / 4294967296) = 4294967296 ^ q * (val (xs.take (i + 1)) * 2 ^ s) := by
      rw [val_snoc, hl, take_step, ← Nat.add_assoc, Nat.pow_succ, rshl_step hsum hv, Nat.add_mul, Nat.mul_add, Nat.pow_add]
      simp only [Nat.mul_assoc, Nat.mul_left_comm, Nat.mul_comm]
    refine (ih (i + 1) _ _ v' B' H' (by omega) (ha.mono hm.mo) hA' hsm' (by simp [hl, Nat.add_assoc]) hc' hv').mono ?_
    rintro o ⟨B2, H2, v2, ds2, c2, h1, h2, h3⟩
    exact ⟨B2, H2, v2, ds2, c2, h1, hm.mo.trans h2, h3⟩
theorem rShl_spec {B H : AH} {xs : List Nat} {a : Value} {n : Nat} (hm : xs.length < 137438953472) (hn : n ≤ 100000) [ha : RdT B a xs] (hL : Le B H) :
    Ev (fun k _ => rn k 56 [a, i64 n] H) (An B H fun B' v => ∃ w, v = .tuple #[w, .bool true] ∧ RdN B' w (limbs (val xs * 2 ^ n))) := by
  refine Ev.fn (fun k => f56_eq k a _ H) ?_
  have hS := St.start hL
  have ha := ha.rd
  repeat (first | refine Ev.s ?_ | refine Ev.newC fun _ _ _ => ?_ | refine Ev.boxC fun _ _ _ => ?_ | refine Ev.stC fun _ _ => ?_ | refine Ev.sc (by omega) ?_ | refine Ev.scg (by omega) ?_)
  rw [decide_eq_false (by omega)]
  repeat (first | refine Ev.s ?_ | refine Ev.newC fun _ _ _ => ?_ | refine Ev.boxC fun _ _ _ => ?_ | refine Ev.stC fun _ _ => ?_ | refine Ev.sc (by omega) ?_ | refine Ev.scg (by omega) ?_)
  rw [decide_eq_false (by omega)]
  repeat (first | refine Ev.s ?_ | refine Ev.newC fun _ _ _ => ?_ | refine Ev.boxC fun _ _ _ => ?_ | refine Ev.stC fun _ _ => ?_ | refine Ev.sc (by omega) ?_ | refine Ev.scg (by omega) ?_)
  refine Ev.mkS Ew hS (by omega) (by omega) fun bo B1 H1 hm1 hS1 => ?_
  rw [map_replicate] at hS1
  have hA : AccW H B B1 [] H1 (sl bo 0 (n / 32) (n / 32)) (List.replicate (n / 32) 0) := by
    by_cases h0 : n / 32 = 0
    · rw [h0]; exact .inl ⟨rfl, .inr ⟨bo, 0, rfl⟩, hS1.drop1⟩
    · refine .inr ⟨by simpa using h0, bo, .fix, n / 32, by rw [List.length_replicate], .inr ⟨rfl, by rw [List.length_replicate]⟩, hS1⟩
  refine Ev.bind (Ev.loop (rshl_loop (n := n) (q := n / 32) (s := n % 32) (by omega) (by omega) (by omega) (by omega) xs.length 0 (List.replicate (n / 32) 0) 0 _ B1 H1 (by omega) (ha.mono hm1) hA (small_replicate _) (by simp) (Nat.pow_pos (by decide)) (by simp [val, val_replicate]))) ?_
  rintro _ ⟨B2, H2, v2, ds, c, rfl, hm2, hA2, hsm, hl, hc, hv⟩
  refine Ev.eq (fun k _ => f56_A0_x0 k _ _ _) ?_
  have hps : 2 ^ (n % 32) ≤ 2 ^ 31 := Nat.pow_le_pow_right (n := 2) (by decide) (by omega)
  rw [show (2 : Nat) ^ 31 = 2147483648 by decide] at hps
  repeat (first | refine Ev.s ?_ | refine Ev.newC fun _ _ _ => ?_ | refine Ev.boxC fun _ _ _ => ?_ | refine Ev.stC fun _ _ => ?_ | refine Ev.sc (by omega) ?_ | refine Ev.scg (by omega) ?_)
  rw [Nat.mod_eq_of_lt (show c < 4294967296 by omega)]
  refine hA2.push (by omega) fun v3 B3 H3 hm3 hA3 => ?_
  obtain ⟨B4, hm4, hr4, hS4⟩ := hA3.freeze (small_snoc hsm (by omega))
  refine Ev.callD (rTrim_spec (xs := ds ++ [c]) (by simp; omega)) fun v B5 H5 hm5 hS5 h5 => ?_
  rw [val_snoc, hl, hv] at h5
  refine Ev.doneC ⟨v, rfl, ?_⟩
  have e : 4294967296 ^ (n / 32) * (val xs * 2 ^ (n % 32)) = val xs * 2 ^ n := by
    have h1 : 2 ^ n = 4294967296 ^ (n / 32) * 2 ^ (n % 32) := by rw [← pow32]; congr 1; omega
    rw [h1, Nat.mul_left_comm]
  rw [← e]; exact h5
theorem rshr_loop {H0 B0 : AH} {L : List (Nat × Blk)} {xs : List Nat} {a : Value} {n q s : Nat} (hn : n = 32 * q + s) (hs : s < 32) (hn' : n < 9223372036854775808) (hlx : xs.length < 549755813888) (hq : q ≤ xs.length) :
    ∀ (m i : Nat) (ds : List Nat) (v : Value) (B H : AH), q + i + m = xs.length → RdN B a xs → AccW H0 B0 B L H v ds → small ds → ds.length = i → val ds = val (xs.drop q) / 2 ^ s % 4294967296 ^ i →
    Ev (fun k l => f57_L0 k a (i64 n) v (i64 (q + i)) l H) (fun o => ∃ B' H' v' ds, o = (.exit 0, f57_X_L0 v', H') ∧ Mo B B' ∧ AccW H0 B0 B' L H' v' ds ∧ small ds ∧ ds.length ≤ xs.length ∧ val ds = val (xs.drop q) / 2 ^ s) := by
  intro m
  induction m with
  | zero =>
    intro i ds v B H hi ha hA hsm hl hv
    refine Ev.succ (fun k l => f57_L0_succ k _ _ _ _ l H) ?_
    repeat (first | refine Ev.s ?_ | refine Ev.newC fun _ _ _ => ?_ | refine Ev.boxC fun _ _ _ => ?_ | refine Ev.stC fun _ _ => ?_ | refine Ev.sc (by omega) ?_ | refine Ev.scg (by omega) ?_)
    rw [decide_eq_false (by omega)]
    repeat (first | refine Ev.s ?_ | refine Ev.newC fun _ _ _ => ?_ | refine Ev.boxC fun _ _ _ => ?_ | refine Ev.stC fun _ _ => ?_ | refine Ev.sc (by omega) ?_ | refine Ev.scg (by omega) ?_)
    refine Ev.ret ⟨B, H, v, ds, rfl, Mo.refl B, hA, hsm, by omega, ?_⟩
    rw [hv, Nat.mod_eq_of_lt]
    have := val_lt (ha.sm.drop q)
    rw [List.length_drop, show xs.length - q = i by omega] at this
    exact Nat.lt_of_le_of_lt (Nat.div_le_self ..) this
  | succ m ih =>
    intro i ds v B H hi ha hA hsm hl hv
    refine Ev.succ (fun k l => f57_L0_succ k _ _ _ _ l H) ?_
    have hx := ha.sm.getD (q + i)
    have hx1 := ha.sm.getD (q + i + 1)
    repeat (first | refine Ev.s ?_ | refine Ev.newC fun _ _ _ => ?_ | refine Ev.boxC fun _ _ _ => ?_ | refine Ev.stC fun _ _ => ?_ | refine Ev.sc (by omega) ?_ | refine Ev.scg (by omega) ?_)
    rw [decide_eq_true (by omega)]
    repeat (first | refine Ev.s ?_ | refine Ev.newC fun _ _ _ => ?_ | refine Ev.boxC fun _ _ _ => ?_ | refine Ev.stC fun _ _ => ?_ | refine Ev.sc (by omega) ?_ | refine Ev.scg (by omega) ?_)
    refine Ev.callU (rat_spec (xs := xs) (by omega) hA.le) ?_
    rintro _ rfl
    repeat (first | refine Ev.s ?_ | refine Ev.newC fun _ _ _ => ?_ | refine Ev.boxC fun _ _ _ => ?_ | refine Ev.stC fun _ _ => ?_ | refine Ev.sc (by omega) ?_ | refine Ev.scg (by omega) ?_)
    refine Ev.callU (rat_spec (xs := xs) (by omega) hA.le) ?_
    rintro _ rfl
    refine Ev.prim (shlQL ⟨by decide, by omega⟩) ?_
    refine Ev.prim (orQ ⟨by omega, by omega⟩) ?_
    rw [or_add (by omega)]
    refine Ev.prim (remL (by decide)) ?_
    rw [show n % 32 = s by omega]
    refine Ev.prim (shrN (by show s < 64; omega)) ?_
    repeat (first | refine Ev.s ?_ | refine Ev.newC fun _ _ _ => ?_ | refine Ev.boxC fun _ _ _ => ?_ | refine Ev.stC fun _ _ => ?_ | refine Ev.sc (by omega) ?_ | refine Ev.scg (by omega) ?_)
    refine hA.push (by omega) fun v' B' H' hm hA' => ?_
    repeat (first | refine Ev.s ?_ | refine Ev.newC fun _ _ _ => ?_ | refine Ev.boxC fun _ _ _ => ?_ | refine Ev.stC fun _ _ => ?_ | refine Ev.sc (by omega) ?_ | refine Ev.scg (by omega) ?_)
    have hd := shr_digit (ha.sm.drop q) (s := s) (i := i) hs
    rw [List.getD_eq_getElem?_getD, List.getD_eq_getElem?_getD, List.getElem?_drop, List.getElem?_drop, ← List.getD_eq_getElem?_getD, ← List.getD_eq_getElem?_getD, ← Nat.add_assoc] at hd
    have hv' : val (ds ++ [(xs.getD (q + i) 0 + xs.getD (q + i + 1) 0 * 2 ^ 32) / 2 ^ s % 4294967296]) = val (xs.drop q) / 2 ^ s % 4294967296 ^ (i + 1) := by
      rw [val_snoc, hl, hd, hv, ← Nat.mod_pow_succ]
    refine (ih (i + 1) _ v' B' H' (by omega) (ha.mono hm.mo) hA' (small_snoc hsm (Nat.mod_lt _ (by decide))) (by simp [hl]) hv').mono ?_
    rintro o ⟨B2, H2, v2, ds2, h1, h2, h3⟩
    exact ⟨B2, H2, v2, ds2, h1, hm.mo.trans h2, h3⟩
theorem rShr_spec {B H : AH} {xs : List Nat} {a : Value} {n : Nat} (hm : xs.length < 137438953472) (hn : n < 9223372036854775808) [ha : RdT B a xs] (hL : Le B H) :
    Ev (fun k _ => rn k 57 [a, i64 n] H) (An B H fun B' v => RdN B' v (limbs (val xs / 2 ^ n))) := by
  refine Ev.fn (fun k => f57_eq k a _ H) ?_
  have hS := St.start hL
  have ha := ha.rd
  have h1 : 2 ^ n = 4294967296 ^ (n / 32) * 2 ^ (n % 32) := by rw [← pow32]; congr 1; omega
  repeat (first | refine Ev.s ?_ | refine Ev.newC fun _ _ _ => ?_ | refine Ev.boxC fun _ _ _ => ?_ | refine Ev.stC fun _ _ => ?_ | refine Ev.sc (by omega) ?_ | refine Ev.scg (by omega) ?_)
  rw [decide_eq_false (by omega)]
  repeat (first | refine Ev.s ?_ | refine Ev.newC fun _ _ _ => ?_ | refine Ev.boxC fun _ _ _ => ?_ | refine Ev.stC fun _ _ => ?_ | refine Ev.sc (by omega) ?_ | refine Ev.scg (by omega) ?_)
  by_cases h : xs.length ≤ n / 32
  · rw [decide_eq_true h]
    repeat (first | refine Ev.s ?_ | refine Ev.newC fun _ _ _ => ?_ | refine Ev.boxC fun _ _ _ => ?_ | refine Ev.stC fun _ _ => ?_ | refine Ev.sc (by omega) ?_ | refine Ev.scg (by omega) ?_)
    have e : val xs / 2 ^ n = 0 := by
      refine Nat.div_eq_of_lt (Nat.lt_of_lt_of_le (val_lt ha.sm) ?_)
      rw [h1]
      exact Nat.le_trans (Nat.pow_le_pow_right (by decide) h) (Nat.le_mul_of_pos_right _ (Nat.pow_pos (by decide)))
    exact Ev.doneC (by rw [e, limbs_zero]; exact RdN.nil)
  · rw [decide_eq_false h]
    repeat (first | refine Ev.s ?_ | refine Ev.newC fun _ _ _ => ?_ | refine Ev.boxC fun _ _ _ => ?_ | refine Ev.stC fun _ _ => ?_ | refine Ev.sc (by omega) ?_ | refine Ev.scg (by omega) ?_)
    refine Ev.bind (Ev.loop (rshr_loop (n := n) (q := n / 32) (s := n % 32) (by omega) (by omega) hn (by omega) (by omega) (xs.length - n / 32) 0 [] _ B H (by omega) ha (Acc.nil hS) small_nil rfl (by simp [val, Nat.mod_one]))) ?_
    rintro _ ⟨B2, H2, v2, ds, rfl, hm2, hA2, hsm, hl, hv⟩
    obtain ⟨B3, hm3, hr3, hS3⟩ := hA2.freeze hsm
    refine Ev.eq (fun k _ => f57_A0_x0 k _ _) ?_
    refine Ev.callD (rTrim_spec (xs := ds) (by omega)) fun v B4 H4 hm4 hS4 h4 => ?_
    have e : val (xs.drop (n / 32)) / 2 ^ (n % 32) = val xs / 2 ^ n := by
      rw [h1, ← Nat.div_div_eq_div_mul, (val_div_mod ha.sm (n / 32)).1]
    rw [hv, e] at h4
    exact Ev.doneC h4
end Go.AM.Z
set_option linter.unusedVariables false
set_option linter.unusedSimpArgs false
set_option maxRecDepth 100000
namespace Go.AM.Z
open Go Go.AM Go.Proofs
attribute [local irreducible] run bin un ld st box newV mkS fldA fld ixA ix slc slc3 build buildS cv cvS ap cpy lenV gOp pickV b2 aIf aChk evalK resume iterD Option.bind

theorem rmul_inner {H0 B0 B : AH} {xs ys : List Nat} {a b : Value} {bo i T : Nat} (ha : RdN B a xs) (hb : RdN B b ys) (hi : i < xs.length) (hlen : xs.length + ys.length < 549755813888) :
    ∀ (m j : Nat) (zs : List Nat) (c : Nat) (H : AH), j + m = ys.length → zs.length = xs.length + ys.length → small zs → c < 4294967296 →
    val (zs.take (i + ys.length)) + 4294967296 ^ (i + j) * c = T + 4294967296 ^ i * (xs.getD i 0 * val (ys.take j)) →
    St H0 B0 B [(bo, ⟨zs.map u32, 70, .fix⟩)] H →
    Ev (fun k n => f67_L1 k a b (sl bo 0 (xs.length + ys.length) (xs.length + ys.length)) (i64 i) (u64 c) (i64 j) n H)
      (fun o => ∃ zs c H, o = (.exit 2, f67_X_L1 a b (sl bo 0 (xs.length + ys.length) (xs.length + ys.length)) (i64 i) (u64 c), H) ∧ zs.length = xs.length + ys.length ∧ small zs ∧ c < 4294967296 ∧
        val (zs.take (i + ys.length)) + 4294967296 ^ (i + ys.length) * c = T + 4294967296 ^ i * (xs.getD i 0 * val ys) ∧ St H0 B0 B [(bo, ⟨zs.map u32, 70, .fix⟩)] H) := by
  intro m
  induction m with
  | zero =>
    intro j zs c H hj hz hsm hc hv hS
    refine Ev.succ (fun k n => f67_L1_succ k _ _ _ _ _ _ n H) ?_
    repeat (first | refine Ev.s ?_ | refine Ev.newC fun _ _ _ => ?_ | refine Ev.boxC fun _ _ _ => ?_ | refine Ev.stC fun _ _ => ?_ | refine Ev.sc (by omega) ?_ | refine Ev.scg (by omega) ?_)
    rw [decide_eq_false (by omega)]
    repeat (first | refine Ev.s ?_ | refine Ev.newC fun _ _ _ => ?_ | refine Ev.boxC fun _ _ _ => ?_ | refine Ev.stC fun _ _ => ?_ | refine Ev.sc (by omega) ?_ | refine Ev.scg (by omega) ?_)
    refine Ev.ret ⟨zs, c, H, rfl, hz, hsm, hc, ?_, hS⟩
    have : j = ys.length := by omega
    subst this
    rw [List.take_of_length_le (Nat.le_refl _)] at hv
    exact hv
  | succ m ih =>
    intro j zs c H hj hz hsm hc hv hS
    refine Ev.succ (fun k n => f67_L1_succ k _ _ _ _ _ _ n H) ?_
    have hx := ha.sm.getD i
    have hy := hb.sm.getD j
    have ho := hsm.getD (i + j)
    have hxy : xs.getD i 0 * ys.getD j 0 ≤ 4294967295 * 4294967295 := Nat.mul_le_mul (by omega) (by omega)
    repeat (first | refine Ev.s ?_ | refine Ev.newC fun _ _ _ => ?_ | refine Ev.boxC fun _ _ _ => ?_ | refine Ev.stC fun _ _ => ?_ | refine Ev.sc (by omega) ?_ | refine Ev.scg (by omega) ?_)
    rw [decide_eq_true (by omega)]
    repeat (first | refine Ev.s ?_ | refine Ev.newC fun _ _ _ => ?_ | refine Ev.boxC fun _ _ _ => ?_ | refine Ev.stC fun _ _ => ?_ | refine Ev.sc (by omega) ?_ | refine Ev.scg (by omega) ?_)
    refine Ev.ixC i rfl (by omega) fun p hp => ?_
    repeat (first | refine Ev.s ?_ | refine Ev.newC fun _ _ _ => ?_ | refine Ev.boxC fun _ _ _ => ?_ | refine Ev.stC fun _ _ => ?_ | refine Ev.sc (by omega) ?_ | refine Ev.scg (by omega) ?_)
    refine Ev.ixC j rfl (by omega) fun p hp => ?_
    repeat (first | refine Ev.s ?_ | refine Ev.newC fun _ _ _ => ?_ | refine Ev.boxC fun _ _ _ => ?_ | refine Ev.stC fun _ _ => ?_ | refine Ev.sc (by omega) ?_ | refine Ev.scg (by omega) ?_)
    refine Ev.ldW Ew hS (by (first | exact .head _ | exact .tail _ (.head _) | exact .tail _ (.tail _ (.head _)) | exact .tail _ (.tail _ (.tail _ (.head _))) | exact .tail _ (.tail _ (.tail _ (.tail _ (.head _)))))) (j := i + j) (by omega) (by omega) ?_
    refine Ev.prim (toU64 (by omega) Uw Uq) ?_
    generalize hw : ys.getD j 0 = y at *
    generalize hx2 : xs.getD i 0 = x at *
    generalize hp : x * y = q at *
    refine Ev.prim (addQ (by omega)) ?_
    refine Ev.prim (addQ (by omega)) ?_
    refine Ev.prim (addN (by omega)) ?_
    refine Ev.prim (toU32 Uq Uw) ?_
    refine Ev.prim (ixA_own Ew (by omega)) ?_
    refine Ev.stW Ew hS (by (first | exact .head _ | exact .tail _ (.head _) | exact .tail _ (.tail _ (.head _)) | exact .tail _ (.tail _ (.tail _ (.head _))) | exact .tail _ (.tail _ (.tail _ (.tail _ (.head _)))))) (j := i + j) (by omega) (by omega) rfl (by simp) (.head _) fun H' hS' => ?_
    refine Ev.prim (shrN (b := 32) (by decide)) ?_
    refine Ev.prim (addL (by omega)) ?_
    refine ih (j + 1) _ _ H' (by omega) (by simp [hz]) (hsm.set _ (Nat.mod_lt _ (by decide))) (by omega) ?_ hS'
    have e1 := val_set (zs := zs.take (i + ys.length)) (j := i + j) (w := (q + zs.getD (i + j) 0 + c) % 4294967296) (by rw [List.length_take]; omega)
    rw [getD_take (by omega)] at e1
    rw [List.take_set, val_take_succ', hw, Nat.mul_add x, Nat.mul_left_comm x, hp, Nat.mul_add (4294967296 ^ i), ← Nat.mul_assoc (4294967296 ^ i) (4294967296 ^ j), ← Nat.pow_add]
    have e2 : (q + zs.getD (i + j) 0 + c) % 4294967296 + 4294967296 * ((q + zs.getD (i + j) 0 + c) / 2 ^ 32) = q + zs.getD (i + j) 0 + c := by omega
    generalize (q + zs.getD (i + j) 0 + c) % 4294967296 = w at *
    generalize (q + zs.getD (i + j) 0 + c) / 2 ^ 32 = c' at *
    generalize zs.getD (i + j) 0 = o at *
    rw [show i + (j + 1) = i + j + 1 by omega, Nat.pow_succ, Nat.mul_assoc]
    have e3 := congrArg (4294967296 ^ (i + j) * ·) e2
    simp only [Nat.mul_add] at e3
    omega
theorem rmul_loop {H0 B0 B : AH} {xs ys : List Nat} {a b : Value} {bo : Nat} (ha : RdN B a xs) (hb : RdN B b ys) (hlen : xs.length + ys.length < 549755813888) :
    ∀ (m i : Nat) (zs : List Nat) (H : AH), i + m = xs.length → zs.length = xs.length + ys.length → small zs → val (zs.take (i + ys.length)) = val (xs.take i) * val ys →
    St H0 B0 B [(bo, ⟨zs.map u32, 70, .fix⟩)] H →
    Ev (fun k n => f67_L0 k a b (sl bo 0 (xs.length + ys.length) (xs.length + ys.length)) (i64 i) n H)
      (fun o => ∃ zs H, o = (.exit 0, f67_X_L0 (sl bo 0 (xs.length + ys.length) (xs.length + ys.length)), H) ∧ zs.length = xs.length + ys.length ∧ small zs ∧ val zs = val xs * val ys ∧
        St H0 B0 B [(bo, ⟨zs.map u32, 70, .fix⟩)] H) := by
  intro m
  induction m with
  | zero =>
    intro i zs H hi hz hsm hv hS
    refine Ev.succ (fun k n => f67_L0_succ k _ _ _ _ n H) ?_
    repeat (first | refine Ev.s ?_ | refine Ev.newC fun _ _ _ => ?_ | refine Ev.boxC fun _ _ _ => ?_ | refine Ev.stC fun _ _ => ?_ | refine Ev.sc (by omega) ?_ | refine Ev.scg (by omega) ?_)
    rw [decide_eq_false (by omega)]
    repeat (first | refine Ev.s ?_ | refine Ev.newC fun _ _ _ => ?_ | refine Ev.boxC fun _ _ _ => ?_ | refine Ev.stC fun _ _ => ?_ | refine Ev.sc (by omega) ?_ | refine Ev.scg (by omega) ?_)
    refine Ev.ret ⟨zs, H, rfl, hz, hsm, ?_, hS⟩
    have : i = xs.length := by omega
    subst this
    rw [List.take_of_length_le (by omega), List.take_of_length_le (Nat.le_refl _)] at hv
    exact hv
  | succ m ih =>
    intro i zs H hi hz hsm hv hS
    refine Ev.succ (fun k n => f67_L0_succ k _ _ _ _ n H) ?_
    repeat (first | refine Ev.s ?_ | refine Ev.newC fun _ _ _ => ?_ | refine Ev.boxC fun _ _ _ => ?_ | refine Ev.stC fun _ _ => ?_ | refine Ev.sc (by omega) ?_ | refine Ev.scg (by omega) ?_)
    rw [decide_eq_true (by omega)]
    repeat (first | refine Ev.s ?_ | refine Ev.newC fun _ _ _ => ?_ | refine Ev.boxC fun _ _ _ => ?_ | refine Ev.stC fun _ _ => ?_ | refine Ev.sc (by omega) ?_ | refine Ev.scg (by omega) ?_)
    refine Ev.bind (Ev.loop (rmul_inner (T := val (xs.take i) * val ys) ha hb (by omega) hlen ys.length 0 zs 0 H (by omega) hz hsm (by decide) (by simp [val, hv]) hS)) ?_
    rintro _ ⟨zs, c, H1, rfl, hz, hsm, hc, hv1, hS1⟩
    refine Ev.eq (fun k n => f67_A1_x2 k n _ _ _ _ _ H1) ?_
    refine Ev.prim (hb.lenN Ew) ?_
    refine Ev.prim (addN (by omega)) ?_
    refine Ev.prim (toU32 Uq Uw) ?_
    rw [Nat.mod_eq_of_lt hc]
    refine Ev.prim (ixA_own Ew (by omega)) ?_
    refine Ev.stW Ew hS1 (by (first | exact .head _ | exact .tail _ (.head _) | exact .tail _ (.tail _ (.head _)) | exact .tail _ (.tail _ (.tail _ (.head _))) | exact .tail _ (.tail _ (.tail _ (.tail _ (.head _)))))) (j := i + ys.length) (by omega) (by omega) rfl (by simp) (.head _) fun H' hS' => ?_
    refine Ev.prim (addL (by omega)) ?_
    refine ih (i + 1) _ H' (by omega) (by simp [hz]) (hsm.set _ hc) ?_ hS'
    rw [show i + 1 + ys.length = i + ys.length + 1 by omega, val_take_set (by omega), hv1, val_take_succ', Nat.add_mul, Nat.mul_assoc]
theorem rMul_spec {B H : AH} {xs ys : List Nat} {a b : Value} (hm : xs.length < 137438953472) (hm' : ys.length < 137438953472) [ha : RdT B a xs] [hb : RdT B b ys] (hL : Le B H) :
    Ev (fun k _ => rn k 67 [a, b] H) (An B H fun B' v => RdN B' v (limbs (val xs * val ys))) := by
  refine Ev.fn (fun k => f67_eq k _ _ H) ?_
  have hS := St.start hL
  have ha := ha.rd
  have hb := hb.rd
  repeat (first | refine Ev.s ?_ | refine Ev.newC fun _ _ _ => ?_ | refine Ev.boxC fun _ _ _ => ?_ | refine Ev.stC fun _ _ => ?_ | refine Ev.sc (by omega) ?_ | refine Ev.scg (by omega) ?_)
  refine Ev.mkS Ew hS (by omega) (by omega) fun bo B1 H1 hm1 hS1 => ?_
  rw [map_replicate] at hS1
  refine Ev.bind (Ev.loop (rmul_loop (ha.mono hm1) (hb.mono hm1) (by omega) xs.length 0 (List.replicate (xs.length + ys.length) 0) H1 (by omega) (by simp) (small_replicate _) (by simp [val, val_replicate]) hS1)) ?_
  rintro _ ⟨zs, H2, rfl, hz, hsm, hv, hS2⟩
  refine Ev.eq (fun k _ => f67_A0_x0 k _ H2) ?_
  obtain ⟨B4, hm4, hr4, hS4⟩ := hS2.freezeN (n := xs.length + ys.length) (cap := xs.length + ys.length) hsm hz.symm (by omega)
  refine Ev.callD (rTrim_spec (xs := zs) (by omega)) fun v B5 H5 hm5 hS5 h5 => ?_
  rw [hv] at h5
  exact Ev.doneC h5
end Go.AM.Z
set_option linter.unusedVariables false
set_option linter.unusedSimpArgs false
set_option maxRecDepth 100000
namespace Go.AM.Z
open Go Go.AM Go.Proofs
attribute [local irreducible] run bin un ld st box newV mkS fldA fld ixA ix slc slc3 build buildS cv cvS ap cpy lenV gOp pickV b2 aIf aChk evalK resume iterD Option.bind

theorem rMake_spec {B H : AH} {xs : List Nat} {m : Value} {neg : Bool} (hm : xs.length < 274877906944) [ha : RdT B m xs] (hL : Le B H) :
    Ev (fun k _ => rn k 39 [.bool neg, m] H) (An B H fun B' v => IntV B' v (sg neg (val xs))) := by
  refine Ev.fn (fun k => f39_eq k _ _ H) ?_
  have hS := St.start hL
  repeat (first | refine Ev.s ?_ | refine Ev.newC fun _ _ _ => ?_ | refine Ev.boxC fun _ _ _ => ?_ | refine Ev.stC fun _ _ => ?_ | refine Ev.sc (by omega) ?_ | refine Ev.scg (by omega) ?_)
  refine Ev.callD (rTrim_spec (xs := xs) (by omega)) fun v1 B1 H1 hm1 hS1 h1 => ?_
  have hneg : neg = false ∨ neg = true := by cases neg <;> simp
  have key : ∀ c : Bool, c = decide (sg neg (val xs) < 0) → IntV B1 (.agg #[.bool c, v1]) (sg neg (val xs)) := by
    intro c hc
    exact ⟨v1, by rw [hc], by rw [sg_abs]; exact h1⟩
  rcases hneg with rfl | rfl
  · repeat (first | refine Ev.s ?_ | refine Ev.newC fun _ _ _ => ?_ | refine Ev.boxC fun _ _ _ => ?_ | refine Ev.stC fun _ _ => ?_ | refine Ev.sc (by omega) ?_ | refine Ev.scg (by omega) ?_)
    exact Ev.doneC (key false (by rw [← sg_neg]; rfl))
  · repeat (first | refine Ev.s ?_ | refine Ev.newC fun _ _ _ => ?_ | refine Ev.boxC fun _ _ _ => ?_ | refine Ev.stC fun _ _ => ?_ | refine Ev.sc (by omega) ?_ | refine Ev.scg (by omega) ?_)
    refine Ev.doneC (key _ ?_)
    rw [← sg_neg, Bool.true_and]
    exact decide_eq_decide.mpr (by rw [Nat.pos_iff_ne_zero, ne_eq, List.length_eq_zero_iff, limbs_eq_nil])
theorem rRight_spec {B H : AH} {xs : List Nat} {m : Value} {neg : Bool} (hm : xs.length < 9223372036854775808) [ha : RdT B m xs] (hL : Le B H) :
    Ev (fun k _ => rn k 42 [.agg #[.bool neg, m]] H) (An B H fun _ v => v = .bool (rightI neg xs)) := by
  refine Ev.fn (fun k => f42_eq k _ H) ?_
  have hS := St.start hL
  have ha := ha.rd
  unfold rightI
  repeat (first | refine Ev.s ?_ | refine Ev.newC fun _ _ _ => ?_ | refine Ev.boxC fun _ _ _ => ?_ | refine Ev.stC fun _ _ => ?_ | refine Ev.sc (by omega) ?_ | refine Ev.scg (by omega) ?_)
  by_cases h : xs.length = 0
  · rw [decide_eq_true h, if_pos h]
    repeat (first | refine Ev.s ?_ | refine Ev.newC fun _ _ _ => ?_ | refine Ev.boxC fun _ _ _ => ?_ | refine Ev.stC fun _ _ => ?_ | refine Ev.sc (by omega) ?_ | refine Ev.scg (by omega) ?_)
    cases neg with
    | true =>
      rw [Bool.not_true]
      repeat (first | refine Ev.s ?_ | refine Ev.newC fun _ _ _ => ?_ | refine Ev.boxC fun _ _ _ => ?_ | refine Ev.stC fun _ _ => ?_ | refine Ev.sc (by omega) ?_ | refine Ev.scg (by omega) ?_)
      rw [decide_eq_false (by omega)]
      repeat (first | refine Ev.s ?_ | refine Ev.newC fun _ _ _ => ?_ | refine Ev.boxC fun _ _ _ => ?_ | refine Ev.stC fun _ _ => ?_ | refine Ev.sc (by omega) ?_ | refine Ev.scg (by omega) ?_)
      exact Ev.doneC rfl
    | false =>
      rw [Bool.not_false]
      repeat (first | refine Ev.s ?_ | refine Ev.newC fun _ _ _ => ?_ | refine Ev.boxC fun _ _ _ => ?_ | refine Ev.stC fun _ _ => ?_ | refine Ev.sc (by omega) ?_ | refine Ev.scg (by omega) ?_)
      exact Ev.doneC rfl
  · rw [decide_eq_false h, if_neg h]
    repeat (first | refine Ev.s ?_ | refine Ev.newC fun _ _ _ => ?_ | refine Ev.boxC fun _ _ _ => ?_ | refine Ev.stC fun _ _ => ?_ | refine Ev.sc (by omega) ?_ | refine Ev.scg (by omega) ?_)
    rw [decide_eq_true (by omega)]
    repeat (first | refine Ev.s ?_ | refine Ev.newC fun _ _ _ => ?_ | refine Ev.boxC fun _ _ _ => ?_ | refine Ev.stC fun _ _ => ?_ | refine Ev.sc (by omega) ?_ | refine Ev.scg (by omega) ?_)
    refine Ev.ixCg (xs.length - 1) rfl (by omega) fun p hp => ?_
    repeat (first | refine Ev.s ?_ | refine Ev.newC fun _ _ _ => ?_ | refine Ev.boxC fun _ _ _ => ?_ | refine Ev.stC fun _ _ => ?_ | refine Ev.sc (by omega) ?_ | refine Ev.scg (by omega) ?_)
    exact Ev.doneC rfl
end Go.AM.Z
namespace Go.AM
def fq (X Y : Int) : Int := if 0 < Y then X / Y else (-X) / (-Y)
def fr (X Y : Int) : Int := if 0 < Y then X % Y else -((-X) % (-Y))
def FlD (X Y q r : Int) : Prop := X = q * Y + r ∧ (0 ≤ r ∧ r < Y ∨ Y < r ∧ r ≤ 0)
theorem FlD.uniq {X Y q r : Int} (h : FlD X Y q r) : q = fq X Y ∧ r = fr X Y := by
  obtain ⟨h1, h2⟩ := h
  unfold fq fr
  rcases h2 with ⟨h2, h3⟩ | ⟨h2, h3⟩
  · rw [if_pos (by omega), if_pos (by omega)]
    have := (Int.ediv_emod_unique (a := X) (b := Y) (r := r) (q := q) (by omega)).mpr ⟨by rw [h1, Int.mul_comm]; omega, h2, h3⟩
    exact ⟨this.1.symm, this.2.symm⟩
  · rw [if_neg (by omega), if_neg (by omega)]
    have := (Int.ediv_emod_unique (a := -X) (b := -Y) (r := -r) (q := q) (by omega)).mpr ⟨by rw [h1, Int.neg_mul, Int.mul_comm]; omega, by omega, by omega⟩
    exact ⟨this.1.symm, by rw [this.2]; omega⟩
theorem fq_fr {X Y : Int} (hY : Y ≠ 0) : FlD X Y (fq X Y) (fr X Y) := by
  unfold FlD fq fr
  by_cases h : 0 < Y
  · rw [if_pos h, if_pos h]
    have h1 := Int.emod_nonneg X hY
    have h2 := Int.emod_lt_of_pos X h
    have h3 := Int.emod_add_mul_ediv X Y
    exact ⟨by rw [Int.mul_comm]; omega, .inl ⟨h1, h2⟩⟩
  · rw [if_neg h, if_neg h]
    have h1 := Int.emod_nonneg (-X) (b := -Y) (by omega)
    have h2 := Int.emod_lt_of_pos (-X) (b := -Y) (by omega)
    have h3 := Int.emod_add_mul_ediv (-X) (-Y)
    refine ⟨?_, .inr ⟨by omega, by omega⟩⟩
    rw [Int.neg_mul, Int.mul_comm] at h3
    generalize -X / -Y * Y = p at *
    omega
/-- Out of the sizes' quotient and rest. -/
theorem fl_same {a b : Bool} {x y : Nat} (hy : y ≠ 0) (h : ¬ (x % y ≠ 0 ∧ (a && decide (x ≠ 0)) ≠ b)) (hb : (b && decide (y ≠ 0)) = b) : FlD (sg a x) (sg b y) (sg ((a && decide (x ≠ 0)) != b) (x / y)) (sg (a && decide (x ≠ 0)) (x % y)) := by
  have h1 := Nat.mod_add_div x y
  have h2 := Nat.mod_lt x (Nat.pos_of_ne_zero hy)
  have e : sg a x = sg (a && decide (x ≠ 0)) x := sg_norm.symm
  rw [e]
  generalize (a && decide (x ≠ 0)) = c at *
  have hm : (x : Int) = ((x % y : Nat) : Int) + (y : Int) * ((x / y : Nat) : Int) := by rw [← Int.natCast_mul, ← Int.natCast_add, h1]
  rw [Int.mul_comm] at hm
  clear h1
  generalize x % y = r at *
  generalize x / y = q at *
  by_cases hc : c = b
  · subst hc
    have : (c != c) = false := by cases c <;> rfl
    rw [this]
    refine ⟨?_, ?_⟩
    · cases c <;> simp [sg, Int.neg_mul, Int.mul_neg] at * <;> omega
    · cases c <;> simp [sg] at * <;> omega
  · have hr : r = 0 := by
      by_cases hr : r = 0
      · exact hr
      · exact absurd ⟨hr, hc⟩ h
    subst hr
    refine ⟨?_, ?_⟩
    · cases c <;> cases b <;> simp [sg, Int.neg_mul, Int.mul_neg] at * <;> omega
    · cases c <;> cases b <;> simp [sg] at * <;> omega
theorem fl_diff {a b : Bool} {x y : Nat} (hy : y ≠ 0) (h : x % y ≠ 0 ∧ (a && decide (x ≠ 0)) ≠ b) : FlD (sg a x) (sg b y) (sg ((a && decide (x ≠ 0)) != b) (x / y) - 1) (sg (a && decide (x ≠ 0)) (x % y) + sg b y) := by
  have h1 := Nat.mod_add_div x y
  have h2 := Nat.mod_lt x (Nat.pos_of_ne_zero hy)
  have e : sg a x = sg (a && decide (x ≠ 0)) x := sg_norm.symm
  rw [e]
  generalize (a && decide (x ≠ 0)) = c at *
  have hm : (x : Int) = ((x % y : Nat) : Int) + (y : Int) * ((x / y : Nat) : Int) := by rw [← Int.natCast_mul, ← Int.natCast_add, h1]
  rw [Int.mul_comm] at hm
  obtain ⟨hr, hc⟩ := h
  clear h1
  generalize x % y = r at *
  generalize x / y = q at *
  refine ⟨?_, ?_⟩
  · rw [Int.sub_mul]
    cases c <;> cases b <;> simp [sg, Int.neg_mul, Int.mul_neg] at * <;> omega
  · cases c <;> cases b <;> simp [sg] at * <;> omega
end Go.AM
set_option linter.unusedVariables false
set_option linter.unusedSimpArgs false
set_option maxRecDepth 100000
namespace Go.AM.Z
open Go Go.AM Go.Proofs
attribute [local irreducible] run bin un ld st box newV mkS fldA fld ixA ix slc slc3 build buildS cv cvS ap cpy lenV gOp pickV b2 aIf aChk evalK resume iterD Option.bind

theorem zSub_spec {B H : AH} {xs ys : List Nat} {m1 m2 : Value} {n1 n2 : Bool} (hm1 : xs.length < 137438953472) (hm2 : ys.length < 137438953472) [ha : RdT B m1 xs] [hb : RdT B m2 ys] (hL : Le B H) :
    Ev (fun k _ => rn k 15 [.agg #[.bool n1, m1], .agg #[.bool n2, m2]] H) (An B H fun B' v => IntV B' v (sg n1 (val xs) - sg n2 (val ys))) := by
  refine Ev.fn (fun k => f15_eq k _ _ H) ?_
  have hS := St.start hL
  have ha := ha.rd
  have hb := hb.rd
  repeat (first | refine Ev.s ?_ | refine Ev.newC fun _ _ _ => ?_ | refine Ev.boxC fun _ _ _ => ?_ | refine Ev.stC fun _ _ => ?_ | refine Ev.sc (by omega) ?_ | refine Ev.scg (by omega) ?_)
  refine Ev.callD (Neg_spec (by omega) RdT.rd) fun v3 B3 H3 hm3 hS3 h3 => ?_
  obtain ⟨w, rfl, hw⟩ := h3
  have hl : (limbs (sg (!n2) (val ys)).natAbs).length < 137438953472 := by
    rw [sg_abs]
    have := limbs_length_le (val_lt hb.2)
    omega
  repeat (first | refine Ev.s ?_ | refine Ev.newC fun _ _ _ => ?_ | refine Ev.boxC fun _ _ _ => ?_ | refine Ev.stC fun _ _ => ?_ | refine Ev.sc (by omega) ?_ | refine Ev.scg (by omega) ?_)
  refine Ev.callD (zAdd_spec (xs := xs) (by omega) hl RdT.rd RdT.rd) fun v4 B4 H4 hm4 hS4 h4 => ?_
  rw [val_limbs, sg_int] at h4
  have e : sg n1 (val xs) + sg (!n2) (val ys) = sg n1 (val xs) - sg n2 (val ys) := by cases n2 <;> simp [sg] <;> omega
  rw [e] at h4
  generalize sg n1 (val xs) - sg n2 (val ys) = Z at *
  obtain ⟨w4, rfl, hw4⟩ := h4
  repeat (first | refine Ev.s ?_ | refine Ev.newC fun _ _ _ => ?_ | refine Ev.boxC fun _ _ _ => ?_ | refine Ev.stC fun _ _ => ?_ | refine Ev.sc (by omega) ?_ | refine Ev.scg (by omega) ?_)
  exact Ev.doneC ⟨w4, rfl, hw4⟩
end Go.AM.Z
set_option linter.unusedVariables false
set_option linter.unusedSimpArgs false
set_option maxRecDepth 100000
namespace Go.AM.Z
open Go Go.AM Go.Proofs
attribute [local irreducible] run bin un ld st box newV mkS fldA fld ixA ix slc slc3 build buildS cv cvS ap cpy lenV gOp pickV b2 aIf aChk evalK resume iterD Option.bind

theorem IntV.get {B : AH} {v : Value} {z : Int} (h : IntV B v z) : ∃ m, v = .agg #[.bool (decide (z < 0)), m] ∧ RdN B m (limbs z.natAbs) := h
theorem fl_len {X Y q r : Int} (h : FlD X Y q r) : (limbs q.natAbs).length ≤ (limbs X.natAbs).length + 1 ∧ (limbs r.natAbs).length ≤ (limbs Y.natAbs).length := by
  obtain ⟨h1, h2⟩ := h
  have e1 : q.natAbs ≤ X.natAbs + 1 := by
    have hr : r.natAbs < Y.natAbs := by omega
    have e : (q * Y).natAbs = q.natAbs * Y.natAbs := Int.natAbs_mul q Y
    have e2 : (q * Y).natAbs ≤ X.natAbs + r.natAbs := by omega
    rw [e] at e2
    by_cases hq : q.natAbs ≤ X.natAbs + 1
    · exact hq
    · have : (X.natAbs + 2) * Y.natAbs ≤ q.natAbs * Y.natAbs := Nat.mul_le_mul_right _ (by omega)
      have e3 : X.natAbs * 1 ≤ X.natAbs * Y.natAbs := Nat.mul_le_mul_left _ (by omega)
      rw [Nat.add_mul] at this
      omega
  refine ⟨?_, limbs_length_mono (by omega)⟩
  refine Nat.le_trans (limbs_length_mono e1) ?_
  refine limbs_length_le ?_
  have := val_lt (small_limbs X.natAbs)
  rw [val_limbs] at this
  rw [Nat.pow_succ]
  have hp : 0 < 4294967296 ^ (limbs X.natAbs).length := Nat.pow_pos (by decide)
  omega
theorem zDiv_spec {B H : AH} {xs ys : List Nat} {m1 m2 : Value} {n1 n2 : Bool} (hm1 : xs.length < 34359738368) (hm2 : ys.length < 34359738368) (hy : val ys ≠ 0) [ha : RdT B m1 xs] [hb : RdT B m2 ys] (hL : Le B H) :
    Ev (fun k _ => rn k 19 [.agg #[.bool n1, m1], .agg #[.bool n2, m2]] H) (An B H fun B' v => ∃ a b, v = .tuple #[a, b, .bool true] ∧ IntV B' a (fq (sg n1 (val xs)) (sg n2 (val ys))) ∧ IntV B' b (fr (sg n1 (val xs)) (sg n2 (val ys)))) := by
  refine Ev.fn (fun k => f19_eq k _ _ H) ?_
  have hS := St.start hL
  have ha := ha.rd
  have hb := hb.rd
  have hlx := limbs_length_le (val_lt ha.sm)
  have hly := limbs_length_le (val_lt hb.sm)
  have hb2 : ∀ b : Bool, (b && decide (val ys ≠ 0)) = b := fun b => by rw [decide_eq_true hy]; cases b <;> rfl
  repeat (first | refine Ev.s ?_ | refine Ev.newC fun _ _ _ => ?_ | refine Ev.boxC fun _ _ _ => ?_ | refine Ev.stC fun _ _ => ?_ | refine Ev.sc (by omega) ?_ | refine Ev.scg (by omega) ?_)
  refine Ev.callD (of_spec (xs := xs) (by omega) RdT.rd) fun v3 B3 H3 hm3 hS3 h3 => ?_
  obtain ⟨w3, rfl, hw3⟩ := h3
  repeat (first | refine Ev.s ?_ | refine Ev.newC fun _ _ _ => ?_ | refine Ev.boxC fun _ _ _ => ?_ | refine Ev.stC fun _ _ => ?_ | refine Ev.sc (by omega) ?_ | refine Ev.scg (by omega) ?_)
  refine Ev.callD (of_spec (xs := ys) (by omega) RdT.rd) fun v4 B4 H4 hm4 hS4 h4 => ?_
  obtain ⟨w4, rfl, hw4⟩ := h4
  rw [hb2] at *
  repeat (first | refine Ev.s ?_ | refine Ev.newC fun _ _ _ => ?_ | refine Ev.boxC fun _ _ _ => ?_ | refine Ev.stC fun _ _ => ?_ | refine Ev.sc (by omega) ?_ | refine Ev.scg (by omega) ?_)
  refine Ev.callD (DivMod_spec (xs := limbs (val xs)) (ys := limbs (val ys)) RdT.rd RdT.rd (by omega) (by omega) (by rw [val_limbs]; exact hy)) fun v5 B5 H5 hm5 hS5 h5 => ?_
  obtain ⟨q, r, rfl, hq, hr⟩ := h5
  rw [val_limbs, val_limbs] at hq hr
  have hlq := limbs_length_mono (Nat.div_le_self (val xs) (val ys))
  have hlr := limbs_length_mono (Nat.le_of_lt (Nat.mod_lt (val xs) (Nat.pos_of_ne_zero hy)))
  have hsame : ¬ (val xs % val ys ≠ 0 ∧ (n1 && decide (val xs ≠ 0)) ≠ n2) → FlD (sg n1 (val xs)) (sg n2 (val ys)) (sg ((n1 && decide (val xs ≠ 0)) != n2) (val xs / val ys)) (sg (n1 && decide (val xs ≠ 0)) (val xs % val ys)) := fun h => fl_same hy h (hb2 n2)
  have hdiff : (val xs % val ys ≠ 0 ∧ (n1 && decide (val xs ≠ 0)) ≠ n2) → FlD (sg n1 (val xs)) (sg n2 (val ys)) (sg ((n1 && decide (val xs ≠ 0)) != n2) (val xs / val ys) - 1) (sg (n1 && decide (val xs ≠ 0)) (val xs % val ys) + sg n2 (val ys)) := fl_diff hy
  generalize (n1 && decide (val xs ≠ 0)) = c1 at *
  have hY : sg n2 (val ys) ≠ 0 := by cases n2 <;> simp [sg] <;> omega
  have hYn : (sg n2 (val ys)).natAbs = val ys := sg_abs
  generalize sg n1 (val xs) = X at *
  generalize hYY : sg n2 (val ys) = Y at *
  repeat (first | refine Ev.s ?_ | refine Ev.newC fun _ _ _ => ?_ | refine Ev.boxC fun _ _ _ => ?_ | refine Ev.stC fun _ _ => ?_ | refine Ev.sc (by omega) ?_ | refine Ev.scg (by omega) ?_)
  refine Ev.callD (Make_spec (xs := limbs (val xs / val ys)) (by omega) RdT.rd) fun v6 B6 H6 hm6 hS6 h6 => ?_
  rw [val_limbs] at h6
  repeat (first | refine Ev.s ?_ | refine Ev.newC fun _ _ _ => ?_ | refine Ev.boxC fun _ _ _ => ?_ | refine Ev.stC fun _ _ => ?_ | refine Ev.sc (by omega) ?_ | refine Ev.scg (by omega) ?_)
  refine Ev.callD (Make_spec (xs := limbs (val xs % val ys)) (by omega) RdT.rd) fun v7 B7 H7 hm7 hS7 h7 => ?_
  rw [val_limbs] at h7
  have l6 : (limbs (sg (c1 != n2) (val xs / val ys)).natAbs).length ≤ xs.length := by rw [sg_abs]; omega
  have l7 : (limbs (sg c1 (val xs % val ys)).natAbs).length ≤ ys.length := by rw [sg_abs]; omega
  have hn0 : 0 < (limbs (val xs % val ys)).length ↔ val xs % val ys ≠ 0 := by
    rw [Nat.pos_iff_ne_zero, ne_eq, List.length_eq_zero_iff, limbs_eq_nil]
  rw [← hn0] at hsame hdiff
  generalize sg (c1 != n2) (val xs / val ys) = Q at *
  generalize sg c1 (val xs % val ys) = R at *
  obtain ⟨w6, rfl, hw6⟩ := h6
  obtain ⟨w7, rfl, hw7⟩ := h7
  have hw6 := hw6.mono hm7.mo
  repeat (first | refine Ev.s ?_ | refine Ev.newC fun _ _ _ => ?_ | refine Ev.boxC fun _ _ _ => ?_ | refine Ev.stC fun _ _ => ?_ | refine Ev.sc (by omega) ?_ | refine Ev.scg (by omega) ?_)
  by_cases h0 : 0 < (limbs (val xs % val ys)).length
  · rw [decide_eq_true h0]
    repeat (first | refine Ev.s ?_ | refine Ev.newC fun _ _ _ => ?_ | refine Ev.boxC fun _ _ _ => ?_ | refine Ev.stC fun _ _ => ?_ | refine Ev.sc (by omega) ?_ | refine Ev.scg (by omega) ?_)
    by_cases h1 : c1 = n2
    · subst h1
      have e : (c1 != c1) = false := by cases c1 <;> rfl
      rw [e]
      repeat (first | refine Ev.s ?_ | refine Ev.newC fun _ _ _ => ?_ | refine Ev.boxC fun _ _ _ => ?_ | refine Ev.stC fun _ _ => ?_ | refine Ev.sc (by omega) ?_ | refine Ev.scg (by omega) ?_)
      refine Ev.eq (fun k _ => f19_J0_eq k _ _ _) ?_
      repeat (first | refine Ev.s ?_ | refine Ev.newC fun _ _ _ => ?_ | refine Ev.boxC fun _ _ _ => ?_ | refine Ev.stC fun _ _ => ?_ | refine Ev.sc (by omega) ?_ | refine Ev.scg (by omega) ?_)
      obtain ⟨e1, e2⟩ := (hsame fun hh => hh.2 rfl).uniq
      rw [← e1, ← e2]
      exact Ev.doneC ⟨_, _, rfl, ⟨w6, rfl, hw6⟩, ⟨w7, rfl, hw7⟩⟩
    · have e : (c1 != n2) = true := by simpa using h1
      rw [e]
      obtain ⟨e1, e2⟩ := (hdiff ⟨h0, h1⟩).uniq
      rw [← e1, ← e2]
      repeat (first | refine Ev.s ?_ | refine Ev.newC fun _ _ _ => ?_ | refine Ev.boxC fun _ _ _ => ?_ | refine Ev.stC fun _ _ => ?_ | refine Ev.sc (by omega) ?_ | refine Ev.scg (by omega) ?_)
      refine Ev.callD (zFrom_spec (by omega)) fun v8 B8 H8 hm8 hS8 h8 => ?_
      obtain ⟨w8, rfl, hw8⟩ := h8
      have l1 : (limbs (1 : Int).natAbs).length < 137438953472 := Nat.lt_of_le_of_lt (limbs_length_le (k := 1) (by decide)) (by decide)
      repeat (first | refine Ev.s ?_ | refine Ev.newC fun _ _ _ => ?_ | refine Ev.boxC fun _ _ _ => ?_ | refine Ev.stC fun _ _ => ?_ | refine Ev.sc (by omega) ?_ | refine Ev.scg (by omega) ?_)
      refine Ev.callD (zSub_spec (xs := limbs Q.natAbs) (ys := limbs (1 : Int).natAbs) (by omega) l1) fun v9 B9 H9 hm9 hS9 h9 => ?_
      rw [val_limbs, val_limbs, sg_int, show sg (decide ((1 : Int) < 0)) (1 : Int).natAbs = 1 from sg_int 1] at h9
      generalize Q - 1 = Q1 at *
      obtain ⟨w9, rfl, hw9⟩ := h9
      repeat (first | refine Ev.s ?_ | refine Ev.newC fun _ _ _ => ?_ | refine Ev.boxC fun _ _ _ => ?_ | refine Ev.stC fun _ _ => ?_ | refine Ev.sc (by omega) ?_ | refine Ev.scg (by omega) ?_)
      refine Ev.callD (out_spec (n := val ys) (m := w4) (by omega) RdT.rd) fun v10 B10 H10 hm10 hS10 h10 => ?_
      subst h10
      repeat (first | refine Ev.s ?_ | refine Ev.newC fun _ _ _ => ?_ | refine Ev.boxC fun _ _ _ => ?_ | refine Ev.stC fun _ _ => ?_ | refine Ev.sc (by omega) ?_ | refine Ev.scg (by omega) ?_)
      refine Ev.callD (zAdd_spec (xs := limbs R.natAbs) (ys := limbs (val ys)) (by omega) (by omega) RdT.rd RdT.rd) fun v11 B11 H11 hm11 hS11 h11 => ?_
      rw [val_limbs, val_limbs, sg_int, hb2, hYY] at h11
      generalize R + Y = R1 at *
      obtain ⟨w11, rfl, hw11⟩ := h11
      have hw9 := (hw9.mono hm10.mo).mono hm11.mo
      repeat (first | refine Ev.s ?_ | refine Ev.newC fun _ _ _ => ?_ | refine Ev.boxC fun _ _ _ => ?_ | refine Ev.stC fun _ _ => ?_ | refine Ev.sc (by omega) ?_ | refine Ev.scg (by omega) ?_)
      refine Ev.eq (fun k _ => f19_J0_eq k _ _ _) ?_
      repeat (first | refine Ev.s ?_ | refine Ev.newC fun _ _ _ => ?_ | refine Ev.boxC fun _ _ _ => ?_ | refine Ev.stC fun _ _ => ?_ | refine Ev.sc (by omega) ?_ | refine Ev.scg (by omega) ?_)
      exact Ev.doneC ⟨_, _, rfl, ⟨w9, rfl, hw9⟩, ⟨w11, rfl, hw11⟩⟩
  · rw [decide_eq_false h0]
    repeat (first | refine Ev.s ?_ | refine Ev.newC fun _ _ _ => ?_ | refine Ev.boxC fun _ _ _ => ?_ | refine Ev.stC fun _ _ => ?_ | refine Ev.sc (by omega) ?_ | refine Ev.scg (by omega) ?_)
    refine Ev.eq (fun k _ => f19_J0_eq k _ _ _) ?_
    repeat (first | refine Ev.s ?_ | refine Ev.newC fun _ _ _ => ?_ | refine Ev.boxC fun _ _ _ => ?_ | refine Ev.stC fun _ _ => ?_ | refine Ev.sc (by omega) ?_ | refine Ev.scg (by omega) ?_)
    obtain ⟨e1, e2⟩ := (hsame fun hh => h0 hh.1).uniq
    rw [← e1, ← e2]
    exact Ev.doneC ⟨_, _, rfl, ⟨w6, rfl, hw6⟩, ⟨w7, rfl, hw7⟩⟩
end Go.AM.Z
set_option linter.unusedVariables false
set_option linter.unusedSimpArgs false
set_option maxRecDepth 100000
namespace Go.AM.Z
open Go Go.AM Go.Proofs
attribute [local irreducible] run bin un ld st box newV mkS fldA fld ixA ix slc slc3 build buildS cv cvS ap cpy lenV gOp pickV b2 aIf aChk evalK resume iterD Option.bind

def DyV (B : AH) (v : Value) (d : Dy) : Prop := ∃ m, v = .agg #[.bool d.neg, m, .int .i64 d.e] ∧ RdN B m d.mag
theorem DyV.mono {B B' : AH} {v : Value} {d : Dy} (hm : Mo B B') (h : DyV B v d) : DyV B' v d := h.elim fun m hh => ⟨m, hh.1, hh.2.mono hm⟩
end Go.AM.Z
set_option linter.unusedVariables false
set_option linter.unusedSimpArgs false
set_option maxRecDepth 100000
namespace Go.AM.Z
open Go Go.AM Go.Proofs
attribute [local irreducible] run bin un ld st box newV mkS fldA fld ixA ix slc slc3 build buildS cv cvS ap cpy lenV gOp pickV b2 aIf aChk evalK resume iterD Option.bind

end Go.AM.Z
set_option linter.unusedVariables false
set_option linter.unusedSimpArgs false
set_option maxRecDepth 100000
namespace Go.AM.Z
open Go Go.AM Go.Proofs
attribute [local irreducible] run bin un ld st box newV mkS fldA fld ixA ix slc slc3 build buildS cv cvS ap cpy lenV gOp pickV b2 aIf aChk evalK resume iterD Option.bind

def ResV (B : AH) (v : Value) (d : Dy) (c : Int) : Prop := ∃ x, v = .tuple #[x, .int .i64 c] ∧ DyV B x d
end Go.AM.Z
