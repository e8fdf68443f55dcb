/-
  Facts of the abstract evaluator and of the functions that the law reaches, part 2. Conditions: none.
-/
import Derived.Test.YtjhabnaeigipoaaDoorG1ZintTexts
set_option linter.unusedVariables false
set_option linter.unusedSimpArgs false
set_option linter.unnecessarySimpa false
set_option exponentiation.threshold 200000
set_option maxRecDepth 100000
set_option linter.unusedVariables false
set_option linter.unusedSimpArgs false
set_option maxRecDepth 100000
namespace Go.AM.Z
open Go Go.AM Go.Proofs
attribute [local irreducible] run bin un ld st box newV mkS fldA fld ixA ix slc slc3 build buildS cv cvS ap cpy lenV gOp pickV b2 aIf aChk evalK resume iterD Option.bind

theorem shr_digit {l : List Nat} (hl : small l) {s i : Nat} (hs : s < 32) : (l.getD i 0 + l.getD (i + 1) 0 * 2 ^ 32) / 2 ^ s % 4294967296 = val l / 2 ^ s / 4294967296 ^ i % 4294967296 := by
  rw [Nat.div_div_eq_div_mul (val l), Nat.mul_comm (2 ^ s) (4294967296 ^ i), ← Nat.div_div_eq_div_mul, (val_div_mod hl i).1]
  have h1 : val (l.drop i) = l.getD i 0 + l.getD (i + 1) 0 * 2 ^ 32 + 2 ^ s * (2 ^ (32 - s) * (4294967296 * val (l.drop (i + 2)))) := by
    rw [← Nat.mul_assoc (2 ^ s), ← Nat.pow_add, show s + (32 - s) = 32 by omega]
    have e := val_drop (l.drop i) 2
    rw [List.drop_drop, val_take_succ', val_take_succ', List.take_zero, val, List.getD_eq_getElem?_getD, List.getD_eq_getElem?_getD, List.getElem?_drop, List.getElem?_drop, ← List.getD_eq_getElem?_getD, ← List.getD_eq_getElem?_getD] at e
    rw [e]; simp only [Nat.add_zero]; omega
  rw [h1, Nat.add_mul_div_left _ _ (Nat.pow_pos (by decide)), Nat.mul_left_comm (2 ^ (32 - s)), Nat.add_mul_mod_self_left]
theorem shr_loop {H0 B0 B : AH} {xs : List Nat} {a : Value} {bo n s : Nat} (ha : RdN B a xs) (hs : s < 32) (hn : n % 32 = s) (hn' : n < 9223372036854775808) (hlen : xs.length < 549755813888) :
    ∀ (m i : Nat) (zs : List Nat) (H : AH), i + m = xs.length → zs.length = xs.length → small zs → val (zs.take i) = val xs / 2 ^ s % 4294967296 ^ i →
    St H0 B0 B [(bo, ⟨zs.map u32, 70, .fix⟩)] H →
    Ev (fun k l => f55_L0 k a (i64 n) (sl bo 0 xs.length xs.length) (i64 xs.length) (i64 i) l H)
      (fun o => ∃ zs H, o = (.exit 0, f55_X_L0 (sl bo 0 xs.length xs.length), H) ∧ zs.length = xs.length ∧ small zs ∧ val zs = val xs / 2 ^ s ∧ St H0 B0 B [(bo, ⟨zs.map u32, 70, .fix⟩)] H) := by
  intro m
  induction m with
  | zero =>
    intro i zs H hi hz hsm hv hS
    refine Ev.succ (fun k l => f55_L0_succ k _ _ _ _ _ l H) ?_
    refine Ev.prim lssN ?_
    refine Ev.ifp (fun h => absurd h (by omega)) fun _ => ?_
    refine Ev.ret ⟨zs, H, rfl, hz, hsm, ?_, hS⟩
    have : i = xs.length := by omega
    subst this
    rw [List.take_of_length_le (by omega), Nat.mod_eq_of_lt (Nat.lt_of_le_of_lt (Nat.div_le_self ..) (val_lt ha.2))] at hv
    exact hv
  | succ m ih =>
    intro i zs H hi hz hsm hv hS
    refine Ev.succ (fun k l => f55_L0_succ k _ _ _ _ _ l H) ?_
    refine Ev.prim lssN ?_
    refine Ev.ifp (fun _ => ?_) fun h => absurd (by omega) h
    have hJ : ∀ w, w = xs.getD i 0 + xs.getD (i + 1) 0 * 2 ^ 32 → Ev (fun k l => f55_J0 k l a (i64 n) (sl bo 0 xs.length xs.length) (i64 i) (u64 w) (i64 xs.length) (i64 i) H)
      (fun o => ∃ zs H, o = (.exit 0, f55_X_L0 (sl bo 0 xs.length xs.length), H) ∧ zs.length = xs.length ∧ small zs ∧ val zs = val xs / 2 ^ s ∧ St H0 B0 B [(bo, ⟨zs.map u32, 70, .fix⟩)] H) := by
      intro w hw
      refine Ev.eq (fun k l => f55_J0_eq k l _ _ _ _ _ _ _ H) ?_
      refine Ev.prim (remL (by decide)) ?_
      rw [hn]
      refine Ev.prim (shrN (by show s < 64; omega)) ?_
      refine Ev.prim (toU32 Uq Uw) ?_
      refine Ev.prim (ixA_own Ew (by omega)) ?_
      refine Ev.stW Ew hS (by (first | exact .head _ | exact .tail _ (.head _) | exact .tail _ (.tail _ (.head _)) | exact .tail _ (.tail _ (.tail _ (.head _))) | exact .tail _ (.tail _ (.tail _ (.tail _ (.head _)))))) (j := i) (by omega) (by omega) rfl (by simp) (.head _) fun H1 hS1 => ?_
      refine Ev.prim (addL (by omega)) ?_
      refine ih (i + 1) _ H1 (by omega) (by simp [hz]) (hsm.set _ (Nat.mod_lt _ (by decide))) ?_ hS1
      rw [val_take_set (by omega), hw, shr_digit ha.2 hs, hv, ← Nat.mod_pow_succ]
    obtain ⟨p, hp1, hp2⟩ := ha.ixN (k := .i64) (i := i) Ew (by omega)
    refine Ev.prim hp1 ?_
    refine Ev.prim (hp2 H hS.le) ?_
    have hx := ha.2.getD i
    have hx1 := ha.2.getD (i + 1)
    refine Ev.prim (toU64 (by omega) Uw Uq) ?_
    refine Ev.prim (addL (by omega)) ?_
    refine Ev.prim (ha.lenN Ew) ?_
    refine Ev.prim lssN ?_
    refine Ev.ifp (fun h => ?_) fun h => ?_
    · refine Ev.prim (addL (by omega)) ?_
      obtain ⟨q, hq1, hq2⟩ := ha.ixN (k := .i64) (i := i + 1) Ew (by omega)
      refine Ev.prim hq1 ?_
      refine Ev.prim (hq2 H hS.le) ?_
      refine Ev.prim (toU64 (by omega) Uw Uq) ?_
      refine Ev.prim (shlQL ⟨by decide, by omega⟩) ?_
      refine Ev.prim (orQ ⟨by omega, by omega⟩) ?_
      exact hJ _ (by rw [or_add (by omega)])
    · exact hJ _ (by rw [show xs.getD (i + 1) 0 = 0 by rw [List.getD_eq_getElem?_getD, List.getElem?_eq_none (by omega)]; rfl]; omega)
theorem Shr_spec {B H : AH} {xs : List Nat} {a : Value} {n : Nat} (ha : RdN B a xs) (hm : xs.length < 137438953472) (hn : n < 9223372036854775808) (hL : Le B H) :
    Ev (fun k _ => rn k 55 [a, i64 n] H) (An B H fun B' v => RdN B' v (limbs (val xs / 2 ^ n))) := by
  refine Ev.fn (fun k => f55_eq k _ _ H) ?_
  have hx := limbs_length_le (val_lt ha.2)
  refine Ev.callU (trim_pure (by omega) ha hL) fun a ha => ?_
  generalize val xs = x at *
  have hS := St.start hL
  refine Ev.prim lssL ?_
  refine Ev.ifp (fun h => absurd h (by omega)) fun _ => ?_
  refine Ev.prim (quoL ⟨by decide, by omega⟩) ?_
  refine Ev.prim (ha.lenN Ew) ?_
  refine Ev.prim geqN ?_
  have hpow : 2 ^ n = 4294967296 ^ (n / 32) * 2 ^ (n % 32) := by
    rw [show (4294967296 : Nat) = 2 ^ 32 by decide, ← Nat.pow_mul, ← Nat.pow_add, Nat.div_add_mod]
  refine Ev.ifp (fun h => ?_) fun h => ?_
  · refine Ev.done hS ?_
    have h1 := val_lt (small_limbs x)
    rw [val_limbs] at h1
    have h2 : x < 4294967296 ^ (n / 32) := Nat.lt_of_lt_of_le h1 (Nat.pow_le_pow_right (by decide) h)
    rw [hpow, ← Nat.div_div_eq_div_mul, Nat.div_eq_of_lt h2, Nat.zero_div, limbs_zero]
    exact RdN.nil
  · refine Ev.prim (quoL ⟨by decide, by omega⟩) ?_
    obtain ⟨a2, hp1, ha2⟩ := ha.fromN (k := .i64) (i := n / 32) Ew (by omega)
    refine Ev.prim hp1 ?_
    have hl : ((limbs x).drop (n / 32)).length ≤ (limbs x).length := by rw [List.length_drop]; omega
    have hval : val ((limbs x).drop (n / 32)) / 2 ^ (n % 32) = x / 2 ^ n := by
      rw [← (val_div_mod (small_limbs x) (n / 32)).1, val_limbs, hpow, Nat.div_div_eq_div_mul]
    generalize (limbs x).drop (n / 32) = l at *
    refine Ev.prim (ha2.lenN Ew) ?_
    refine Ev.mkS Ew hS (by omega) (by omega) fun bo B1 H1 hm1 hS1 => ?_
    rw [map_replicate] at hS1
    refine Ev.prim (ha2.lenN Ew) ?_
    refine Ev.bind (Ev.loop (shr_loop (ha2.mono hm1) (n := n) (s := n % 32) (by omega) rfl hn (by omega) l.length 0 (List.replicate l.length 0) H1 (by omega) (by simp) (small_replicate _) (by simp [val, Nat.mod_one]) hS1)) ?_
    rintro _ ⟨zs, H2, rfl, hz, hsm, hv, hS2⟩
    refine Ev.eq (fun k _ => f55_A0_x0 k _ H2) ?_
    obtain ⟨B4, hm4, hr4, hS4⟩ := hS2.freezeN (n := l.length) (cap := l.length) hsm hz.symm (by omega)
    refine Ev.call hS4 (trim_spec (by omega) hr4) fun v B5 H5 hm5 hS5 h5 => ?_
    refine Ev.done hS5 ?_
    rw [hv, hval] at h5
    exact h5
end Go.AM.Z
set_option linter.unusedVariables false
set_option linter.unusedSimpArgs false
set_option maxRecDepth 100000
namespace Go.AM.Z
open Go Go.AM Go.Proofs
attribute [local irreducible] run bin un ld st box newV mkS fldA fld ixA ix slc slc3 build buildS cv cvS ap cpy lenV gOp pickV b2 aIf aChk evalK resume iterD Option.bind

theorem LZ_spec {H : AH} {x : Nat} (hx : x < 4294967296) : Ev (fun k _ => rn k 89 [u32 x] H) (Pu H fun v => v = i64 (32 - nbits x)) := by
  refine Ev.fn (fun k => f89_eq k _ H) ?_
  refine Ev.callU (Len32_spec hx) ?_
  rintro _ rfl
  have h : nbits x ≤ 32 := nbits_le.mpr hx
  refine Ev.prim (subN (a := 32) ⟨h, by decide⟩) ?_
  exact Ev.doneU rfl
theorem Div32_spec {H : AH} {r x d : Nat} (hr : r < d) (hx : x < 4294967296) (hd : d < 4294967296) : Ev (fun k _ => rn k 88 [u32 r, u32 x, u32 d] H)
    (fun o => o = (.tuple #[u32 ((r * 4294967296 + x) / d), u32 ((r * 4294967296 + x) % d)], H)) := by
  refine Ev.fn (fun k => f88_eq k _ _ _ H) ?_
  refine Ev.prim neqL ?_
  rw [show decide (d ≠ 0) = true from decide_eq_true (by omega)]
  repeat (first | refine Ev.some2 ?_ | refine Ev.some1 ?_ | refine Ev.gDo ?_ | refine Ev.gSkipT ?_ | refine Ev.gSkipF ?_ | refine Ev.gUndef ?_ | refine Ev.gCall ?_ | refine Ev.tt ?_ | refine Ev.ff ?_ | refine Ev.gPrim (by (first | with_reducible exact lssL | with_reducible exact gtrL | with_reducible exact eqlL | with_reducible exact neqL | with_reducible exact leqL | with_reducible exact geqL | with_reducible exact lssN | with_reducible exact gtrN | with_reducible exact eqlN | with_reducible exact neqN | with_reducible exact leqN | with_reducible exact geqN | (with_reducible refine addL ?_; omega) | (with_reducible refine subL ?_; omega) | (with_reducible refine quoL ?_; omega) | (with_reducible refine mulL ?_; omega) | (with_reducible refine lmul ?_; omega) | (with_reducible refine addN ?_; omega) | (with_reducible refine subN ?_; omega) | (with_reducible refine quoN ?_; omega) | (with_reducible refine mulN ?_; omega) | (with_reducible refine addQ ?_; omega) | (with_reducible refine subQ ?_; omega) | (with_reducible refine mulQ ?_; omega) | (with_reducible refine shlQL ?_; omega) | (with_reducible refine shlQ ?_; omega) | (with_reducible refine remL ?_; decide) | (with_reducible refine shrL ?_; decide) | (with_reducible refine remN ?_; omega) | (with_reducible refine toU64 ?_ Uw Uq; omega) | (with_reducible exact toU32 Uq Uw) | exact bin_lss | exact bin_gtr | exact bin_eql | exact bin_neq | exact bin_leq | exact bin_geq | exact lenV_sl Us | exact ext_0 | exact ext_1 | exact ext_2 | exact pick_t | exact pick_f | exact bin_add64 (by omega) | exact bin_sub64 (by omega) | exact un_not | exact cv_int Uq Uw | exact cv_int Uw Uq | exact bin_add | exact bin_sub | exact bin_mul | rfl)) rfl ?_ | refine Ev.prim (by (first | with_reducible exact lssL | with_reducible exact gtrL | with_reducible exact eqlL | with_reducible exact neqL | with_reducible exact leqL | with_reducible exact geqL | with_reducible exact lssN | with_reducible exact gtrN | with_reducible exact eqlN | with_reducible exact neqN | with_reducible exact leqN | with_reducible exact geqN | (with_reducible refine addL ?_; omega) | (with_reducible refine subL ?_; omega) | (with_reducible refine quoL ?_; omega) | (with_reducible refine mulL ?_; omega) | (with_reducible refine lmul ?_; omega) | (with_reducible refine addN ?_; omega) | (with_reducible refine subN ?_; omega) | (with_reducible refine quoN ?_; omega) | (with_reducible refine mulN ?_; omega) | (with_reducible refine addQ ?_; omega) | (with_reducible refine subQ ?_; omega) | (with_reducible refine mulQ ?_; omega) | (with_reducible refine shlQL ?_; omega) | (with_reducible refine shlQ ?_; omega) | (with_reducible refine remL ?_; decide) | (with_reducible refine shrL ?_; decide) | (with_reducible refine remN ?_; omega) | (with_reducible refine toU64 ?_ Uw Uq; omega) | (with_reducible exact toU32 Uq Uw) | exact bin_lss | exact bin_gtr | exact bin_eql | exact bin_neq | exact bin_leq | exact bin_geq | exact lenV_sl Us | exact ext_0 | exact ext_1 | exact ext_2 | exact pick_t | exact pick_f | exact bin_add64 (by omega) | exact bin_sub64 (by omega) | exact un_not | exact cv_int Uq Uw | exact cv_int Uw Uq | exact bin_add | exact bin_sub | exact bin_mul | rfl)) ?_)
  rw [show decide (d ≤ r) = false from decide_eq_false (by omega)]
  repeat (first | refine Ev.some2 ?_ | refine Ev.some1 ?_ | refine Ev.gDo ?_ | refine Ev.gSkipT ?_ | refine Ev.gSkipF ?_ | refine Ev.gUndef ?_ | refine Ev.gCall ?_ | refine Ev.tt ?_ | refine Ev.ff ?_ | refine Ev.gPrim (by (first | with_reducible exact lssL | with_reducible exact gtrL | with_reducible exact eqlL | with_reducible exact neqL | with_reducible exact leqL | with_reducible exact geqL | with_reducible exact lssN | with_reducible exact gtrN | with_reducible exact eqlN | with_reducible exact neqN | with_reducible exact leqN | with_reducible exact geqN | (with_reducible refine addL ?_; omega) | (with_reducible refine subL ?_; omega) | (with_reducible refine quoL ?_; omega) | (with_reducible refine mulL ?_; omega) | (with_reducible refine lmul ?_; omega) | (with_reducible refine addN ?_; omega) | (with_reducible refine subN ?_; omega) | (with_reducible refine quoN ?_; omega) | (with_reducible refine mulN ?_; omega) | (with_reducible refine addQ ?_; omega) | (with_reducible refine subQ ?_; omega) | (with_reducible refine mulQ ?_; omega) | (with_reducible refine shlQL ?_; omega) | (with_reducible refine shlQ ?_; omega) | (with_reducible refine remL ?_; decide) | (with_reducible refine shrL ?_; decide) | (with_reducible refine remN ?_; omega) | (with_reducible refine toU64 ?_ Uw Uq; omega) | (with_reducible exact toU32 Uq Uw) | exact bin_lss | exact bin_gtr | exact bin_eql | exact bin_neq | exact bin_leq | exact bin_geq | exact lenV_sl Us | exact ext_0 | exact ext_1 | exact ext_2 | exact pick_t | exact pick_f | exact bin_add64 (by omega) | exact bin_sub64 (by omega) | exact un_not | exact cv_int Uq Uw | exact cv_int Uw Uq | exact bin_add | exact bin_sub | exact bin_mul | rfl)) rfl ?_ | refine Ev.prim (by (first | with_reducible exact lssL | with_reducible exact gtrL | with_reducible exact eqlL | with_reducible exact neqL | with_reducible exact leqL | with_reducible exact geqL | with_reducible exact lssN | with_reducible exact gtrN | with_reducible exact eqlN | with_reducible exact neqN | with_reducible exact leqN | with_reducible exact geqN | (with_reducible refine addL ?_; omega) | (with_reducible refine subL ?_; omega) | (with_reducible refine quoL ?_; omega) | (with_reducible refine mulL ?_; omega) | (with_reducible refine lmul ?_; omega) | (with_reducible refine addN ?_; omega) | (with_reducible refine subN ?_; omega) | (with_reducible refine quoN ?_; omega) | (with_reducible refine mulN ?_; omega) | (with_reducible refine addQ ?_; omega) | (with_reducible refine subQ ?_; omega) | (with_reducible refine mulQ ?_; omega) | (with_reducible refine shlQL ?_; omega) | (with_reducible refine shlQ ?_; omega) | (with_reducible refine remL ?_; decide) | (with_reducible refine shrL ?_; decide) | (with_reducible refine remN ?_; omega) | (with_reducible refine toU64 ?_ Uw Uq; omega) | (with_reducible exact toU32 Uq Uw) | exact bin_lss | exact bin_gtr | exact bin_eql | exact bin_neq | exact bin_leq | exact bin_geq | exact lenV_sl Us | exact ext_0 | exact ext_1 | exact ext_2 | exact pick_t | exact pick_f | exact bin_add64 (by omega) | exact bin_sub64 (by omega) | exact un_not | exact cv_int Uq Uw | exact cv_int Uw Uq | exact bin_add | exact bin_sub | exact bin_mul | rfl)) ?_)
  refine Ev.eq (fun k _ => f88_J0_eq k _ _ _ H) ?_
  refine Ev.prim (toU64 (by omega) Uw Uq) ?_
  refine Ev.prim (shlQL ⟨by decide, by omega⟩) ?_
  refine Ev.prim (toU64 (by omega) Uw Uq) ?_
  refine Ev.prim (orQ ⟨by omega, by omega⟩) ?_
  rw [Nat.or_comm, or_add (by omega), show x + r * 2 ^ 32 = r * 4294967296 + x by omega]
  have hq : (r * 4294967296 + x) / d < 4294967296 := Nat.div_lt_of_lt_mul (by
    have : (r + 1) * 4294967296 ≤ d * 4294967296 := Nat.mul_le_mul_right _ hr
    omega)
  have hm : (r * 4294967296 + x) % d < d := Nat.mod_lt _ (by omega)
  refine Ev.prim (toU64 (by omega) Uw Uq) ?_
  refine Ev.prim (quoQ ⟨by omega, by omega⟩) ?_
  refine Ev.prim (toU32 Uq Uw) ?_
  refine Ev.prim (toU64 (by omega) Uw Uq) ?_
  refine Ev.prim (remN (by omega)) ?_
  refine Ev.prim (toU32 Uq Uw) ?_
  rw [Nat.mod_eq_of_lt hq, Nat.mod_eq_of_lt (show (r * 4294967296 + x) % d < 4294967296 by omega)]
  exact Ev.ret rfl
theorem short_loop {H0 B0 B : AH} {xs : List Nat} {a : Value} {bo d : Nat} (ha : RdN B a xs) (hd : d < 4294967296) (hlen : xs.length < 549755813888) :
    ∀ (m i : Nat) (zs : List Nat) (r : Nat) (H : AH), i + m = xs.length → zs.length = xs.length → small zs → r < d → val (xs.drop m) = d * val (zs.drop m) + r →
    St H0 B0 B [(bo, ⟨zs.map u32, 70, .fix⟩)] H →
    Ev (fun k n => f74_L0 k a (u32 d) (sl bo 0 xs.length xs.length) (u32 r) (i64 xs.length) (i64 i) n H)
      (fun o => ∃ zs r H, o = (.exit 0, f74_X_L0 (sl bo 0 xs.length xs.length) (u32 r), H) ∧ zs.length = xs.length ∧ small zs ∧ r < d ∧ val xs = d * val zs + r ∧ St H0 B0 B [(bo, ⟨zs.map u32, 70, .fix⟩)] H) := by
  intro m
  induction m with
  | zero =>
    intro i zs r H hi hz hsm hr hv hS
    refine Ev.succ (fun k n => f74_L0_succ k _ _ _ _ _ _ n H) ?_
    refine Ev.prim lssN ?_
    refine Ev.ifp (fun h => absurd h (by omega)) fun _ => ?_
    exact Ev.ret ⟨zs, r, H, rfl, hz, hsm, hr, hv, hS⟩
  | succ m ih =>
    intro i zs r H hi hz hsm hr hv hS
    refine Ev.succ (fun k n => f74_L0_succ k _ _ _ _ _ _ n H) ?_
    refine Ev.prim lssN ?_
    refine Ev.ifp (fun _ => ?_) fun h => absurd (by omega) h
    refine Ev.prim (ha.lenN Ew) ?_
    refine Ev.prim (subL (by omega)) ?_
    refine Ev.prim (subN (by omega)) ?_
    obtain ⟨p, hp1, hp2⟩ := ha.ixN (k := .i64) (i := xs.length - 1 - i) Ew (by omega)
    refine Ev.prim hp1 ?_
    refine Ev.prim (hp2 H hS.le) ?_
    rw [show xs.length - 1 - i = m by omega]
    have hx := ha.2.getD m
    refine Ev.callP (Div32_spec hr hx hd) ?_
    refine Ev.prim ext_0 ?_
    refine Ev.prim ext_1 ?_
    refine Ev.prim (ixA_own Ew (by omega)) ?_
    refine Ev.stW Ew hS (by (first | exact .head _ | exact .tail _ (.head _) | exact .tail _ (.tail _ (.head _)) | exact .tail _ (.tail _ (.tail _ (.head _))) | exact .tail _ (.tail _ (.tail _ (.tail _ (.head _)))))) (j := m) (by omega) (by omega) rfl (by simp) (.head _) fun H1 hS1 => ?_
    refine Ev.prim (addL (by omega)) ?_
    have hq : (r * 4294967296 + xs.getD m 0) / d < 4294967296 := Nat.div_lt_of_lt_mul (by
      have : (r + 1) * 4294967296 ≤ d * 4294967296 := Nat.mul_le_mul_right _ hr
      omega)
    refine ih (i + 1) _ _ H1 (by omega) (by simp [hz]) (hsm.set _ hq) (Nat.mod_lt _ (by omega)) ?_ hS1
    rw [List.drop_set, if_neg (by omega), Nat.sub_self, List.drop_eq_getElem_cons (by omega), List.drop_eq_getElem_cons (l := zs) (by omega), List.set_cons_zero, val, val, hv]
    have e := Nat.div_add_mod (r * 4294967296 + xs.getD m 0) d
    rw [List.getD_eq_getElem?_getD, List.getElem?_eq_getElem (by omega)] at e ⊢
    simp only [Option.getD_some] at e ⊢
    generalize (r * 4294967296 + xs[m]) / d = q1 at *
    generalize (r * 4294967296 + xs[m]) % d = q2 at *
    rw [Nat.mul_add d, Nat.mul_left_comm d]
    omega
theorem short_spec {B H : AH} {xs : List Nat} {a : Value} {d : Nat} (ha : RdN B a xs) (hd : d < 4294967296) (hd0 : d ≠ 0) (hm : xs.length < 137438953472) (hL : Le B H) :
    Ev (fun k _ => rn k 74 [a, u32 d] H) (An B H fun B' v => ∃ q r, v = .tuple #[q, r, .bool true] ∧ RdN B' q (limbs (val xs / d)) ∧ RdN B' r (limbs (val xs % d))) := by
  refine Ev.fn (fun k => f74_eq k _ _ H) ?_
  refine Ev.prim (ha.lenN Ew) ?_
  refine Ev.mkS Ew (St.start hL) (by omega) (by omega) fun bo B1 H1 hm1 hS1 => ?_
  rw [map_replicate] at hS1
  refine Ev.prim (ha.lenN Ew) ?_
  refine Ev.bind (Ev.loop (short_loop (ha.mono hm1) (d := d) hd (by omega) xs.length 0 (List.replicate xs.length 0) 0 H1 (by omega) (by simp) (small_replicate _) (by omega) (by simp [val]) hS1)) ?_
  rintro _ ⟨zs, r, H2, rfl, hz, hsm, hr, hv, hS2⟩
  refine Ev.eq (fun k _ => f74_A0_x0 k _ _ H2) ?_
  obtain ⟨B4, hm4, hr4, hS4⟩ := hS2.freezeN (n := xs.length) (cap := xs.length) hsm hz.symm (by omega)
  refine Ev.call hS4 (Trim_spec (by omega) hr4) fun v B5 H5 hm5 hS5 h5 => ?_
  refine Ev.prim (toU64 (by omega) Uw Uq) ?_
  refine Ev.call hS5 (From_spec (by omega)) fun v2 B6 H6 hm6 hS6 h6 => ?_
  refine Ev.done hS6 ⟨v, v2, rfl, ?_, ?_⟩
  · rw [hv, Nat.mul_comm, Nat.add_comm, Nat.add_mul_div_right _ _ (by omega), Nat.div_eq_of_lt hr, Nat.zero_add]
    exact h5.mono hm6
  · rw [hv, Nat.mul_add_mod, Nat.mod_eq_of_lt hr]
    exact h6
end Go.AM.Z
set_option linter.unusedVariables false
set_option linter.unusedSimpArgs false
set_option maxRecDepth 100000
namespace Go.AM.Z
open Go Go.AM Go.Proofs
attribute [local irreducible] run bin un ld st box newV mkS fldA fld ixA ix slc slc3 build buildS cv cvS ap cpy lenV gOp pickV b2 aIf aChk evalK resume iterD Option.bind

theorem take_loop {H0 B0 B : AH} {L : List (Nat × Blk)} {us ys : List Nat} {b : Value} {bu g j N cap : Nat} (hb : RdN B b ys) (hg : g < 4294967296) (hN : j + N ≤ us.length) (hyN : ys.length < N) (hlen : us.length < 549755813888) :
    ∀ (m i : Nat) (zs : List Nat) (c bo : Nat) (H : AH), i + m = ys.length → zs.length = us.length → small zs → c < 4294967296 → bo ≤ 1 →
    val zs + 4294967296 ^ j * (g * val (ys.take i)) = val us + 4294967296 ^ (j + i) * (c + bo) → zs.take j = us.take j → zs.drop (j + N) = us.drop (j + N) →
    St H0 B0 B ((bu, ⟨zs.map u32, 70, .fix⟩) :: L) H →
    Ev (fun k n => f90_L0 k (sl bu j N cap) b (u64 g) (u64 c) (u32 bo) b (i64 ys.length) (i64 i) n H)
      (fun o => ∃ zs c bo H, o = (.exit 0, f90_X_L0 (sl bu j N cap) b (u64 c) (u32 bo), H) ∧ zs.length = us.length ∧ small zs ∧ c < 4294967296 ∧ bo ≤ 1 ∧
        val zs + 4294967296 ^ j * (g * val ys) = val us + 4294967296 ^ (j + ys.length) * (c + bo) ∧ zs.take j = us.take j ∧ zs.drop (j + N) = us.drop (j + N) ∧ St H0 B0 B ((bu, ⟨zs.map u32, 70, .fix⟩) :: L) H) := by
  intro m
  induction m with
  | zero =>
    intro i zs c bo H hi hz hsm hc hbo hv ht hdr hS
    refine Ev.succ (fun k n => f90_L0_succ k _ _ _ _ _ _ _ _ n H) ?_
    refine Ev.prim lssN ?_
    refine Ev.ifp (fun h => absurd h (by omega)) fun _ => ?_
    refine Ev.ret ⟨zs, c, bo, H, rfl, hz, hsm, hc, hbo, ?_, ht, hdr, hS⟩
    have : i = ys.length := by omega
    subst this
    rw [List.take_of_length_le (Nat.le_refl _)] at hv
    exact hv
  | succ m ih =>
    intro i zs c bo H hi hz hsm hc hbo hv ht hdr hS
    refine Ev.succ (fun k n => f90_L0_succ k _ _ _ _ _ _ _ _ n H) ?_
    refine Ev.prim lssN ?_
    refine Ev.ifp (fun _ => ?_) fun h => absurd (by omega) h
    obtain ⟨p, hp1, hp2⟩ := hb.ixN (k := .i64) (i := i) Ew (by omega)
    refine Ev.prim hp1 ?_
    refine Ev.prim (hp2 H hS.le) ?_
    have hy := hb.2.getD i
    have hxy : ys.getD i 0 * g ≤ 4294967295 * 4294967295 := Nat.mul_le_mul (by omega) (by omega)
    have ho := hsm.getD (j + i)
    refine Ev.prim (toU64 (by omega) Uw Uq) ?_
    refine Ev.prim (mulQ (by omega)) ?_
    refine Ev.prim (addQ (by omega)) ?_
    refine Ev.prim (shrL (by decide)) ?_
    refine Ev.prim (ixA_own Ew (by omega)) ?_
    refine Ev.ldW Ew hS (.head _) (j := j + i) (by omega) rfl ?_
    refine Ev.prim (toU32 Uq Uw) ?_
    refine Ev.callP (Sub32_spec ho (Nat.mod_lt _ (by decide)) hbo) ?_
    refine Ev.prim ext_0 ?_
    refine Ev.prim ext_1 ?_
    refine Ev.prim (ixA_own Ew (by omega)) ?_
    refine Ev.stW Ew hS (.head _) (j := j + i) (by omega) rfl rfl (by simp) (.head _) fun H1 hS1 => ?_
    refine Ev.prim (addL (by omega)) ?_
    refine ih (i + 1) _ _ _ H1 (by omega) (by simp [hz]) (hsm.set _ (Nat.mod_lt _ (by decide))) (by omega) (by split <;> omega) ?_ (by rw [List.take_set_of_le (by omega)]; exact ht) (by rw [List.drop_set_of_lt (by omega)]; exact hdr) hS1
    have e1 := val_set (zs := zs) (j := j + i) (w := (zs.getD (j + i) 0 + 8589934592 - (ys.getD i 0 * g + c) % 4294967296 - bo) % 4294967296) (by omega)
    have e2 : (zs.getD (j + i) 0 + 8589934592 - (ys.getD i 0 * g + c) % 4294967296 - bo) % 4294967296 + ((ys.getD i 0 * g + c) % 4294967296 + bo) = zs.getD (j + i) 0 + 4294967296 * (if zs.getD (j + i) 0 < (ys.getD i 0 * g + c) % 4294967296 + bo then 1 else 0) := by
      have := Nat.mod_lt (ys.getD i 0 * g + c) (show 0 < 4294967296 by decide)
      split <;> omega
    have e3 : ys.getD i 0 * g + c = (ys.getD i 0 * g + c) % 4294967296 + 4294967296 * ((ys.getD i 0 * g + c) / 2 ^ 32) := by omega
    rw [val_take_succ']
    generalize (if zs.getD (j + i) 0 < (ys.getD i 0 * g + c) % 4294967296 + bo then 1 else 0) = bo' at *
    generalize (zs.getD (j + i) 0 + 8589934592 - (ys.getD i 0 * g + c) % 4294967296 - bo) % 4294967296 = w at *
    generalize (ys.getD i 0 * g + c) % 4294967296 = s1 at *
    generalize (ys.getD i 0 * g + c) / 2 ^ 32 = s2 at *
    generalize zs.getD (j + i) 0 = o at *
    generalize ys.getD i 0 = y at *
    have e4 := congrArg (4294967296 ^ (j + i) * ·) e2
    have e5 := congrArg (4294967296 ^ (j + i) * ·) e3
    simp only [Nat.mul_add] at e4 e5
    rw [show j + (i + 1) = j + i + 1 by omega, Nat.pow_succ, Nat.mul_assoc, Nat.mul_add g, Nat.mul_left_comm g, Nat.mul_add (4294967296 ^ j), ← Nat.mul_assoc (4294967296 ^ j) (4294967296 ^ i), ← Nat.pow_add, Nat.mul_comm g y]
    simp only [Nat.mul_add] at hv ⊢
    omega
theorem take_spec {H0 B0 B : AH} {L : List (Nat × Blk)} {us ys : List Nat} {b : Value} {bu g j cap : Nat} {H : AH} (hb : RdN B b ys) (hg : g < 4294967296) (hN : j + (ys.length + 1) ≤ us.length) (hlen : us.length < 549755813888) (hsm : small us)
    (hS : St H0 B0 B ((bu, ⟨us.map u32, 70, .fix⟩) :: L) H) :
    Ev (fun k _ => rn k 90 [sl bu j (ys.length + 1) cap, b, u64 g] H)
      (fun r => ∃ zs bo H, r = (.bool (decide (0 < bo)), H) ∧ zs.length = us.length ∧ small zs ∧ bo ≤ 1 ∧ val zs + 4294967296 ^ j * (g * val ys) = val us + 4294967296 ^ (j + (ys.length + 1)) * bo ∧
        zs.take j = us.take j ∧ zs.drop (j + (ys.length + 1)) = us.drop (j + (ys.length + 1)) ∧ St H0 B0 B ((bu, ⟨zs.map u32, 70, .fix⟩) :: L) H) := by
  refine Ev.fn (fun k => f90_eq k _ _ _ H) ?_
  refine Ev.prim (hb.lenN Ew) ?_
  refine Ev.bind (Ev.loop (take_loop (N := ys.length + 1) hb hg hN (by omega) hlen ys.length 0 us 0 0 H (by omega) rfl hsm (by decide) (by decide) (by simp [val]) rfl rfl hS)) ?_
  rintro _ ⟨zs, c, bo, H1, rfl, hz, hsm, hc, hbo, hv, ht, hdr, hS⟩
  refine Ev.eq (fun k _ => f90_A0_x0 k _ _ _ _ H1) ?_
  refine Ev.prim (hb.lenN Ew) ?_
  refine Ev.prim (hb.lenN Ew) ?_
  refine Ev.prim (ixA_own Ew (by omega)) ?_
  have ho := hsm.getD (j + ys.length)
  refine Ev.ldW Ew hS (.head _) (j := j + ys.length) (by omega) rfl ?_
  refine Ev.prim (toU32 Uq Uw) ?_
  rw [Nat.mod_eq_of_lt hc]
  refine Ev.callP (Sub32_spec ho hc hbo) ?_
  refine Ev.prim ext_0 ?_
  refine Ev.prim ext_1 ?_
  refine Ev.prim (ixA_own Ew (by omega)) ?_
  refine Ev.stW Ew hS (.head _) (j := j + ys.length) (by omega) rfl rfl (by simp) (.head _) fun H1 hS1 => ?_
  refine Ev.prim gtrL ?_
  refine Ev.ret ⟨_, _, H1, rfl, by simp [hz], hsm.set _ (Nat.mod_lt _ (by decide)), by split <;> omega, ?_, by rw [List.take_set_of_le (by omega)]; exact ht, by rw [List.drop_set_of_lt (by omega)]; exact hdr, hS1⟩
  have e1 := val_set (zs := zs) (j := j + ys.length) (w := (zs.getD (j + ys.length) 0 + 8589934592 - c - bo) % 4294967296) (by omega)
  have e2 : (zs.getD (j + ys.length) 0 + 8589934592 - c - bo) % 4294967296 + (c + bo) = zs.getD (j + ys.length) 0 + 4294967296 * (if zs.getD (j + ys.length) 0 < c + bo then 1 else 0) := by
    split <;> omega
  generalize (if zs.getD (j + ys.length) 0 < c + bo then 1 else 0) = bo' at *
  generalize (zs.getD (j + ys.length) 0 + 8589934592 - c - bo) % 4294967296 = w at *
  generalize zs.getD (j + ys.length) 0 = o at *
  have e4 := congrArg (4294967296 ^ (j + ys.length) * ·) e2
  simp only [Nat.mul_add] at e4
  rw [show j + (ys.length + 1) = j + ys.length + 1 by omega, Nat.pow_succ, Nat.mul_assoc]
  simp only [Nat.mul_add] at hv
  omega
theorem give_loop {H0 B0 B : AH} {L : List (Nat × Blk)} {us ys : List Nat} {b : Value} {bu j N cap : Nat} (hb : RdN B b ys) (hN : j + N ≤ us.length) (hyN : ys.length < N) (hlen : us.length < 549755813888) :
    ∀ (m i : Nat) (zs : List Nat) (c : Nat) (H : AH), i + m = ys.length → zs.length = us.length → small zs → c ≤ 1 →
    val zs + 4294967296 ^ (j + i) * c = val us + 4294967296 ^ j * val (ys.take i) → zs.take j = us.take j → zs.drop (j + N) = us.drop (j + N) →
    St H0 B0 B ((bu, ⟨zs.map u32, 70, .fix⟩) :: L) H →
    Ev (fun k n => f91_L0 k (sl bu j N cap) b (u32 c) b (i64 ys.length) (i64 i) n H)
      (fun o => ∃ zs c H, o = (.exit 0, f91_X_L0 (sl bu j N cap) b (u32 c), H) ∧ zs.length = us.length ∧ small zs ∧ c ≤ 1 ∧
        val zs + 4294967296 ^ (j + ys.length) * c = val us + 4294967296 ^ j * val ys ∧ zs.take j = us.take j ∧ zs.drop (j + N) = us.drop (j + N) ∧ St H0 B0 B ((bu, ⟨zs.map u32, 70, .fix⟩) :: L) H) := by
  intro m
  induction m with
  | zero =>
    intro i zs c H hi hz hsm hc hv ht hdr hS
    refine Ev.succ (fun k n => f91_L0_succ k _ _ _ _ _ _ n H) ?_
    refine Ev.prim lssN ?_
    refine Ev.ifp (fun h => absurd h (by omega)) fun _ => ?_
    refine Ev.ret ⟨zs, c, H, rfl, hz, hsm, hc, ?_, ht, hdr, hS⟩
    have : i = ys.length := by omega
    subst this
    rw [List.take_of_length_le (Nat.le_refl _)] at hv
    exact hv
  | succ m ih =>
    intro i zs c H hi hz hsm hc hv ht hdr hS
    refine Ev.succ (fun k n => f91_L0_succ k _ _ _ _ _ _ n H) ?_
    refine Ev.prim lssN ?_
    refine Ev.ifp (fun _ => ?_) fun h => absurd (by omega) h
    obtain ⟨p, hp1, hp2⟩ := hb.ixN (k := .i64) (i := i) Ew (by omega)
    refine Ev.prim hp1 ?_
    refine Ev.prim (hp2 H hS.le) ?_
    have hy := hb.2.getD i
    have ho := hsm.getD (j + i)
    refine Ev.prim (ixA_own Ew (by omega)) ?_
    refine Ev.ldW Ew hS (.head _) (j := j + i) (by omega) rfl ?_
    refine Ev.callP (Add32_spec ho hy (by omega)) ?_
    refine Ev.prim ext_0 ?_
    refine Ev.prim ext_1 ?_
    refine Ev.prim (ixA_own Ew (by omega)) ?_
    refine Ev.stW Ew hS (.head _) (j := j + i) (by omega) rfl rfl (by simp) (.head _) fun H1 hS1 => ?_
    refine Ev.prim (addL (by omega)) ?_
    refine ih (i + 1) _ _ H1 (by omega) (by simp [hz]) (hsm.set _ (Nat.mod_lt _ (by decide))) (by omega) ?_ (by rw [List.take_set_of_le (by omega)]; exact ht) (by rw [List.drop_set_of_lt (by omega)]; exact hdr) hS1
    have e1 := val_set (zs := zs) (j := j + i) (w := (zs.getD (j + i) 0 + ys.getD i 0 + c) % 4294967296) (by omega)
    have e2 : (zs.getD (j + i) 0 + ys.getD i 0 + c) % 4294967296 + 4294967296 * ((zs.getD (j + i) 0 + ys.getD i 0 + c) / 4294967296) = zs.getD (j + i) 0 + ys.getD i 0 + c := by omega
    rw [val_take_succ']
    generalize (zs.getD (j + i) 0 + ys.getD i 0 + c) % 4294967296 = w at *
    generalize (zs.getD (j + i) 0 + ys.getD i 0 + c) / 4294967296 = c' at *
    generalize zs.getD (j + i) 0 = o at *
    generalize ys.getD i 0 = y at *
    have e4 := congrArg (4294967296 ^ (j + i) * ·) e2
    simp only [Nat.mul_add] at e4
    rw [show j + (i + 1) = j + i + 1 by omega, Nat.pow_succ, Nat.mul_assoc, Nat.mul_add (4294967296 ^ j), ← Nat.mul_assoc (4294967296 ^ j) (4294967296 ^ i), ← Nat.pow_add]
    omega
theorem give_spec {H0 B0 B : AH} {L : List (Nat × Blk)} {us ys : List Nat} {b : Value} {bu j cap : Nat} {H : AH} (hb : RdN B b ys) (hN : j + (ys.length + 1) ≤ us.length) (hlen : us.length < 549755813888) (hsm : small us)
    (hS : St H0 B0 B ((bu, ⟨us.map u32, 70, .fix⟩) :: L) H) :
    Ev (fun k _ => rn k 91 [sl bu j (ys.length + 1) cap, b] H)
      (fun r => ∃ zs c H, r = (.tuple #[], H) ∧ zs.length = us.length ∧ small zs ∧ c ≤ 1 ∧ val zs + 4294967296 ^ (j + (ys.length + 1)) * c = val us + 4294967296 ^ j * val ys ∧
        zs.take j = us.take j ∧ zs.drop (j + (ys.length + 1)) = us.drop (j + (ys.length + 1)) ∧ St H0 B0 B ((bu, ⟨zs.map u32, 70, .fix⟩) :: L) H) := by
  refine Ev.fn (fun k => f91_eq k _ _ H) ?_
  refine Ev.prim (hb.lenN Ew) ?_
  refine Ev.bind (Ev.loop (give_loop (N := ys.length + 1) hb hN (by omega) hlen ys.length 0 us 0 H (by omega) rfl hsm (by decide) (by simp [val]) rfl rfl hS)) ?_
  rintro _ ⟨zs, c, H1, rfl, hz, hsm, hc, hv, ht, hdr, hS⟩
  refine Ev.eq (fun k _ => f91_A0_x0 k _ _ _ H1) ?_
  refine Ev.prim (hb.lenN Ew) ?_
  refine Ev.prim (ixA_own Ew (by omega)) ?_
  have ho := hsm.getD (j + ys.length)
  refine Ev.ldW Ew hS (.head _) (j := j + ys.length) (by omega) rfl ?_
  refine Ev.prim addW ?_
  refine Ev.prim (ixA_own Ew (by omega)) ?_
  refine Ev.stW Ew hS (.head _) (j := j + ys.length) (by omega) rfl rfl (by simp) (.head _) fun H1 hS1 => ?_
  refine Ev.ret ⟨_, (zs.getD (j + ys.length) 0 + c) / 4294967296, H1, rfl, by simp [hz], hsm.set _ (Nat.mod_lt _ (by decide)), by omega, ?_, by rw [List.take_set_of_le (by omega)]; exact ht, by rw [List.drop_set_of_lt (by omega)]; exact hdr, hS1⟩
  have e1 := val_set (zs := zs) (j := j + ys.length) (w := (zs.getD (j + ys.length) 0 + c) % 4294967296) (by omega)
  have e2 : (zs.getD (j + ys.length) 0 + c) % 4294967296 + 4294967296 * ((zs.getD (j + ys.length) 0 + c) / 4294967296) = zs.getD (j + ys.length) 0 + c := by omega
  generalize (zs.getD (j + ys.length) 0 + c) % 4294967296 = w at *
  generalize (zs.getD (j + ys.length) 0 + c) / 4294967296 = c' at *
  generalize zs.getD (j + ys.length) 0 = o at *
  have e4 := congrArg (4294967296 ^ (j + ys.length) * ·) e2
  simp only [Nat.mul_add] at e4
  rw [show j + (ys.length + 1) = j + ys.length + 1 by omega, Nat.pow_succ, Nat.mul_assoc]
  omega
end Go.AM.Z
set_option linter.unusedVariables false
namespace Go.AM
theorem knuth_over {p g rest vt v2 vl u2 ul top : Nat} (hul : ul < p) (h1 : g * vt + rest = top) (h2 : rest * 4294967296 + u2 < g * v2) :
    ul + p * (u2 + 4294967296 * top) < g * (vl + p * (v2 + 4294967296 * vt)) := by
  have e1 : g * (vl + p * (v2 + 4294967296 * vt)) = g * vl + p * (g * v2 + 4294967296 * (g * vt)) := by
    rw [Nat.mul_add, Nat.mul_left_comm g p, Nat.mul_add g, Nat.mul_left_comm g 4294967296]
  have e2 : p * (u2 + 4294967296 * top + 1) ≤ p * (g * v2 + 4294967296 * (g * vt)) := Nat.mul_le_mul_left _ (by omega)
  rw [e1]
  rw [Nat.mul_add p _ 1, Nat.mul_one] at e2
  omega
theorem knuth_near {p g rest vt v2 vl u2 ul top : Nat} (hvl : vl < p) (hg : g < 4294967296) (hvt : 1 ≤ vt) (h1 : g * vt + rest = top) (h2 : g * v2 ≤ rest * 4294967296 + u2) :
    g * (vl + p * (v2 + 4294967296 * vt)) < ul + p * (u2 + 4294967296 * top) + (vl + p * (v2 + 4294967296 * vt)) := by
  have e1 : g * (vl + p * (v2 + 4294967296 * vt)) = g * vl + p * (g * v2 + 4294967296 * (g * vt)) := by
    rw [Nat.mul_add, Nat.mul_left_comm g p, Nat.mul_add g, Nat.mul_left_comm g 4294967296]
  have e2 : p * (g * v2 + 4294967296 * (g * vt)) ≤ p * (u2 + 4294967296 * top) := Nat.mul_le_mul_left _ (by omega)
  have e3 : g * vl ≤ 4294967295 * vl := Nat.mul_le_mul_right _ (by omega)
  have e4 : p * (4294967296 * 1) ≤ p * (v2 + 4294967296 * vt) := Nat.mul_le_mul_left _ (by omega)
  rw [e1]
  omega
theorem knuth_first {p vt v2 vl u2 ul top : Nat} (hul : ul < p) (hu2 : u2 < 4294967296) (hvt : 1 ≤ vt) :
    ul + p * (u2 + 4294967296 * top) < (top / vt + 1) * (vl + p * (v2 + 4294967296 * vt)) := by
  have h := Nat.lt_div_mul_add (a := top) (b := vt) hvt
  have h' : top < (top / vt + 1) * vt := by rw [Nat.add_mul, Nat.one_mul]; omega
  generalize top / vt + 1 = g at *
  have e1 : g * (vl + p * (v2 + 4294967296 * vt)) = g * vl + p * (g * v2 + 4294967296 * (g * vt)) := by
    rw [Nat.mul_add, Nat.mul_left_comm g p, Nat.mul_add g, Nat.mul_left_comm g 4294967296]
  have e2 : p * (u2 + 4294967296 * top + 1) ≤ p * (g * v2 + 4294967296 * (g * vt)) := Nat.mul_le_mul_left _ (by omega)
  rw [e1]
  rw [Nat.mul_add p _ 1, Nat.mul_one] at e2
  omega
theorem knuth_top {p vt v2 vl u2 ul top : Nat} (hvl : vl < p) (hv2 : v2 < 4294967296) (h : ul + p * (u2 + 4294967296 * top) < 4294967296 * (vl + p * (v2 + 4294967296 * vt))) :
    top < 4294967296 * vt + 4294967296 := by
  have hp : 0 < p := by omega
  have e1 : vl + p * (v2 + 4294967296 * vt) < p * (4294967296 * vt + 4294967296) := by
    have : p * (v2 + 4294967296 * vt + 1) ≤ p * (4294967296 * vt + 4294967296) := Nat.mul_le_mul_left _ (by omega)
    rw [Nat.mul_add p _ 1, Nat.mul_one] at this
    omega
  have e2 : p * (4294967296 * top) ≤ p * (u2 + 4294967296 * top) := Nat.mul_le_mul_left _ (by omega)
  have e3 : p * (4294967296 * top) < p * (4294967296 * (4294967296 * vt + 4294967296)) := by
    rw [Nat.mul_left_comm p 4294967296 (4294967296 * vt + 4294967296)]
    omega
  have := Nat.lt_of_mul_lt_mul_left e3
  omega
/-- A list by its lower digits, and the two at the end. -/
theorem val_two {ys : List Nat} {n : Nat} (h : ys.length = n + 2) : val ys = val (ys.take n) + 4294967296 ^ n * (ys.getD n 0 + 4294967296 * ys.getD (n + 1) 0) := by
  have e : val ys = val (ys.take (n + 2)) := by rw [List.take_of_length_le (by omega)]
  rw [e, val_take_succ', val_take_succ', Nat.pow_succ, Nat.mul_add, Nat.mul_assoc]; omega
theorem val_three {w : List Nat} {n : Nat} (hs : small w) (h : val w < 4294967296 ^ (n + 3)) : val w = val (w.take n) + 4294967296 ^ n * (w.getD n 0 + 4294967296 * (w.getD (n + 2) 0 * 4294967296 + w.getD (n + 1) 0)) := by
  have e : val w = val (w.take (n + 3)) := by rw [← (val_div_mod hs (n + 3)).2, Nat.mod_eq_of_lt h]
  rw [e, val_take_succ', val_take_succ', val_take_succ', Nat.pow_add _ n 2, Nat.pow_add _ n 1]
  generalize val (w.take n) = V
  generalize w.getD n 0 = d0
  generalize w.getD (n + 1) 0 = d1
  generalize w.getD (n + 2) 0 = d2
  generalize 4294967296 ^ n = p
  have a1 : p * 4294967296 ^ 1 * d1 = 4294967296 * (p * d1) := by rw [Nat.pow_one, Nat.mul_comm p, Nat.mul_assoc]
  have a2 : p * 4294967296 ^ 2 * d2 = 18446744073709551616 * (p * d2) := by rw [Nat.mul_comm p, Nat.mul_assoc]
  have a3 : p * (d0 + 4294967296 * (d2 * 4294967296 + d1)) = p * d0 + 4294967296 * (4294967296 * (p * d2) + p * d1) := by
    rw [Nat.mul_add, Nat.mul_left_comm p 4294967296, Nat.mul_add p, Nat.mul_comm d2, Nat.mul_left_comm p 4294967296]
  rw [a1, a2, a3]; omega
end Go.AM
namespace Go.AM
theorem getD_drop (xs : List Nat) (m i : Nat) : (xs.drop m).getD i 0 = xs.getD (m + i) 0 := by
  rw [List.getD_eq_getElem?_getD, List.getElem?_drop, ← List.getD_eq_getElem?_getD]
theorem val_drop_cons {xs : List Nat} {m : Nat} (h : m < xs.length) : val (xs.drop m) = xs.getD m 0 + 4294967296 * val (xs.drop (m + 1)) := by
  rw [List.drop_eq_getElem_cons h, val, List.getD_eq_getElem?_getD, List.getElem?_eq_getElem h]; rfl
end Go.AM
namespace Go.AM
theorem long_step (v p B Y T z d : Nat) : v * (p * B * Y) + (T + p * (z + d * v)) = v * (p * (d + B * Y)) + (T + p * z) := by
  rw [Nat.mul_add p z, Nat.mul_add p d, Nat.mul_add v, Nat.mul_assoc p B Y, ← Nat.mul_assoc p d v, Nat.mul_comm (p * d) v]; omega
end Go.AM
namespace Go.AM
theorem long_fin1 {z g v U X w : Nat} (h1 : z + (g + 1) * v = U + X * 1) (h2 : w + X * 1 = z + v) : w + g * v = U := by
  rw [Nat.add_mul, Nat.one_mul, Nat.mul_one] at h1; rw [Nat.mul_one] at h2; omega
theorem long_fin2 {z g v U X : Nat} (h1 : z + g * v = U + X * 1) (h2 : z < X) : U < g * v := by rw [Nat.mul_one] at h1; omega
end Go.AM
set_option linter.unusedVariables false
set_option linter.unusedSimpArgs false
set_option maxRecDepth 100000
namespace Go.AM.Z
open Go Go.AM Go.Proofs
attribute [local irreducible] run bin un ld st box newV mkS fldA fld ixA ix slc slc3 build buildS cv cvS ap cpy lenV gOp pickV b2 aIf aChk evalK resume iterD Option.bind

theorem subQL {t : TypeId} {a : Nat} (h : 1 ≤ a ∧ a < 18446744073709551616) : bin Tryd.prog .sub t (u64 a) (.int .u64 1) = some (u64 (a - 1)) := subQ (b := 1) h
theorem slc_own {b len cap lo hi : Nat} (h : lo ≤ hi ∧ hi ≤ len ∧ lo < cap) : slc Tryd.prog 22 (sl b 0 len cap) (some (i64 lo)) (some (i64 hi)) = some (sl b lo (hi - lo) (cap - lo)) := by
  unfold slc sl; rw [Us]; simp only [intOr, Option.bind_some]
  rw [if_pos ⟨Iw, by omega, by omega, by omega⟩, Int.toNat_natCast, Int.toNat_natCast, if_neg (by omega), Sw, Nat.zero_add, Nat.mul_one]
theorem guess_step {H0 B0 B H : AH} {L : List (Nat × Blk)} {us ys : List Nat} {b s4 s7 : Value} {bu j n Lu top U vt v2 u2 : Nat} (hS : St H0 B0 B ((bu, ⟨us.map u32, 70, .fix⟩) :: L) H) (hb : RdN B b ys) (hn : ys.length = n + 2) (hlu : us.length = Lu)
    (hj : j + (n + 3) ≤ Lu) (hlen : Lu < 549755813888) (hvt : ys.getD (n + 1) 0 = vt) (hv2 : ys.getD n 0 = v2) (hu2 : us.getD (j + n) 0 = u2) (hsmall : u2 < 4294967296) (hvtB : vt < 4294967296) (hvt0 : 1 ≤ vt) (hv2B : v2 < 4294967296)
    (hover : ∀ g rest, g * vt + rest = top → rest * 4294967296 + u2 < g * v2 → U < g * val ys) (hnear : ∀ g rest, g < 4294967296 → g * vt + rest = top → g * v2 ≤ rest * 4294967296 + u2 → g * val ys < U + val ys)
    (hUv : U < 4294967296 * val ys) (htop : top < 4294967296 * vt + 4294967296) (htB : top < 18446744073709551616) (g rest : Nat) (h1 : g * vt + rest = top) (hr : rest < 4294967296) (hU : U < (g + 1) * val ys)
    (hnext : 1 ≤ g → rest + vt < 4294967296 → U < g * val ys → Ev (fun k l => f75_L1 k b s4 s7 (i64 (n + 2)) (sl bu 0 Lu Lu) (i64 j) (u64 (g - 1)) (u64 (rest + vt)) l H)
      (fun o => ∃ g, o = (.exit 2, f75_X_L1 b s4 s7 (i64 (n + 2)) (sl bu 0 Lu Lu) (i64 j) (u64 g), H) ∧ g < 4294967296 ∧ U < (g + 1) * val ys ∧ g * val ys < U + val ys)) :
    Ev (fun k l => f75_L1 k b s4 s7 (i64 (n + 2)) (sl bu 0 Lu Lu) (i64 j) (u64 g) (u64 rest) l H)
      (fun o => ∃ g, o = (.exit 2, f75_X_L1 b s4 s7 (i64 (n + 2)) (sl bu 0 Lu Lu) (i64 j) (u64 g), H) ∧ g < 4294967296 ∧ U < (g + 1) * val ys ∧ g * val ys < U + val ys) := by
  refine Ev.succ (fun k l => f75_L1_succ k _ _ _ _ _ _ _ _ l H) ?_
  have hgB : g < 18446744073709551616 := by
    have : g * 1 ≤ g * vt := Nat.mul_le_mul_left _ hvt0
    omega
  obtain ⟨p, hp1, hp2⟩ := hb.ixN (k := .i64) (i := n + 1) Ew (by omega)
  obtain ⟨q, hq1, hq2⟩ := hb.ixN (k := .i64) (i := n) Ew (by omega)
  have hp3 := hp2 H hS.le
  have hq3 := hq2 H hS.le
  rw [hvt] at hp3
  rw [hv2] at hq3
  have more : U < g * val ys → Ev (fun k l => (bin Tryd.prog .sub 62 (u64 g) (.int .u64 1)).bind fun v70 =>
      (bin Tryd.prog .sub 3 (i64 (n + 2)) (.int .i64 1)).bind fun v71 => (ixA Tryd.prog 22 b v71).bind fun v72 => (ld Tryd.prog 70 H v72).bind fun v73 => (cv Tryd.prog 70 62 v73).bind fun v74 =>
      (bin Tryd.prog .add 62 (u64 rest) v74).bind fun v75 => (bin Tryd.prog .geq 62 v75 (.int .u64 4294967296)).bind fun v76 =>
      aIf v76 (some (EX.exit 2, f75_X_L1 b s4 s7 (i64 (n + 2)) (sl bu 0 Lu Lu) (i64 j) v70, H)) (f75_L1 k b s4 s7 (i64 (n + 2)) (sl bu 0 Lu Lu) (i64 j) v70 v75 l H))
      (fun o => ∃ g, o = (.exit 2, f75_X_L1 b s4 s7 (i64 (n + 2)) (sl bu 0 Lu Lu) (i64 j) (u64 g), H) ∧ g < 4294967296 ∧ U < (g + 1) * val ys ∧ g * val ys < U + val ys) := by
    intro hUg
    have hg1 : 1 ≤ g := by
      rcases Nat.eq_zero_or_pos g with h | h
      · subst h; omega
      · exact h
    refine Ev.prim (subQL ⟨hg1, hgB⟩) ?_
    refine Ev.prim (subL ⟨by omega, by omega⟩) ?_
    refine Ev.prim hp1 ?_
    refine Ev.prim hp3 ?_
    refine Ev.prim (toU64 (by omega) Uw Uq) ?_
    refine Ev.prim (addQ (by omega)) ?_
    refine Ev.prim geqL ?_
    obtain ⟨g', rfl⟩ : ∃ g', g = g' + 1 := ⟨g - 1, by omega⟩
    rw [Nat.add_sub_cancel] at hnext ⊢
    have h1' : g' * vt + (rest + vt) = top := by rw [Nat.add_mul] at h1; omega
    refine Ev.ifp (fun h => ?_) fun h => hnext hg1 (by omega) hUg
    have hgB' : g' < 4294967296 := by
      rcases Nat.lt_or_ge g' 4294967296 with h' | h'
      · exact h'
      · have : 4294967296 * vt ≤ g' * vt := Nat.mul_le_mul_right _ h'
        omega
    have hm : g' * v2 ≤ 4294967295 * 4294967295 := Nat.mul_le_mul (by omega) (by omega)
    exact Ev.ret ⟨g', rfl, hgB', hUg, hnear g' (rest + vt) hgB' h1' (by omega)⟩
  refine Ev.prim geqL ?_
  rcases Nat.lt_or_ge g 4294967296 with hg | hg
  · rw [decide_eq_false (by omega : ¬ 4294967296 ≤ g)]
    refine Ev.gDo (Ev.some2 ?_)
    refine Ev.gDo (Ev.some2 ?_)
    refine Ev.gDo (Ev.some2 ?_)
    refine Ev.gDo (Ev.gPrim (subL (a := n + 2) ⟨by omega, by omega⟩) rfl ?_)
    rw [Nat.add_sub_cancel]
    refine Ev.gDo (Ev.gPrim hq1 rfl ?_)
    refine Ev.gDo (Ev.gPrim hq3 rfl ?_)
    refine Ev.gDo (Ev.gPrim (toU64 (by omega) Uw Uq) rfl ?_)
    have hm : g * v2 ≤ 4294967295 * 4294967295 := Nat.mul_le_mul (by omega) (by omega)
    refine Ev.gDo (Ev.gPrim (mulQ (by omega)) rfl ?_)
    refine Ev.gDo (Ev.some2 ?_)
    refine Ev.gDo (Ev.gPrim (shlQL ⟨by decide, by omega⟩) rfl ?_)
    refine Ev.gDo (Ev.some2 ?_)
    refine Ev.gDo (Ev.some2 ?_)
    refine Ev.gDo (Ev.some2 ?_)
    refine Ev.gDo (Ev.gPrim (addN (by omega)) rfl ?_)
    refine Ev.gDo (Ev.gPrim (subL ⟨by omega, by omega⟩) rfl ?_)
    rw [show j + (n + 2) - 2 = j + n by omega]
    refine Ev.gDo (Ev.gPrim (ixA_own Ew (by omega)) rfl ?_)
    have hld : ld Tryd.prog 70 H (ptr bu (0 + (j + n))) = some (u32 u2) := by
      rw [ld_blk (hS.get (.head _)), ldK_own Ew, List.getElem?_map, Nat.zero_add, ← hu2, List.getD_eq_getElem?_getD, List.getElem?_eq_getElem (by omega)]; rfl
    refine Ev.gDo (Ev.gPrim hld rfl ?_)
    refine Ev.gDo (Ev.gPrim (toU64 (by omega) Uw Uq) rfl ?_)
    refine Ev.gDo (Ev.gPrim (orQ ⟨by omega, by omega⟩) rfl ?_)
    rw [Nat.or_comm, or_add (by omega), show u2 + rest * 2 ^ 32 = rest * 4294967296 + u2 by omega]
    refine Ev.gDo (Ev.gPrim gtrN rfl ?_)
    refine Ev.prim pick_f ?_
    refine Ev.ifp (fun h => more (hover g rest h1 h)) fun h => ?_
    exact Ev.ret ⟨g, rfl, hg, hU, hnear g rest hg h1 (by omega)⟩
  · rw [decide_eq_true hg]
    repeat refine Ev.gSkipF ?_
    refine Ev.prim pick_t ?_
    refine Ev.tt ?_
    refine more (Nat.lt_of_lt_of_le hUv (Nat.mul_le_mul_right _ hg))
theorem guess_loop {H0 B0 B H : AH} {L : List (Nat × Blk)} {us ys : List Nat} {b s4 s7 : Value} {bu j n Lu top U vt v2 u2 : Nat} (hS : St H0 B0 B ((bu, ⟨us.map u32, 70, .fix⟩) :: L) H) (hb : RdN B b ys) (hn : ys.length = n + 2) (hlu : us.length = Lu)
    (hj : j + (n + 3) ≤ Lu) (hlen : Lu < 549755813888) (hvt : ys.getD (n + 1) 0 = vt) (hv2 : ys.getD n 0 = v2) (hu2 : us.getD (j + n) 0 = u2) (hsmall : u2 < 4294967296) (hvtB : vt < 4294967296) (hvt0 : 1 ≤ vt) (hv2B : v2 < 4294967296)
    (hover : ∀ g rest, g * vt + rest = top → rest * 4294967296 + u2 < g * v2 → U < g * val ys) (hnear : ∀ g rest, g < 4294967296 → g * vt + rest = top → g * v2 ≤ rest * 4294967296 + u2 → g * val ys < U + val ys)
    (hUv : U < 4294967296 * val ys) (htop : top < 4294967296 * vt + 4294967296) (htB : top < 18446744073709551616) :
    ∀ (g rest : Nat), g * vt + rest = top → rest < 4294967296 → U < (g + 1) * val ys →
    Ev (fun k l => f75_L1 k b s4 s7 (i64 (n + 2)) (sl bu 0 Lu Lu) (i64 j) (u64 g) (u64 rest) l H)
      (fun o => ∃ g, o = (.exit 2, f75_X_L1 b s4 s7 (i64 (n + 2)) (sl bu 0 Lu Lu) (i64 j) (u64 g), H) ∧ g < 4294967296 ∧ U < (g + 1) * val ys ∧ g * val ys < U + val ys) := by
  intro g
  induction g with
  | zero =>
    intro rest h1 hr hU
    exact guess_step hS hb hn hlu hj hlen hvt hv2 hu2 hsmall hvtB hvt0 hv2B hover hnear hUv htop htB 0 rest h1 hr hU fun h => absurd h (by decide)
  | succ g ih =>
    intro rest h1 hr hU
    exact guess_step hS hb hn hlu hj hlen hvt hv2 hu2 hsmall hvtB hvt0 hv2B hover hnear hUv htop htB (g + 1) rest h1 hr hU fun _ h2 h3 => ih (rest + vt) (by rw [Nat.add_mul] at h1; omega) h2 h3
end Go.AM.Z
set_option linter.unusedVariables false
set_option linter.unusedSimpArgs false
set_option maxRecDepth 100000
namespace Go.AM.Z
open Go Go.AM Go.Proofs
attribute [local irreducible] run bin un ld st box newV mkS fldA fld ixA ix slc slc3 build buildS cv cvS ap cpy lenV gOp pickV b2 aIf aChk evalK resume iterD Option.bind

theorem long_loop {H0 B0 B : AH} {ys : List Nat} {b s7 : Value} {bu bq n M Lu N : Nat} (hb : RdN B b ys) (hn : ys.length = n + 2) (hLu : Lu = M + (n + 2)) (hlen : Lu < 549755813888) (hvt : 2147483648 ≤ ys.getD (n + 1) 0) :
    ∀ (m : Nat) (us qs : List Nat) (H : AH), m ≤ M → us.length = Lu → qs.length = M → small us → small qs → val (us.drop m) < val ys → N = val ys * (4294967296 ^ m * val (qs.drop m)) + val us →
    St H0 B0 B [(bu, ⟨us.map u32, 70, .fix⟩), (bq, ⟨qs.map u32, 70, .fix⟩)] H →
    Ev (fun k l => f75_L0 k b (sl bq 0 M M) s7 (i64 (n + 2)) (sl bu 0 Lu Lu) (.int .i64 ((m : Int) - 1)) l H)
      (fun o => ∃ us qs H, o = (.exit 0, f75_X_L0 (sl bq 0 M M) s7 (i64 (n + 2)) (sl bu 0 Lu Lu), H) ∧ us.length = Lu ∧ qs.length = M ∧ small us ∧ small qs ∧ val us < val ys ∧ N = val ys * val qs + val us ∧
        St H0 B0 B [(bu, ⟨us.map u32, 70, .fix⟩), (bq, ⟨qs.map u32, 70, .fix⟩)] H) := by
  intro m
  induction m with
  | zero =>
    intro us qs H hm hus hqs hsu hsq hv hN hS
    refine Ev.succ (fun k l => f75_L0_succ k _ _ _ _ _ _ l H) ?_
    refine Ev.prim bin_geq ?_
    refine Ev.ifp (fun h => absurd h (by omega)) fun _ => ?_
    rw [List.drop_zero] at hv hN
    rw [Nat.pow_zero, Nat.one_mul] at hN
    exact Ev.ret ⟨us, qs, H, rfl, hus, hqs, hsu, hsq, hv, hN, hS⟩
  | succ m ih =>
    intro us qs H hm hus hqs hsu hsq hv hN hS
    refine Ev.succ (fun k l => f75_L0_succ k _ _ _ _ _ _ l H) ?_
    rw [show (((m + 1 : Nat) : Int) - 1) = ((m : Nat) : Int) by omega]
    refine Ev.prim geqL ?_
    refine Ev.ifp (fun _ => ?_) fun h => absurd (Nat.zero_le _) h
    -- the numbers
    have hyl := val_lt hb.2
    rw [hn] at hyl
    have hU := val_drop_cons (xs := us) (m := m) (by omega)
    have hum := hsu.getD m
    have hUv : val (us.drop m) < 4294967296 * val ys := by
      have : 4294967296 * (val (us.drop (m + 1)) + 1) ≤ 4294967296 * val ys := Nat.mul_le_mul_left _ hv
      omega
    have hUB : val (us.drop m) < 4294967296 ^ (n + 3) := by
      rw [show n + 3 = (n + 2) + 1 by omega, Nat.pow_succ, Nat.mul_comm]
      exact Nat.lt_of_lt_of_le hUv (Nat.mul_le_mul_left _ (Nat.le_of_lt hyl))
    have hU3 := val_three (hsu.drop m) hUB
    have hv2 := val_two hn
    rw [getD_drop, getD_drop, getD_drop] at hU3
    have hul := val_take_lt (hsu.drop m) n
    have hvl := val_take_lt hb.2 n
    have hu2B := hsu.getD (m + n)
    have htB1 := hsu.getD (m + (n + 1))
    have htB2 := hsu.getD (m + (n + 2))
    have hvtB := hb.2.getD (n + 1)
    have hv2B := hb.2.getD n
    have hlow : val ((us.drop m).drop (n + 3)) = 0 := by
      rw [← (val_div_mod (hsu.drop m) (n + 3)).1, Nat.div_eq_of_lt hUB]
    generalize hvt' : ys.getD (n + 1) 0 = vt at *
    generalize hv2' : ys.getD n 0 = v2 at *
    generalize hu2' : us.getD (m + n) 0 = u2 at *
    generalize ht1' : us.getD (m + (n + 1)) 0 = t1 at *
    generalize ht2' : us.getD (m + (n + 2)) 0 = t2 at *
    generalize hul' : val ((us.drop m).take n) = ul at *
    generalize hvl' : val (ys.take n) = vl at *
    generalize hp' : 4294967296 ^ n = p at *
    -- the walk
    refine Ev.prim (addN (by omega)) ?_
    refine Ev.prim (ixA_own Ew (by omega)) ?_
    refine Ev.ldW Ew hS (.head _) (j := m + (n + 2)) (by omega) (by omega) ?_
    rw [ht2']
    refine Ev.prim (toU64 (by omega) Uw Uq) ?_
    refine Ev.prim (shlQL ⟨by decide, by omega⟩) ?_
    refine Ev.prim (addN (by omega)) ?_
    refine Ev.prim (subL ⟨by omega, by omega⟩) ?_
    refine Ev.prim (ixA_own Ew (by omega)) ?_
    refine Ev.ldW Ew hS (.head _) (j := m + (n + 1)) (by omega) (by omega) ?_
    rw [ht1']
    refine Ev.prim (toU64 (by omega) Uw Uq) ?_
    refine Ev.prim (orQ ⟨by omega, by omega⟩) ?_
    rw [Nat.or_comm, or_add (by omega), show t1 + t2 * 2 ^ 32 = t2 * 4294967296 + t1 by omega]
    obtain ⟨a, ha1, ha2⟩ := hb.ixN (k := .i64) (i := n + 1) Ew (by omega)
    have ha3 := ha2 H hS.le
    rw [hvt'] at ha3
    refine Ev.prim (subL (a := n + 2) ⟨by omega, by omega⟩) ?_
    refine Ev.prim ha1 ?_
    refine Ev.prim ha3 ?_
    refine Ev.prim (toU64 (by omega) Uw Uq) ?_
    refine Ev.prim (quoQ ⟨by omega, by omega⟩) ?_
    refine Ev.prim (subL (a := n + 2) ⟨by omega, by omega⟩) ?_
    refine Ev.prim ha1 ?_
    refine Ev.prim ha3 ?_
    refine Ev.prim (toU64 (by omega) Uw Uq) ?_
    refine Ev.prim (remN (by omega)) ?_
    have hUe := hU3
    have hve := hv2
    generalize htop : t2 * 4294967296 + t1 = top at *
    have hkt := knuth_top (u2 := u2) (ul := ul) (top := top) hvl hv2B (by rw [← hUe, ← hve]; exact hUv)
    have hkf := knuth_first (p := p) (vt := vt) (v2 := v2) (vl := vl) (u2 := u2) (ul := ul) (top := top) hul hu2B (by omega)
    rw [← hUe, ← hve] at hkf
    refine Ev.bind (Ev.loop (guess_loop (U := val (us.drop m)) (top := top) hS hb hn hus (j := m) (by omega) hlen hvt' hv2' hu2' hu2B hvtB (by omega) hv2B
      (fun g rest h1 h2 => by rw [hUe, hve]; exact knuth_over hul h1 h2) (fun g rest hg h1 h2 => by rw [hUe, hve]; exact knuth_near hvl hg (by omega) h1 h2)
      hUv hkt (by omega) (top / vt) (top % vt) (by rw [Nat.mul_comm]; exact Nat.div_add_mod ..) (Nat.lt_trans (Nat.mod_lt _ (by omega)) hvtB) hkf)) ?_
    rintro _ ⟨g, rfl, hgB, hg1, hg2⟩
    refine Ev.eq (fun k l => f75_A1_x2 k l _ _ _ _ _ _ _ H) ?_
    refine Ev.prim (addN (by omega)) ?_
    refine Ev.prim (addL (by omega)) ?_
    refine Ev.prim (slc_own ⟨by omega, by omega, by omega⟩) ?_
    rw [show m + (n + 2) + 1 - m = ys.length + 1 by omega]
    have last : ∀ (d : Nat) (zs : List Nat) (H : AH), d < 4294967296 → zs.length = Lu → small zs → val (zs.drop m) + d * val ys = val (us.drop m) → val (us.drop m) < (d + 1) * val ys → zs.take m = us.take m →
        St H0 B0 B [(bu, ⟨zs.map u32, 70, .fix⟩), (bq, ⟨qs.map u32, 70, .fix⟩)] H → Ev (fun k l => f75_J0 k l b (sl bq 0 M M) s7 (i64 (n + 2)) (sl bu 0 Lu Lu) (i64 m) (u64 d) H)
      (fun o => ∃ us qs H, o = (.exit 0, f75_X_L0 (sl bq 0 M M) s7 (i64 (n + 2)) (sl bu 0 Lu Lu), H) ∧ us.length = Lu ∧ qs.length = M ∧ small us ∧ small qs ∧ val us < val ys ∧ N = val ys * val qs + val us ∧
        St H0 B0 B [(bu, ⟨us.map u32, 70, .fix⟩), (bq, ⟨qs.map u32, 70, .fix⟩)] H) := by
      intro d zs H hd hzl hzs hz1 hz2 hz3 hS
      refine Ev.eq (fun k l => f75_J0_eq k l _ _ _ _ _ _ _ H) ?_
      refine Ev.prim (toU32 Uq Uw) ?_
      rw [Nat.mod_eq_of_lt hd]
      refine Ev.prim (ixA_own Ew (by omega)) ?_
      refine Ev.stW Ew hS (.tail _ (.head _)) (j := m) (by omega) (by omega) rfl (by simp) (.tail _ (.head _)) fun H1 hS1 => ?_
      refine Ev.prim (bin_sub64 (by omega)) ?_
      refine ih zs _ H1 (by omega) hzl (by simp [hqs]) hzs (hsq.set _ hd) (by rw [Nat.add_mul] at hz2; omega) ?_ hS1
      have e1 := val_drop zs m
      have e2 := val_drop us m
      rw [hz3] at e1
      rw [val_drop_cons (xs := qs.set m d) (by simp; omega), getD_set_self (by omega), List.drop_set_of_lt (by omega), hN, e1, e2, ← hz1, Nat.pow_succ]
      exact long_step ..
    refine Ev.b2 (take_spec hb hgB (by omega) (by omega) hsu hS) ?_
    rintro v H1 ⟨zs, bo, H2, e, hzl, hzs, hbo, hzv, hz1, hz2, hS1⟩
    cases e
    have e1 := val_drop zs m
    have e2 := val_drop us m
    rw [hz1] at e1
    have hlen3 : m + (ys.length + 1) = m + (n + 3) := by omega
    rw [hlen3] at hz2 hzv
    have hzlow : val ((zs.drop m).drop (n + 3)) = 0 := by rw [List.drop_drop, hz2, ← List.drop_drop]; exact hlow
    have hzlt : val (zs.drop m) < 4294967296 ^ (n + 3) := by
      have := val_drop (zs.drop m) (n + 3)
      rw [hzlow, Nat.mul_zero, Nat.add_zero] at this
      rw [this]; exact val_take_lt (hzs.drop m) (n + 3)
    have hpm : 0 < 4294967296 ^ m := Nat.pow_pos (by decide)
    have hz3 : val (zs.drop m) + g * val ys = val (us.drop m) + 4294967296 ^ (n + 3) * bo := by
      refine Nat.eq_of_mul_eq_mul_left hpm ?_
      rw [Nat.mul_add, Nat.mul_add, ← Nat.mul_assoc (4294967296 ^ m) (4294967296 ^ (n + 3)), ← Nat.pow_add]
      omega
    refine Ev.ifp (fun h => ?_) fun h => ?_
    · have hb1 : bo = 1 := by omega
      subst hb1
      obtain ⟨g', rfl⟩ : ∃ g', g = g' + 1 := by
        refine ⟨g - 1, ?_⟩
        have : g ≠ 0 := by intro e; subst e; omega
        omega
      refine Ev.prim (subQL ⟨by omega, by omega⟩) ?_
      refine Ev.prim (addN (by omega)) ?_
      refine Ev.prim (addL (by omega)) ?_
      refine Ev.prim (slc_own ⟨by omega, by omega, by omega⟩) ?_
      rw [show m + (n + 2) + 1 - m = ys.length + 1 by omega, Nat.add_sub_cancel]
      refine Ev.b2 (give_spec hb (by omega) (by omega) hzs hS1) ?_
      rintro v H1 ⟨ws, c, H3, e, hwl, hws, hc, hwv, hw1, hw2, hS2⟩
      cases e
      rw [hlen3] at hw2 hwv
      have e3 := val_drop ws m
      rw [hw1, hz1] at e3
      have hwlow : val ((ws.drop m).drop (n + 3)) = 0 := by rw [List.drop_drop, hw2, hz2, ← List.drop_drop]; exact hlow
      have hwlt : val (ws.drop m) < 4294967296 ^ (n + 3) := by
        have := val_drop (ws.drop m) (n + 3)
        rw [hwlow, Nat.mul_zero, Nat.add_zero] at this
        rw [this]; exact val_take_lt (hws.drop m) (n + 3)
      have hw3 : val (ws.drop m) + 4294967296 ^ (n + 3) * c = val (zs.drop m) + val ys := by
        refine Nat.eq_of_mul_eq_mul_left hpm ?_
        rw [Nat.mul_add, Nat.mul_add, ← Nat.mul_assoc (4294967296 ^ m) (4294967296 ^ (n + 3)), ← Nat.pow_add]
        omega
      have hc1 : c = 1 := by
        rcases Nat.eq_zero_or_pos c with h0 | h0
        · subst h0; omega
        · omega
      subst hc1
      exact last g' ws _ (by omega) (by omega) hws (long_fin1 hz3 hw3) (long_fin2 hz3 hzlt) (by rw [hw1, hz1]) hS2
    · have hb0 : bo = 0 := by omega
      subst hb0
      rw [Nat.mul_zero, Nat.add_zero] at hz3
      exact last g zs _ hgB (by omega) hzs hz3 hg1 hz1 hS1
end Go.AM.Z
set_option linter.unusedVariables false
namespace Go.AM
variable {R : Type} {P : Program} {t e : TypeId} {z : Value} {sz : Nat}
theorem Ev.cpyW {H0 B0 B L L' H} {b cap : Nat} {v : Value} {us xs : List Nat} {kd : BK} {f : Nat → Nat → Value → AH → Option R} {Q : R → Prop} (hE : Elt P t e z sz) (hS : St H0 B0 B L H) (hm : (b, ⟨us.map u32, e, kd⟩) ∈ L)
    (hx : RdN B v xs) (hl : xs.length ≤ us.length) (hk : kd ≠ .ro) (hu : Upd b ⟨us.map u32, e, kd⟩ ⟨(xs ++ us.drop xs.length).map u32, e, kd⟩ L L') (h : ∀ H', St H0 B0 B L' H' → Ev (fun k n => f k n (i64 xs.length) H') Q) :
    Ev (fun k n => Go.AM.b2 (cpy P t H (sl b 0 us.length cap) v) (f k n)) Q := by
  have hx' := hx.1.up hS.le
  have e1 := sliceCells_of hx'
  have e2 := lenOf_of hx'
  rw [List.length_map] at e1 e2
  have hmin : min xs.length us.length = xs.length := Nat.min_eq_left hl
  by_cases h0 : xs.length = 0
  · have : xs = [] := List.length_eq_zero_iff.mp h0
    subst this
    rw [List.nil_append, List.length_nil, List.drop_zero] at hu
    have hLL : L' = L := by
      clear hm hS h
      induction hu with
      | head => rfl
      | tail x _ ih => rw [ih]
    subst hLL
    refine Ev.prim2 ?_ (h H hS)
    unfold cpy sl
    rw [hE.U]; simp only
    rw [hE.I, if_neg (by simp), e2, Option.bind_some, hmin, hE.S, e1, Option.bind_some, if_pos h0]; rfl
  · refine Ev.prim2 ?_ (h _ (hS.put (cs := (xs ++ us.drop xs.length).map u32) hu))
    unfold cpy sl
    rw [hE.U]; simp only
    rw [hE.I, if_neg (by simp), e2, Option.bind_some, hmin, hE.S, e1, Option.bind_some, if_neg h0, hS.get hm, Option.bind_some]
    simp only
    rw [if_pos ⟨hk, by simp; omega, all_u32 xs⟩]
    simp [spl]
end Go.AM
set_option linter.unusedVariables false
set_option linter.unusedSimpArgs false
set_option maxRecDepth 100000
namespace Go.AM.Z
open Go Go.AM Go.Proofs
attribute [local irreducible] run bin un ld st box newV mkS fldA fld ixA ix slc slc3 build buildS cv cvS ap cpy lenV gOp pickV b2 aIf aChk evalK resume iterD Option.bind

theorem norm_top {y n : Nat} (hn : (limbs y).length = n + 2) : (limbs (y * 2 ^ (32 - nbits ((limbs y).getD (n + 1) 0)))).length = n + 2 ∧ 2147483648 ≤ (limbs (y * 2 ^ (32 - nbits ((limbs y).getD (n + 1) 0)))).getD (n + 1) 0 := by
  have hy : y ≠ 0 := by intro e; subst e; rw [limbs_zero] at hn; cases hn
  have h1 := nbits_limbs hy
  rw [hn, show n + 2 - 1 = n + 1 by omega] at h1
  have h32 : nbits ((limbs y).getD (n + 1) 0) ≤ 32 := nbits_le.mpr ((small_limbs y).getD _)
  generalize nbits ((limbs y).getD (n + 1) 0) = t at *
  have h2 := nbits_mul_pow (k := 32 - t) hy
  generalize hz : y * 2 ^ (32 - t) = z at *
  have hz0 : z ≠ 0 := by intro e; rw [e] at h2; have := nbits_pos hy; rw [nbits_zero] at h2; omega
  have h3 := nbits_limbs hz0
  have h4 : nbits ((limbs z).getD ((limbs z).length - 1) 0) ≤ 32 := nbits_le.mpr ((small_limbs z).getD _)
  have hl : (limbs z).length ≠ 0 := fun e => hz0 (limbs_eq_nil.mp (List.length_eq_zero_iff.mp e))
  have hne : (limbs z).getD ((limbs z).length - 1) 0 ≠ 0 := by
    refine limbs_getLast (n := z) _ ?_
    rw [List.getLast?_eq_getElem?, List.getD_eq_getElem?_getD, List.getElem?_eq_getElem (by omega)]; rfl
  have h5 := nbits_pos hne
  have hlen : (limbs z).length = n + 2 := by omega
  refine ⟨hlen, ?_⟩
  rw [hlen, show n + 2 - 1 = n + 1 by omega] at h3 hne
  exact nbits_ge (n := (limbs z).getD (n + 1) 0) hne |> fun h => by
    rw [show nbits ((limbs z).getD (n + 1) 0) = 32 by omega] at h; exact h
theorem long_spec {B H : AH} {a b : Value} {x y n : Nat} (ha : RdN B a (limbs x)) (hb : RdN B b (limbs y)) (hn : (limbs y).length = n + 2) (hxy : y ≤ x) (hm : (limbs x).length < 137438953472) (hL : Le B H) :
    Ev (fun k _ => rn k 75 [a, b] H) (An B H fun B' v => ∃ q r, v = .tuple #[q, r, .bool true] ∧ RdN B' q (limbs (x / y)) ∧ RdN B' r (limbs (x % y))) := by
  refine Ev.fn (fun k => f75_eq k _ _ H) ?_
  have hlen := limbs_length_mono hxy
  obtain ⟨hl1, hl2⟩ := norm_top hn
  have h32 : nbits ((limbs y).getD (n + 1) 0) ≤ 32 := nbits_le.mpr ((small_limbs y).getD _)
  have hS := St.start hL
  refine Ev.prim (hb.lenN Ew) ?_
  refine Ev.prim (subL ⟨by omega, by omega⟩) ?_
  obtain ⟨p, hp1, hp2⟩ := hb.ixN (k := .i64) (i := (limbs y).length - 1) Ew (by omega)
  refine Ev.prim hp1 ?_
  refine Ev.prim (hp2 H hL.le) ?_
  rw [show (limbs y).length - 1 = n + 1 by omega]
  refine Ev.callU (LZ_spec ((small_limbs y).getD _)) ?_
  rintro _ rfl
  generalize hk : 32 - nbits ((limbs y).getD (n + 1) 0) = k at *
  refine Ev.call hS (Shl_spec (n := k) hb (by omega) (by omega)) fun v B1 H1 hm1 hS1 h1 => ?_
  obtain ⟨b', rfl, hb'⟩ := h1
  rw [val_limbs] at hb'
  refine Ev.prim ext_0 ?_
  refine Ev.prim ext_1 ?_
  refine Ev.prim (hb'.lenN Ew) ?_
  refine Ev.prim (ha.lenN Ew) ?_
  refine Ev.prim (addL (by omega)) ?_
  refine Ev.mkS Ew hS1 (by omega) (by omega) fun bu B2 H2 hm2 hS2 => ?_
  rw [map_replicate] at hS2
  refine Ev.call hS2 (Shl_spec (n := k) (ha.mono (hm1.trans hm2)) (by omega) (by omega)) fun v B3 H3 hm3 hS3 h3 => ?_
  obtain ⟨up, rfl, hup⟩ := h3
  rw [val_limbs] at hup
  refine Ev.prim ext_0 ?_
  refine Ev.prim ext_1 ?_
  have hxl := val_lt (small_limbs x)
  rw [val_limbs] at hxl
  have hk32 : k ≤ 32 := by omega
  have hpk : 2 ^ k ≤ 4294967296 := Nat.pow_le_pow_right (n := 2) (by decide) hk32
  have hupl : (limbs (x * 2 ^ k)).length ≤ (limbs x).length + 1 := limbs_length_le (by
    rw [Nat.pow_succ]
    exact Nat.lt_of_lt_of_le (Nat.mul_lt_mul_of_pos_right hxl (Nat.pow_pos (by decide))) (Nat.mul_le_mul_left _ hpk))
  have hrl : (List.replicate ((limbs x).length + 1) 0).length = (limbs x).length + 1 := List.length_replicate
  rw [← hrl]
  refine Ev.cpyW Ew hS3 (.head _) hup (by omega) (by simp) (.head _) fun H4 hS4 => ?_
  rw [hrl]
  refine Ev.prim (ha.lenN Ew) ?_
  rw [hl1]
  refine Ev.prim (subN ⟨by omega, by omega⟩) ?_
  refine Ev.prim (addL (by omega)) ?_
  refine Ev.mkS Ew hS4 (by omega) (by omega) fun bq B5 H5 hm5 hS5 => ?_
  rw [map_replicate] at hS5
  refine Ev.prim (ha.lenN Ew) ?_
  refine Ev.prim (subN ⟨by omega, by omega⟩) ?_
  have hyB : 4294967296 ^ (n + 1) ≤ y := by
    rcases Nat.lt_or_ge y (4294967296 ^ (n + 1)) with h | h
    · have := limbs_length_le h; omega
    · exact h
  generalize hu0 : limbs (x * 2 ^ k) ++ (List.replicate ((limbs x).length + 1) 0).drop (limbs (x * 2 ^ k)).length = us at *
  have hul : us.length = (limbs x).length + 1 := by rw [← hu0]; simp; omega
  have hus : small us := by rw [← hu0]; exact (small_limbs _).append ((small_replicate _).drop _)
  have huv : val us = x * 2 ^ k := by rw [← hu0, val_append, val_limbs, List.drop_replicate, val_replicate, Nat.mul_zero, Nat.add_zero]
  obtain ⟨M, hM⟩ : ∃ M, (limbs x).length + 1 = M + (n + 2) := ⟨(limbs x).length + 1 - (n + 2), by omega⟩
  rw [show (limbs x).length - (n + 2) + 1 = M by omega] at hS5 ⊢
  rw [show i64 ((limbs x).length - (n + 2)) = Value.int .i64 ((M : Int) - 1) from int_eq (by omega)]
  have hb5 := hb'.mono ((hm2.trans hm3).trans hm5)
  have hS6 := hS5.perm (L' := [(bu, ⟨us.map u32, 70, .fix⟩), (bq, ⟨(List.replicate M 0).map u32, 70, .fix⟩)]) (List.Perm.swap ..)
  have hdv : val (us.drop M) < val (limbs (y * 2 ^ k)) := by
    rw [val_limbs, ← (val_div_mod hus M).1, huv]
    refine Nat.div_lt_of_lt_mul ?_
    rw [← Nat.mul_assoc]
    refine Nat.mul_lt_mul_of_pos_right ?_ (Nat.pow_pos (by decide))
    refine Nat.lt_of_lt_of_le hxl ?_
    rw [show (limbs x).length = M + (n + 1) by omega, Nat.pow_add]
    exact Nat.mul_le_mul_left _ hyB
  refine Ev.bind (Ev.loop (long_loop (s7 := i64 k) (M := M) (Lu := (limbs x).length + 1) (N := x * 2 ^ k) hb5 hl1 hM (by omega) hl2 M us (List.replicate M 0) H5 (Nat.le_refl _) hul (by simp) hus (small_replicate _) hdv
    (by rw [List.drop_eq_nil_of_le (by simp)]; simp [val, huv]) hS6)) ?_
  rintro _ ⟨us, qs, H7, rfl, hul, hql, hus, hqs, hlt, hN, hS7⟩
  rw [val_limbs] at hlt hN
  have h2k : 0 < 2 ^ k := Nat.pow_pos (by decide)
  have hy0 : 0 < y := Nat.lt_of_lt_of_le (Nat.pow_pos (by decide)) hyB
  have hq : val qs = x / y := by
    rw [← Nat.mul_div_mul_right x y h2k, hN, Nat.mul_add_div (Nat.mul_pos hy0 h2k), Nat.div_eq_of_lt hlt, Nat.add_zero]
  have hr : val us / 2 ^ k = x % y := by
    have h := Nat.mul_mod_mul_right (2 ^ k) x y
    rw [hN, Nat.mul_add_mod, Nat.mod_eq_of_lt hlt] at h
    rw [h, Nat.mul_div_cancel _ h2k]
  refine Ev.eq (fun k _ => f75_A0_x0 k _ _ _ _ H7) ?_
  obtain ⟨B8, hm8, hu8, hS8⟩ := hS7.freezeN (n := (limbs x).length + 1) (cap := (limbs x).length + 1) hus hul.symm (by omega)
  obtain ⟨B9, hm9, hq9, hS9⟩ := hS8.freezeN (n := M) (cap := M) hqs hql.symm (by omega)
  refine Ev.call hS9 (Trim_spec (by omega) hq9) fun q Ba Ha hma hSa hqa => ?_
  obtain ⟨v, hv1, hv2⟩ := (hu8.mono (hm9.trans hma)).uptoN (k := .i64) (i := n + 2) Ew (by omega)
  refine Ev.prim hv1 ?_
  have ht : val (us.take (n + 2)) = val us := by
    rw [← (val_div_mod hus (n + 2)).2, Nat.mod_eq_of_lt]
    have := val_lt (small_limbs (y * 2 ^ k))
    rw [val_limbs, hl1] at this
    exact Nat.lt_trans hlt this
  refine Ev.call hSa (Shr_spec hv2 (by rw [List.length_take]; omega) (by omega)) fun r Bb Hb hmb hSb hrb => ?_
  rw [hq] at hqa
  rw [ht, hr] at hrb
  exact Ev.done hSb ⟨q, r, rfl, hqa.mono hmb, hrb⟩
end Go.AM.Z
set_option linter.unusedVariables false
set_option linter.unusedSimpArgs false
set_option maxRecDepth 100000
namespace Go.AM.Z
open Go Go.AM Go.Proofs
attribute [local irreducible] run bin un ld st box newV mkS fldA fld ixA ix slc slc3 build buildS cv cvS ap cpy lenV gOp pickV b2 aIf aChk evalK resume iterD Option.bind

theorem cmpN_lt {a b : Nat} : cmpN a b < 0 ↔ a < b := by
  unfold cmpN; by_cases h : a < b
  · rw [if_pos h]; omega
  · rw [if_neg h]; by_cases h' : b < a
    · rw [if_pos h']; omega
    · rw [if_neg h']; omega
theorem DivMod_spec {B H : AH} {xs ys : List Nat} {a b : Value} (ha : RdN B a xs) (hb : RdN B b ys) (hm : xs.length < 137438953472) (hm' : ys.length < 137438953472) (hy : val ys ≠ 0) (hL : Le B H) :
    Ev (fun k _ => rn k 48 [a, b] H) (An B H fun B' v => ∃ q r, v = .tuple #[q, r, .bool true] ∧ RdN B' q (limbs (val xs / val ys)) ∧ RdN B' r (limbs (val xs % val ys))) := by
  refine Ev.fn (fun k => f48_eq k _ _ H) ?_
  have hx := limbs_length_le (val_lt ha.2)
  have hyl := limbs_length_le (val_lt hb.2)
  refine Ev.call (St.start hL) (Trim_spec (by omega) hb) fun b B1 H1 hm1 hS1 hb => ?_
  refine Ev.call hS1 (Trim_spec (by omega) (ha.mono hm1)) fun a B2 H2 hm2 hS2 ha => ?_
  have hb := hb.mono hm2
  generalize val xs = x at *
  generalize val ys = y at *
  have hyne : (limbs y).length ≠ 0 := fun e => hy (limbs_eq_nil.mp (List.length_eq_zero_iff.mp e))
  refine Ev.prim (hb.lenN Ew) ?_
  refine Ev.prim eqlL ?_
  refine Ev.ifp (fun h => absurd h hyne) fun _ => ?_
  refine Ev.callU (Cmp_spec ha hb (by omega) (by omega) hS2.lel) ?_
  rintro _ rfl
  rw [val_limbs, val_limbs]
  refine Ev.prim bin_lss ?_
  refine Ev.ifp (fun h => ?_) fun h => ?_
  · rw [cmpN_lt] at h
    refine Ev.done hS2 ⟨_, _, rfl, ?_, ?_⟩
    · rw [Nat.div_eq_of_lt h, limbs_zero]; exact RdN.nil
    · rw [Nat.mod_eq_of_lt h]; exact ha
  rw [cmpN_lt] at h
  refine Ev.prim (hb.lenN Ew) ?_
  refine Ev.prim eqlL ?_
  refine Ev.ifp (fun h1 => ?_) fun h1 => ?_
  · obtain ⟨p, hp1, hp2⟩ := hb.ixN (k := .i64) (i := 0) Ew (by omega)
    refine Ev.prim hp1 ?_
    refine Ev.prim (hp2 H2 hS2.le) ?_
    have hd : y = (limbs y).getD 0 0 := by
      conv => lhs; rw [← val_limbs y]
      match limbs y, h1 with
      | [d], _ => simp [val]
    have hd0 := (small_limbs y).getD 0
    rw [← hd] at hd0 ⊢
    refine Ev.call hS2 (short_spec ha hd0 hy (by omega)) fun v B3 H3 hm3 hS3 h3 => ?_
    obtain ⟨q, r, rfl, hq, hr⟩ := h3
    rw [val_limbs] at hq hr
    repeat (first | refine Ev.some2 ?_ | refine Ev.some1 ?_ | refine Ev.gDo ?_ | refine Ev.gSkipT ?_ | refine Ev.gSkipF ?_ | refine Ev.gUndef ?_ | refine Ev.gCall ?_ | refine Ev.tt ?_ | refine Ev.ff ?_ | refine Ev.gPrim (by (first | with_reducible exact lssL | with_reducible exact gtrL | with_reducible exact eqlL | with_reducible exact neqL | with_reducible exact leqL | with_reducible exact geqL | with_reducible exact lssN | with_reducible exact gtrN | with_reducible exact eqlN | with_reducible exact neqN | with_reducible exact leqN | with_reducible exact geqN | (with_reducible refine addL ?_; omega) | (with_reducible refine subL ?_; omega) | (with_reducible refine quoL ?_; omega) | (with_reducible refine mulL ?_; omega) | (with_reducible refine lmul ?_; omega) | (with_reducible refine addN ?_; omega) | (with_reducible refine subN ?_; omega) | (with_reducible refine quoN ?_; omega) | (with_reducible refine mulN ?_; omega) | (with_reducible refine addQ ?_; omega) | (with_reducible refine subQ ?_; omega) | (with_reducible refine mulQ ?_; omega) | (with_reducible refine shlQL ?_; omega) | (with_reducible refine shlQ ?_; omega) | (with_reducible refine remL ?_; decide) | (with_reducible refine shrL ?_; decide) | (with_reducible refine remN ?_; omega) | (with_reducible refine toU64 ?_ Uw Uq; omega) | (with_reducible exact toU32 Uq Uw) | exact bin_lss | exact bin_gtr | exact bin_eql | exact bin_neq | exact bin_leq | exact bin_geq | exact lenV_sl Us | exact ext_0 | exact ext_1 | exact ext_2 | exact pick_t | exact pick_f | exact bin_add64 (by omega) | exact bin_sub64 (by omega) | exact un_not | exact cv_int Uq Uw | exact cv_int Uw Uq | exact bin_add | exact bin_sub | exact bin_mul | rfl)) rfl ?_ | refine Ev.prim (by (first | with_reducible exact lssL | with_reducible exact gtrL | with_reducible exact eqlL | with_reducible exact neqL | with_reducible exact leqL | with_reducible exact geqL | with_reducible exact lssN | with_reducible exact gtrN | with_reducible exact eqlN | with_reducible exact neqN | with_reducible exact leqN | with_reducible exact geqN | (with_reducible refine addL ?_; omega) | (with_reducible refine subL ?_; omega) | (with_reducible refine quoL ?_; omega) | (with_reducible refine mulL ?_; omega) | (with_reducible refine lmul ?_; omega) | (with_reducible refine addN ?_; omega) | (with_reducible refine subN ?_; omega) | (with_reducible refine quoN ?_; omega) | (with_reducible refine mulN ?_; omega) | (with_reducible refine addQ ?_; omega) | (with_reducible refine subQ ?_; omega) | (with_reducible refine mulQ ?_; omega) | (with_reducible refine shlQL ?_; omega) | (with_reducible refine shlQ ?_; omega) | (with_reducible refine remL ?_; decide) | (with_reducible refine shrL ?_; decide) | (with_reducible refine remN ?_; omega) | (with_reducible refine toU64 ?_ Uw Uq; omega) | (with_reducible exact toU32 Uq Uw) | exact bin_lss | exact bin_gtr | exact bin_eql | exact bin_neq | exact bin_leq | exact bin_geq | exact lenV_sl Us | exact ext_0 | exact ext_1 | exact ext_2 | exact pick_t | exact pick_f | exact bin_add64 (by omega) | exact bin_sub64 (by omega) | exact un_not | exact cv_int Uq Uw | exact cv_int Uw Uq | exact bin_add | exact bin_sub | exact bin_mul | rfl)) ?_)
    exact Ev.done hS3 ⟨q, r, rfl, hq, hr⟩
  · obtain ⟨n, hn⟩ : ∃ n, (limbs y).length = n + 2 := ⟨(limbs y).length - 2, by omega⟩
    refine Ev.call hS2 (long_spec ha hb hn (by omega) (by omega)) fun v B3 H3 hm3 hS3 h3 => ?_
    obtain ⟨q, r, rfl, hq, hr⟩ := h3
    repeat (first | refine Ev.some2 ?_ | refine Ev.some1 ?_ | refine Ev.gDo ?_ | refine Ev.gSkipT ?_ | refine Ev.gSkipF ?_ | refine Ev.gUndef ?_ | refine Ev.gCall ?_ | refine Ev.tt ?_ | refine Ev.ff ?_ | refine Ev.gPrim (by (first | with_reducible exact lssL | with_reducible exact gtrL | with_reducible exact eqlL | with_reducible exact neqL | with_reducible exact leqL | with_reducible exact geqL | with_reducible exact lssN | with_reducible exact gtrN | with_reducible exact eqlN | with_reducible exact neqN | with_reducible exact leqN | with_reducible exact geqN | (with_reducible refine addL ?_; omega) | (with_reducible refine subL ?_; omega) | (with_reducible refine quoL ?_; omega) | (with_reducible refine mulL ?_; omega) | (with_reducible refine lmul ?_; omega) | (with_reducible refine addN ?_; omega) | (with_reducible refine subN ?_; omega) | (with_reducible refine quoN ?_; omega) | (with_reducible refine mulN ?_; omega) | (with_reducible refine addQ ?_; omega) | (with_reducible refine subQ ?_; omega) | (with_reducible refine mulQ ?_; omega) | (with_reducible refine shlQL ?_; omega) | (with_reducible refine shlQ ?_; omega) | (with_reducible refine remL ?_; decide) | (with_reducible refine shrL ?_; decide) | (with_reducible refine remN ?_; omega) | (with_reducible refine toU64 ?_ Uw Uq; omega) | (with_reducible exact toU32 Uq Uw) | exact bin_lss | exact bin_gtr | exact bin_eql | exact bin_neq | exact bin_leq | exact bin_geq | exact lenV_sl Us | exact ext_0 | exact ext_1 | exact ext_2 | exact pick_t | exact pick_f | exact bin_add64 (by omega) | exact bin_sub64 (by omega) | exact un_not | exact cv_int Uq Uw | exact cv_int Uw Uq | exact bin_add | exact bin_sub | exact bin_mul | rfl)) rfl ?_ | refine Ev.prim (by (first | with_reducible exact lssL | with_reducible exact gtrL | with_reducible exact eqlL | with_reducible exact neqL | with_reducible exact leqL | with_reducible exact geqL | with_reducible exact lssN | with_reducible exact gtrN | with_reducible exact eqlN | with_reducible exact neqN | with_reducible exact leqN | with_reducible exact geqN | (with_reducible refine addL ?_; omega) | (with_reducible refine subL ?_; omega) | (with_reducible refine quoL ?_; omega) | (with_reducible refine mulL ?_; omega) | (with_reducible refine lmul ?_; omega) | (with_reducible refine addN ?_; omega) | (with_reducible refine subN ?_; omega) | (with_reducible refine quoN ?_; omega) | (with_reducible refine mulN ?_; omega) | (with_reducible refine addQ ?_; omega) | (with_reducible refine subQ ?_; omega) | (with_reducible refine mulQ ?_; omega) | (with_reducible refine shlQL ?_; omega) | (with_reducible refine shlQ ?_; omega) | (with_reducible refine remL ?_; decide) | (with_reducible refine shrL ?_; decide) | (with_reducible refine remN ?_; omega) | (with_reducible refine toU64 ?_ Uw Uq; omega) | (with_reducible exact toU32 Uq Uw) | exact bin_lss | exact bin_gtr | exact bin_eql | exact bin_neq | exact bin_leq | exact bin_geq | exact lenV_sl Us | exact ext_0 | exact ext_1 | exact ext_2 | exact pick_t | exact pick_f | exact bin_add64 (by omega) | exact bin_sub64 (by omega) | exact un_not | exact cv_int Uq Uw | exact cv_int Uw Uq | exact bin_add | exact bin_sub | exact bin_mul | rfl)) ?_)
    exact Ev.done hS3 ⟨q, r, rfl, hq, hr⟩
end Go.AM.Z

set_option linter.unusedVariables false
set_option linter.unusedSimpArgs false
set_option maxRecDepth 100000
namespace Go.AM.Z
open Go Go.AM Go.Proofs
attribute [local irreducible] run bin un ld st box newV mkS fldA fld ixA ix slc slc3 build buildS cv cvS ap cpy lenV gOp pickV b2 aIf aChk evalK resume iterD Option.bind

end Go.AM.Z
set_option linter.unusedVariables false
namespace Go.AM
variable {R : Type} {P : Program} {t : TypeId}
theorem Ev.boxA {H0 B0 B L H} {l : List Value} {f : Nat → Nat → Value → AH → Option R} {Q : R → Prop} (hS : St H0 B0 B L H) (hv : l.all isCell = true)
    (h : ∀ b H', St H0 B0 B ((b, ⟨l, t, .fix⟩) :: L) H' → Ev (fun k n => f k n (ptr b 0) H') Q) : Ev (fun k n => Go.AM.b2 (Go.AM.box t H (.agg ⟨l⟩)) (f k n)) Q :=
  Ev.prim2 (by unfold Go.AM.box; rw [if_pos (show okCells (.agg ⟨l⟩) = true from hv)]; rfl) (h H.length _ (hS.mkB' l t .fix))
theorem cells_one {v : Value} (h : isCell v = true) : v.cells.toList = [v] := by
  cases v with
  | agg cs => exact absurd h (by simp [isCell])
  | tuple cs => exact absurd h (by simp [isCell])
  | _ => rfl
theorem Ev.newA {H0 B0 B L H} {l : List Value} {f : Nat → Nat → Value → AH → Option R} {Q : R → Prop} (hz : zeroT P t = some (.agg ⟨l⟩)) (hS : St H0 B0 B L H) (hv : l.all isCell = true)
    (h : ∀ b H', St H0 B0 B ((b, ⟨l, t, .fix⟩) :: L) H' → Ev (fun k n => f k n (ptr b 0) H') Q) : Ev (fun k n => Go.AM.b2 (Go.AM.newV P t H) (f k n)) Q := by
  have e : Go.AM.newV P t H = Go.AM.box t H (.agg ⟨l⟩) := by unfold Go.AM.newV; rw [hz]; rfl
  rw [e]; exact Ev.boxA hS hv h
theorem RdN.cell {B : AH} {v : Value} {xs : List Nat} (h : RdN B v xs) : isCell v = true := by
  rcases h.1 with ⟨rfl, _⟩ | ⟨b, off, cap, rfl, _⟩ <;> rfl
end Go.AM
set_option linter.unusedVariables false
namespace Go.AM
/-- How often two divides it. -/
def ctz (n : Nat) : Nat := if h : n = 0 then 0 else if n % 2 = 1 then 0 else ctz (n / 2) + 1
termination_by n
decreasing_by omega
theorem ctz_odd {n : Nat} (h : n % 2 = 1) : ctz n = 0 := by
  unfold ctz; rw [dif_neg (by omega), if_pos h]
theorem ctz_even {n : Nat} (h : n ≠ 0) : ctz (2 * n) = ctz n + 1 := by
  conv => lhs; unfold ctz
  rw [dif_neg (by omega), if_neg (by omega), show 2 * n / 2 = n by omega]
theorem ctz_spec {n : Nat} (h : n ≠ 0) : 2 ^ ctz n * (n / 2 ^ ctz n) = n ∧ (n / 2 ^ ctz n) % 2 = 1 := by
  induction n using Nat.strongRecOn with
  | ind n ih =>
    by_cases ho : n % 2 = 1
    · rw [ctz_odd ho]; simp [ho]
    · obtain ⟨m, rfl⟩ : ∃ m, n = 2 * m := ⟨n / 2, by omega⟩
      have hm : m ≠ 0 := by omega
      obtain ⟨h1, h2⟩ := ih m (by omega) hm
      rw [ctz_even hm, Nat.pow_succ, Nat.mul_comm (2 ^ ctz m) 2, Nat.mul_div_mul_left _ _ (by decide), Nat.mul_assoc, h1]
      exact ⟨rfl, h2⟩
def sg (neg : Bool) (n : Nat) : Int := if neg then -(n : Int) else n
theorem sg_neg {neg : Bool} {n : Nat} : (neg && decide (n ≠ 0)) = decide (sg neg n < 0) := by
  unfold sg; cases neg with
  | false => rw [Bool.false_and]; exact (decide_eq_false (by simp)).symm
  | true => rw [Bool.true_and]; exact decide_eq_decide.mpr (by simp; omega)
theorem sg_abs {neg : Bool} {n : Nat} : (sg neg n).natAbs = n := by unfold sg; cases neg <;> simp
theorem sg_add {n1 n2 : Bool} {x y : Nat} (h : n1 = n2) : sg n1 x + sg n2 y = sg n1 (x + y) := by
  subst h; unfold sg; cases n1 <;> simp <;> omega
theorem sg_norm {n : Bool} {x : Nat} : sg (n && decide (x ≠ 0)) x = sg n x := by
  unfold sg; cases n with
  | false => rfl
  | true => by_cases h : x = 0
            · subst h; rfl
            · rw [decide_eq_true h]; rfl
theorem sg_diff {a c : Bool} {x y : Nat} (h : a ≠ c) (hxy : y ≤ x) : sg a x + sg c y = sg a (x - y) := by
  unfold sg; cases a <;> cases c <;> simp at h ⊢ <;> omega
def rightI (neg : Bool) (xs : List Nat) : Bool := if xs.length = 0 then !neg else decide (xs.getD (xs.length - 1) 0 ≠ 0)
structure Dy where
  neg : Bool
  mag : List Nat
  e : Int
def rightD (d : Dy) : Bool := rightI d.neg d.mag && decide (if d.mag.length = 0 then d.e = 0 else d.mag.getD 0 0 % 2 = 1 ∧ (-131072 ≤ d.e ∧ d.e ≤ 131072))
abbrev zeroDy : Dy := ⟨false, [], 0⟩
def canon (z e : Int) : Dy := if z = 0 then zeroDy else ⟨decide (z < 0), limbs (z.natAbs / 2 ^ ctz z.natAbs), e + ctz z.natAbs⟩
def dz (d : Dy) : Int := sg d.neg (val d.mag)
theorem sg_int (z : Int) : sg (decide (z < 0)) z.natAbs = z := by
  unfold sg; by_cases h : z < 0
  · rw [decide_eq_true h]; simp; omega
  · rw [decide_eq_false h]; simp; omega
def icmp (a b : Int) : Int := if a < b then -1 else if b < a then 1 else 0
theorem sg_mulmul {a b : Bool} {x y : Nat} : sg (a != b) (x * y) = sg a x * sg b y := by
  unfold sg; cases a <;> cases b <;> simp [Int.neg_mul, Int.mul_neg]
theorem right_limbs {d : Dy} (h : rightD d = true) (hs : small d.mag) : d.mag = limbs (val d.mag) := by
  unfold rightD rightI at h
  rw [Bool.and_eq_true] at h
  have h := h.1
  by_cases h0 : d.mag.length = 0
  · have : d.mag = [] := List.length_eq_zero_iff.mp h0
    rw [this]; exact limbs_zero.symm
  · rw [if_neg h0] at h
    have h := of_decide_eq_true h
    refine (limbs_val hs fun y hy => ?_).symm
    rw [List.getLast?_eq_getElem?] at hy
    rw [List.getD_eq_getElem?_getD, hy] at h
    exact h
theorem val_ne {xs : List Nat} (h : xs = limbs (val xs)) (h0 : xs.length ≠ 0) : val xs ≠ 0 := by
  intro e; rw [e, limbs_zero] at h; rw [h] at h0; exact h0 rfl
def sameD (x y : Dy) : Prop := x.e = y.e ∧ x.neg = y.neg ∧ x.mag = y.mag
instance {x y : Dy} : Decidable (sameD x y) := inferInstanceAs (Decidable (_ ∧ _ ∧ _))
/-- The whole root. -/
theorem isq_ex (n : Nat) : ∃ s, s * s ≤ n ∧ n < (s + 1) * (s + 1) := by
  induction n with
  | zero => exact ⟨0, by decide, by decide⟩
  | succ n ih =>
    obtain ⟨s, h1, h2⟩ := ih
    by_cases h : n + 1 < (s + 1) * (s + 1)
    · exact ⟨s, by omega, h⟩
    · refine ⟨s + 1, by omega, ?_⟩
      have : (s + 1 + 1) * (s + 1 + 1) = (s + 1) * (s + 1) + 2 * s + 3 := by
        simp only [Nat.add_mul, Nat.mul_add, Nat.mul_one, Nat.one_mul]; omega
      omega
noncomputable def isq (n : Nat) : Nat := Classical.choose (isq_ex n)
end Go.AM
set_option linter.unusedVariables false
set_option linter.unusedSimpArgs false
set_option maxRecDepth 100000
namespace Go.AM.Z
open Go Go.AM Go.Proofs
attribute [local irreducible] run bin un ld st box newV mkS fldA fld ixA ix slc slc3 build buildS cv cvS ap cpy lenV gOp pickV b2 aIf aChk evalK resume iterD Option.bind

theorem fill2 {v w a b : Value} (hv : isCell v = true) (hw : isCell w = true) : fillB (fun i => [(0, 1), (1, 1)][i]?) [a, b] [(0, v), (1, w)] = some [v, w] := by
  have h1 := cells_one hv
  have h2 := cells_one hw
  simp [fillB, size_cells h1, size_cells h2, okCells_of hv, okCells_of hw, h1, h2, spl]
theorem fill1 {v a : Value} (hv : isCell v = true) : fillB (fun i => [(0, 1)][i]?) [a] [(0, v)] = some [v] := by
  have h1 := cells_one hv
  simp [fillB, size_cells h1, okCells_of hv, h1, spl]
theorem buildInt {v w : Value} (hv : isCell v = true) (hw : isCell w = true) : build Tryd.prog 24 [(0, v), (1, w)] = some (.agg #[v, w]) := by
  have h : build Tryd.prog 24 [(0, v), (1, w)] = (fillB (fun i => [(0, 1), (1, 1)][i]?) [.bool false, .slice none 0 0] [(0, v), (1, w)]).map fun cs => .agg cs.toArray := by kernel_rfl
  rw [h, fill2 hv hw]; rfl
theorem buildSize {v : Value} (hv : isCell v = true) : build Tryd.prog 57 [(0, v)] = some (.agg #[v]) := by
  have h : build Tryd.prog 57 [(0, v)] = (fillB (fun i => [(0, 1)][i]?) [.slice none 0 0] [(0, v)]).map fun cs => .agg cs.toArray := by kernel_rfl
  rw [h, fill1 hv]; rfl
theorem buildSigned {v w : Value} (hv : isCell v = true) (hw : isCell w = true) : build Tryd.prog 59 [(0, .agg #[v]), (1, w)] = some (.agg #[v, w]) := by
  have h : build Tryd.prog 59 [(0, .agg #[v]), (1, w)] = (fillB (fun i => [(0, 1), (1, 1)][i]?) [.slice none 0 0, .bool false] [(0, .agg #[v]), (1, w)]).map fun cs => .agg cs.toArray := by kernel_rfl
  have h2 := cells_one hw
  have e1 : (Value.agg #[v]).cells.toList = [v] := rfl
  have e2 : okCells (.agg #[v]) = true := by simp [okCells, hv]
  rw [h]
  simp [fillB, show (Value.agg #[v]).cells.size = 1 from rfl, e1, e2, size_cells h2, okCells_of hw, h2, spl]
theorem fldInt0 {b o : Nat} : fldA Tryd.prog 24 (ptr b o) 0 = some (ptr b o) := by kernel_rfl
theorem fldInt1 {b o : Nat} : fldA Tryd.prog 24 (ptr b o) 1 = some (ptr b (o + 1)) := by kernel_rfl
theorem fldSig0 {b o : Nat} : fldA Tryd.prog 59 (ptr b o) 0 = some (ptr b o) := by kernel_rfl
theorem fldSig1 {b o : Nat} : fldA Tryd.prog 59 (ptr b o) 1 = some (ptr b (o + 1)) := by kernel_rfl
theorem fldSize0 {b o : Nat} : fldA Tryd.prog 57 (ptr b o) 0 = some (ptr b o) := by kernel_rfl
theorem zInt : zeroT Tryd.prog 24 = some (.agg ⟨[.bool false, .slice none 0 0]⟩) := by kernel_rfl
theorem zSig : zeroT Tryd.prog 59 = some (.agg ⟨[.slice none 0 0, .bool false]⟩) := by kernel_rfl
theorem aInt : aggT Tryd.prog 24 = some true := by kernel_rfl
theorem sInt : szT Tryd.prog 24 = 2 := by kernel_rfl
theorem aSig : aggT Tryd.prog 59 = some true := by kernel_rfl
theorem sSig : szT Tryd.prog 59 = 2 := by kernel_rfl
theorem aSize : aggT Tryd.prog 57 = some true := by kernel_rfl
theorem sSize : szT Tryd.prog 57 = 1 := by kernel_rfl
theorem aS : aggT Tryd.prog 22 = some false := by kernel_rfl
theorem aBo : aggT Tryd.prog 4 = some false := by kernel_rfl
theorem ldkInt {a b : Value} : ldK Tryd.prog 24 [a, b] 0 = some (.agg #[a, b]) := by unfold ldK; rw [aInt]; simp only [sInt]; rfl
theorem ldkSig {a b : Value} : ldK Tryd.prog 59 [a, b] 0 = some (.agg #[a, b]) := by unfold ldK; rw [aSig]; simp only [sSig]; rfl
theorem ldkSize {a b : Value} : ldK Tryd.prog 57 [a, b] 0 = some (.agg #[a]) := by unfold ldK; rw [aSize]; simp only [sSize]; rfl
theorem ldkS {cs : List Value} {i : Nat} : ldK Tryd.prog 22 cs i = cs[i]? := by unfold ldK; rw [aS]
theorem ldkBo {cs : List Value} {i : Nat} : ldK Tryd.prog 4 cs i = cs[i]? := by unfold ldK; rw [aBo]
theorem stkInt {a b c d : Value} (hc : isCell c = true) (hd : isCell d = true) : stK Tryd.prog 24 [a, b] 0 (.agg #[c, d]) = some [c, d] := by unfold stK; rw [aInt]; simp [sInt, spl, hc, hd]
theorem stkSig {a b c d : Value} (hc : isCell c = true) (hd : isCell d = true) : stK Tryd.prog 59 [a, b] 0 (.agg #[c, d]) = some [c, d] := by unfold stK; rw [aSig]; simp [sSig, spl, hc, hd]
theorem of_spec {B H : AH} {xs : List Nat} {m : Value} {neg : Bool} (hm : xs.length < 1099511627776) (ha : RdN B m xs) (hL : Le B H) :
    Ev (fun k _ => rn k 43 [.agg #[.bool neg, m]] H) (An B H fun B' v => ∃ w, v = .agg #[w, .bool (neg && decide (val xs ≠ 0))] ∧ RdN B' w (limbs (val xs))) := by
  refine Ev.fn (fun k => f43_eq k _ H) ?_
  refine Ev.boxA (St.start hL) (by have := ha.cell; simp only [List.all_cons, List.all_nil, this]; rfl) fun b1 H1 hS1 => ?_
  refine Ev.newA zSig hS1 rfl fun b2 H2 hS2 => ?_
  refine Ev.prim fldInt1 ?_
  refine Ev.ld hS2 (by (first | exact .head _ | exact .tail _ (.head _) | exact .tail _ (.tail _ (.head _)) | exact .tail _ (.tail _ (.tail _ (.head _))) | exact .tail _ (.tail _ (.tail _ (.tail _ (.head _)))))) (ldkS.trans rfl) ?_
  refine Ev.call hS2 (Trim_spec hm ha) fun w B3 H3 hm3 hS3 hw => ?_
  refine Ev.prim (buildSize hw.cell) ?_
  refine Ev.prim fldInt0 ?_
  refine Ev.ld hS3 (by (first | exact .head _ | exact .tail _ (.head _) | exact .tail _ (.tail _ (.head _)) | exact .tail _ (.tail _ (.tail _ (.head _))) | exact .tail _ (.tail _ (.tail _ (.tail _ (.head _)))))) (ldkBo.trans rfl) ?_
  have fin : ∀ c : Bool, c = (neg && decide (val xs ≠ 0)) → Ev (fun k n => (build Tryd.prog 59 [(0, .agg #[w]), (1, .bool c)]).bind fun v13 => (st Tryd.prog 59 H3 (ptr b2 0) v13).bind fun h14 => ((ld Tryd.prog 59 h14 (ptr b2 0)).bind fun v15 => some (v15 :: [])).bind fun vs => some (oneOf vs, h14))
      (An B H fun B' v => ∃ w, v = .agg #[w, .bool (neg && decide (val xs ≠ 0))] ∧ RdN B' w (limbs (val xs))) := by
    intro c hc
    refine Ev.prim (buildSigned hw.cell rfl) ?_
    refine Ev.st hS3 (.head _) (stkSig hw.cell rfl) (by simp) (.head _) fun H4 hS4 => ?_
    refine Ev.assoc ?_
    refine Ev.ld hS4 (.head _) ldkSig ?_
    refine Ev.some1 ?_
    exact Ev.done hS4 ⟨w, by rw [hc]; rfl, hw⟩
  cases neg with
  | false =>
    repeat (first | refine Ev.some2 ?_ | refine Ev.some1 ?_ | refine Ev.gDo ?_ | refine Ev.gSkipT ?_ | refine Ev.gSkipF ?_ | refine Ev.gUndef ?_ | refine Ev.gCall ?_ | refine Ev.tt ?_ | refine Ev.ff ?_ | refine Ev.gPrim (by (first | with_reducible exact lssL | with_reducible exact gtrL | with_reducible exact eqlL | with_reducible exact neqL | with_reducible exact leqL | with_reducible exact geqL | with_reducible exact lssN | with_reducible exact gtrN | with_reducible exact eqlN | with_reducible exact neqN | with_reducible exact leqN | with_reducible exact geqN | (with_reducible refine addL ?_; omega) | (with_reducible refine subL ?_; omega) | (with_reducible refine quoL ?_; omega) | (with_reducible refine mulL ?_; omega) | (with_reducible refine lmul ?_; omega) | (with_reducible refine addN ?_; omega) | (with_reducible refine subN ?_; omega) | (with_reducible refine quoN ?_; omega) | (with_reducible refine mulN ?_; omega) | (with_reducible refine addQ ?_; omega) | (with_reducible refine subQ ?_; omega) | (with_reducible refine mulQ ?_; omega) | (with_reducible refine shlQL ?_; omega) | (with_reducible refine shlQ ?_; omega) | (with_reducible refine remL ?_; decide) | (with_reducible refine shrL ?_; decide) | (with_reducible refine remN ?_; omega) | (with_reducible refine toU64 ?_ Uw Uq; omega) | (with_reducible exact toU32 Uq Uw) | exact bin_lss | exact bin_gtr | exact bin_eql | exact bin_neq | exact bin_leq | exact bin_geq | exact lenV_sl Us | exact ext_0 | exact ext_1 | exact ext_2 | exact pick_t | exact pick_f | exact bin_add64 (by omega) | exact bin_sub64 (by omega) | exact un_not | exact cv_int Uq Uw | exact cv_int Uw Uq | exact bin_add | exact bin_sub | exact bin_mul | rfl)) rfl ?_ | refine Ev.prim (by (first | with_reducible exact lssL | with_reducible exact gtrL | with_reducible exact eqlL | with_reducible exact neqL | with_reducible exact leqL | with_reducible exact geqL | with_reducible exact lssN | with_reducible exact gtrN | with_reducible exact eqlN | with_reducible exact neqN | with_reducible exact leqN | with_reducible exact geqN | (with_reducible refine addL ?_; omega) | (with_reducible refine subL ?_; omega) | (with_reducible refine quoL ?_; omega) | (with_reducible refine mulL ?_; omega) | (with_reducible refine lmul ?_; omega) | (with_reducible refine addN ?_; omega) | (with_reducible refine subN ?_; omega) | (with_reducible refine quoN ?_; omega) | (with_reducible refine mulN ?_; omega) | (with_reducible refine addQ ?_; omega) | (with_reducible refine subQ ?_; omega) | (with_reducible refine mulQ ?_; omega) | (with_reducible refine shlQL ?_; omega) | (with_reducible refine shlQ ?_; omega) | (with_reducible refine remL ?_; decide) | (with_reducible refine shrL ?_; decide) | (with_reducible refine remN ?_; omega) | (with_reducible refine toU64 ?_ Uw Uq; omega) | (with_reducible exact toU32 Uq Uw) | exact bin_lss | exact bin_gtr | exact bin_eql | exact bin_neq | exact bin_leq | exact bin_geq | exact lenV_sl Us | exact ext_0 | exact ext_1 | exact ext_2 | exact pick_t | exact pick_f | exact bin_add64 (by omega) | exact bin_sub64 (by omega) | exact un_not | exact cv_int Uq Uw | exact cv_int Uw Uq | exact bin_add | exact bin_sub | exact bin_mul | rfl)) ?_)
    exact fin false rfl
  | true =>
    repeat (first | refine Ev.some2 ?_ | refine Ev.some1 ?_ | refine Ev.gDo ?_ | refine Ev.gSkipT ?_ | refine Ev.gSkipF ?_ | refine Ev.gUndef ?_ | refine Ev.gCall ?_ | refine Ev.tt ?_ | refine Ev.ff ?_ | refine Ev.gPrim (by (first | with_reducible exact lssL | with_reducible exact gtrL | with_reducible exact eqlL | with_reducible exact neqL | with_reducible exact leqL | with_reducible exact geqL | with_reducible exact lssN | with_reducible exact gtrN | with_reducible exact eqlN | with_reducible exact neqN | with_reducible exact leqN | with_reducible exact geqN | (with_reducible refine addL ?_; omega) | (with_reducible refine subL ?_; omega) | (with_reducible refine quoL ?_; omega) | (with_reducible refine mulL ?_; omega) | (with_reducible refine lmul ?_; omega) | (with_reducible refine addN ?_; omega) | (with_reducible refine subN ?_; omega) | (with_reducible refine quoN ?_; omega) | (with_reducible refine mulN ?_; omega) | (with_reducible refine addQ ?_; omega) | (with_reducible refine subQ ?_; omega) | (with_reducible refine mulQ ?_; omega) | (with_reducible refine shlQL ?_; omega) | (with_reducible refine shlQ ?_; omega) | (with_reducible refine remL ?_; decide) | (with_reducible refine shrL ?_; decide) | (with_reducible refine remN ?_; omega) | (with_reducible refine toU64 ?_ Uw Uq; omega) | (with_reducible exact toU32 Uq Uw) | exact bin_lss | exact bin_gtr | exact bin_eql | exact bin_neq | exact bin_leq | exact bin_geq | exact lenV_sl Us | exact ext_0 | exact ext_1 | exact ext_2 | exact pick_t | exact pick_f | exact bin_add64 (by omega) | exact bin_sub64 (by omega) | exact un_not | exact cv_int Uq Uw | exact cv_int Uw Uq | exact bin_add | exact bin_sub | exact bin_mul | rfl)) rfl ?_ | refine Ev.prim (by (first | with_reducible exact lssL | with_reducible exact gtrL | with_reducible exact eqlL | with_reducible exact neqL | with_reducible exact leqL | with_reducible exact geqL | with_reducible exact lssN | with_reducible exact gtrN | with_reducible exact eqlN | with_reducible exact neqN | with_reducible exact leqN | with_reducible exact geqN | (with_reducible refine addL ?_; omega) | (with_reducible refine subL ?_; omega) | (with_reducible refine quoL ?_; omega) | (with_reducible refine mulL ?_; omega) | (with_reducible refine lmul ?_; omega) | (with_reducible refine addN ?_; omega) | (with_reducible refine subN ?_; omega) | (with_reducible refine quoN ?_; omega) | (with_reducible refine mulN ?_; omega) | (with_reducible refine addQ ?_; omega) | (with_reducible refine subQ ?_; omega) | (with_reducible refine mulQ ?_; omega) | (with_reducible refine shlQL ?_; omega) | (with_reducible refine shlQ ?_; omega) | (with_reducible refine remL ?_; decide) | (with_reducible refine shrL ?_; decide) | (with_reducible refine remN ?_; omega) | (with_reducible refine toU64 ?_ Uw Uq; omega) | (with_reducible exact toU32 Uq Uw) | exact bin_lss | exact bin_gtr | exact bin_eql | exact bin_neq | exact bin_leq | exact bin_geq | exact lenV_sl Us | exact ext_0 | exact ext_1 | exact ext_2 | exact pick_t | exact pick_f | exact bin_add64 (by omega) | exact bin_sub64 (by omega) | exact un_not | exact cv_int Uq Uw | exact cv_int Uw Uq | exact bin_add | exact bin_sub | exact bin_mul | rfl)) ?_)
    refine Ev.gPrim (hw.lenN Ew) rfl ?_
    repeat (first | refine Ev.some2 ?_ | refine Ev.some1 ?_ | refine Ev.gDo ?_ | refine Ev.gSkipT ?_ | refine Ev.gSkipF ?_ | refine Ev.gUndef ?_ | refine Ev.gCall ?_ | refine Ev.tt ?_ | refine Ev.ff ?_ | refine Ev.gPrim (by (first | with_reducible exact lssL | with_reducible exact gtrL | with_reducible exact eqlL | with_reducible exact neqL | with_reducible exact leqL | with_reducible exact geqL | with_reducible exact lssN | with_reducible exact gtrN | with_reducible exact eqlN | with_reducible exact neqN | with_reducible exact leqN | with_reducible exact geqN | (with_reducible refine addL ?_; omega) | (with_reducible refine subL ?_; omega) | (with_reducible refine quoL ?_; omega) | (with_reducible refine mulL ?_; omega) | (with_reducible refine lmul ?_; omega) | (with_reducible refine addN ?_; omega) | (with_reducible refine subN ?_; omega) | (with_reducible refine quoN ?_; omega) | (with_reducible refine mulN ?_; omega) | (with_reducible refine addQ ?_; omega) | (with_reducible refine subQ ?_; omega) | (with_reducible refine mulQ ?_; omega) | (with_reducible refine shlQL ?_; omega) | (with_reducible refine shlQ ?_; omega) | (with_reducible refine remL ?_; decide) | (with_reducible refine shrL ?_; decide) | (with_reducible refine remN ?_; omega) | (with_reducible refine toU64 ?_ Uw Uq; omega) | (with_reducible exact toU32 Uq Uw) | exact bin_lss | exact bin_gtr | exact bin_eql | exact bin_neq | exact bin_leq | exact bin_geq | exact lenV_sl Us | exact ext_0 | exact ext_1 | exact ext_2 | exact pick_t | exact pick_f | exact bin_add64 (by omega) | exact bin_sub64 (by omega) | exact un_not | exact cv_int Uq Uw | exact cv_int Uw Uq | exact bin_add | exact bin_sub | exact bin_mul | rfl)) rfl ?_ | refine Ev.prim (by (first | with_reducible exact lssL | with_reducible exact gtrL | with_reducible exact eqlL | with_reducible exact neqL | with_reducible exact leqL | with_reducible exact geqL | with_reducible exact lssN | with_reducible exact gtrN | with_reducible exact eqlN | with_reducible exact neqN | with_reducible exact leqN | with_reducible exact geqN | (with_reducible refine addL ?_; omega) | (with_reducible refine subL ?_; omega) | (with_reducible refine quoL ?_; omega) | (with_reducible refine mulL ?_; omega) | (with_reducible refine lmul ?_; omega) | (with_reducible refine addN ?_; omega) | (with_reducible refine subN ?_; omega) | (with_reducible refine quoN ?_; omega) | (with_reducible refine mulN ?_; omega) | (with_reducible refine addQ ?_; omega) | (with_reducible refine subQ ?_; omega) | (with_reducible refine mulQ ?_; omega) | (with_reducible refine shlQL ?_; omega) | (with_reducible refine shlQ ?_; omega) | (with_reducible refine remL ?_; decide) | (with_reducible refine shrL ?_; decide) | (with_reducible refine remN ?_; omega) | (with_reducible refine toU64 ?_ Uw Uq; omega) | (with_reducible exact toU32 Uq Uw) | exact bin_lss | exact bin_gtr | exact bin_eql | exact bin_neq | exact bin_leq | exact bin_geq | exact lenV_sl Us | exact ext_0 | exact ext_1 | exact ext_2 | exact pick_t | exact pick_f | exact bin_add64 (by omega) | exact bin_sub64 (by omega) | exact un_not | exact cv_int Uq Uw | exact cv_int Uw Uq | exact bin_add | exact bin_sub | exact bin_mul | rfl)) ?_)
    refine fin _ ?_
    rw [Bool.true_and]
    refine decide_eq_decide.mpr ?_
    rw [Nat.pos_iff_ne_zero, ne_eq, List.length_eq_zero_iff, limbs_eq_nil]
end Go.AM.Z
set_option linter.unusedVariables false
set_option linter.unusedSimpArgs false
set_option maxRecDepth 100000
namespace Go.AM.Z
open Go Go.AM Go.Proofs
attribute [local irreducible] run bin un ld st box newV mkS fldA fld ixA ix slc slc3 build buildS cv cvS ap cpy lenV gOp pickV b2 aIf aChk evalK resume iterD Option.bind

theorem zero_spec {B H : AH} {xs : List Nat} {m : Value} (hm : xs.length < 1099511627776) (ha : RdN B m xs) (hL : Le B H) :
    Ev (fun k _ => rn k 62 [.agg #[m]] H) (An B H fun _ v => v = .bool (decide (xs.length = 0))) := by
  refine Ev.fn (fun k => f62_eq k _ H) ?_
  refine Ev.boxA (St.start hL) (by have := ha.cell; simp only [List.all_cons, List.all_nil, this]; rfl) fun b1 H1 hS1 => ?_
  refine Ev.prim fldSize0 ?_
  refine Ev.ld hS1 (by (first | exact .head _ | exact .tail _ (.head _) | exact .tail _ (.tail _ (.head _)) | exact .tail _ (.tail _ (.tail _ (.head _))) | exact .tail _ (.tail _ (.tail _ (.tail _ (.head _)))))) (ldkS.trans rfl) ?_
  refine Ev.prim (ha.lenN Ew) ?_
  refine Ev.prim eqlL ?_
  exact Ev.done hS1 rfl
theorem out_spec {B H : AH} {n : Nat} {m : Value} {neg : Bool} (hm : (limbs n).length < 1099511627776) (ha : RdN B m (limbs n)) (hL : Le B H) :
    Ev (fun k _ => rn k 49 [.agg #[m, .bool neg]] H) (An B H fun _ v => v = .agg #[.bool (neg && decide (n ≠ 0)), m]) := by
  refine Ev.fn (fun k => f49_eq k _ H) ?_
  refine Ev.boxA (St.start hL) (by have := ha.cell; simp only [List.all_cons, List.all_nil, this]; rfl) fun b1 H1 hS1 => ?_
  refine Ev.newA zInt hS1 rfl fun b2 H2 hS2 => ?_
  refine Ev.prim fldSig1 ?_
  refine Ev.ld hS2 (by (first | exact .head _ | exact .tail _ (.head _) | exact .tail _ (.tail _ (.head _)) | exact .tail _ (.tail _ (.tail _ (.head _))) | exact .tail _ (.tail _ (.tail _ (.tail _ (.head _)))))) (ldkBo.trans rfl) ?_
  cases neg with
  | false =>
    repeat (first | refine Ev.some2 ?_ | refine Ev.some1 ?_ | refine Ev.gDo ?_ | refine Ev.gSkipT ?_ | refine Ev.gSkipF ?_ | refine Ev.gUndef ?_ | refine Ev.gCall ?_ | refine Ev.tt ?_ | refine Ev.ff ?_ | refine Ev.gPrim (by (first | with_reducible exact lssL | with_reducible exact gtrL | with_reducible exact eqlL | with_reducible exact neqL | with_reducible exact leqL | with_reducible exact geqL | with_reducible exact lssN | with_reducible exact gtrN | with_reducible exact eqlN | with_reducible exact neqN | with_reducible exact leqN | with_reducible exact geqN | (with_reducible refine addL ?_; omega) | (with_reducible refine subL ?_; omega) | (with_reducible refine quoL ?_; omega) | (with_reducible refine mulL ?_; omega) | (with_reducible refine lmul ?_; omega) | (with_reducible refine addN ?_; omega) | (with_reducible refine subN ?_; omega) | (with_reducible refine quoN ?_; omega) | (with_reducible refine mulN ?_; omega) | (with_reducible refine addQ ?_; omega) | (with_reducible refine subQ ?_; omega) | (with_reducible refine mulQ ?_; omega) | (with_reducible refine shlQL ?_; omega) | (with_reducible refine shlQ ?_; omega) | (with_reducible refine remL ?_; decide) | (with_reducible refine shrL ?_; decide) | (with_reducible refine remN ?_; omega) | (with_reducible refine toU64 ?_ Uw Uq; omega) | (with_reducible exact toU32 Uq Uw) | exact bin_lss | exact bin_gtr | exact bin_eql | exact bin_neq | exact bin_leq | exact bin_geq | exact lenV_sl Us | exact ext_0 | exact ext_1 | exact ext_2 | exact pick_t | exact pick_f | exact bin_add64 (by omega) | exact bin_sub64 (by omega) | exact un_not | exact cv_int Uq Uw | exact cv_int Uw Uq | exact bin_add | exact bin_sub | exact bin_mul | rfl)) rfl ?_ | refine Ev.prim (by (first | with_reducible exact lssL | with_reducible exact gtrL | with_reducible exact eqlL | with_reducible exact neqL | with_reducible exact leqL | with_reducible exact geqL | with_reducible exact lssN | with_reducible exact gtrN | with_reducible exact eqlN | with_reducible exact neqN | with_reducible exact leqN | with_reducible exact geqN | (with_reducible refine addL ?_; omega) | (with_reducible refine subL ?_; omega) | (with_reducible refine quoL ?_; omega) | (with_reducible refine mulL ?_; omega) | (with_reducible refine lmul ?_; omega) | (with_reducible refine addN ?_; omega) | (with_reducible refine subN ?_; omega) | (with_reducible refine quoN ?_; omega) | (with_reducible refine mulN ?_; omega) | (with_reducible refine addQ ?_; omega) | (with_reducible refine subQ ?_; omega) | (with_reducible refine mulQ ?_; omega) | (with_reducible refine shlQL ?_; omega) | (with_reducible refine shlQ ?_; omega) | (with_reducible refine remL ?_; decide) | (with_reducible refine shrL ?_; decide) | (with_reducible refine remN ?_; omega) | (with_reducible refine toU64 ?_ Uw Uq; omega) | (with_reducible exact toU32 Uq Uw) | exact bin_lss | exact bin_gtr | exact bin_eql | exact bin_neq | exact bin_leq | exact bin_geq | exact lenV_sl Us | exact ext_0 | exact ext_1 | exact ext_2 | exact pick_t | exact pick_f | exact bin_add64 (by omega) | exact bin_sub64 (by omega) | exact un_not | exact cv_int Uq Uw | exact cv_int Uw Uq | exact bin_add | exact bin_sub | exact bin_mul | rfl)) ?_)
    refine Ev.prim fldSig0 ?_
    refine Ev.prim fldSize0 ?_
    refine Ev.ld hS2 (by (first | exact .head _ | exact .tail _ (.head _) | exact .tail _ (.tail _ (.head _)) | exact .tail _ (.tail _ (.tail _ (.head _))) | exact .tail _ (.tail _ (.tail _ (.tail _ (.head _)))))) (ldkS.trans rfl) ?_
    refine Ev.chk (by rw [ld_blk (hS2.get (.tail _ (.head _))), ldkS]; rfl) ?_
    refine Ev.prim (buildInt rfl ha.cell) ?_
    refine Ev.st hS2 (.head _) (stkInt rfl ha.cell) (by simp) (.head _) fun H4 hS4 => ?_
    refine Ev.assoc ?_
    refine Ev.ld hS4 (.head _) ldkInt ?_
    refine Ev.some1 ?_
    exact Ev.done hS4 rfl
  | true =>
    refine Ev.gDo (Ev.gPrim fldSig0 rfl ?_)
    refine Ev.gDo (Ev.gPrim ((ld_blk (hS2.get (by (first | exact .head _ | exact .tail _ (.head _) | exact .tail _ (.tail _ (.head _)) | exact .tail _ (.tail _ (.tail _ (.head _))) | exact .tail _ (.tail _ (.tail _ (.tail _ (.head _)))))))).trans ldkSize) rfl ?_)
    refine Ev.gDo (Ev.gCall ?_)
    refine Ev.call hS2 (zero_spec hm ha) fun v B3 H3 hm3 hS3 hv => ?_
    subst hv
    refine Ev.gDo (Ev.gPrim un_not rfl ?_)
    repeat (first | refine Ev.some2 ?_ | refine Ev.some1 ?_ | refine Ev.gDo ?_ | refine Ev.gSkipT ?_ | refine Ev.gSkipF ?_ | refine Ev.gUndef ?_ | refine Ev.gCall ?_ | refine Ev.tt ?_ | refine Ev.ff ?_ | refine Ev.gPrim (by (first | with_reducible exact lssL | with_reducible exact gtrL | with_reducible exact eqlL | with_reducible exact neqL | with_reducible exact leqL | with_reducible exact geqL | with_reducible exact lssN | with_reducible exact gtrN | with_reducible exact eqlN | with_reducible exact neqN | with_reducible exact leqN | with_reducible exact geqN | (with_reducible refine addL ?_; omega) | (with_reducible refine subL ?_; omega) | (with_reducible refine quoL ?_; omega) | (with_reducible refine mulL ?_; omega) | (with_reducible refine lmul ?_; omega) | (with_reducible refine addN ?_; omega) | (with_reducible refine subN ?_; omega) | (with_reducible refine quoN ?_; omega) | (with_reducible refine mulN ?_; omega) | (with_reducible refine addQ ?_; omega) | (with_reducible refine subQ ?_; omega) | (with_reducible refine mulQ ?_; omega) | (with_reducible refine shlQL ?_; omega) | (with_reducible refine shlQ ?_; omega) | (with_reducible refine remL ?_; decide) | (with_reducible refine shrL ?_; decide) | (with_reducible refine remN ?_; omega) | (with_reducible refine toU64 ?_ Uw Uq; omega) | (with_reducible exact toU32 Uq Uw) | exact bin_lss | exact bin_gtr | exact bin_eql | exact bin_neq | exact bin_leq | exact bin_geq | exact lenV_sl Us | exact ext_0 | exact ext_1 | exact ext_2 | exact pick_t | exact pick_f | exact bin_add64 (by omega) | exact bin_sub64 (by omega) | exact un_not | exact cv_int Uq Uw | exact cv_int Uw Uq | exact bin_add | exact bin_sub | exact bin_mul | rfl)) rfl ?_ | refine Ev.prim (by (first | with_reducible exact lssL | with_reducible exact gtrL | with_reducible exact eqlL | with_reducible exact neqL | with_reducible exact leqL | with_reducible exact geqL | with_reducible exact lssN | with_reducible exact gtrN | with_reducible exact eqlN | with_reducible exact neqN | with_reducible exact leqN | with_reducible exact geqN | (with_reducible refine addL ?_; omega) | (with_reducible refine subL ?_; omega) | (with_reducible refine quoL ?_; omega) | (with_reducible refine mulL ?_; omega) | (with_reducible refine lmul ?_; omega) | (with_reducible refine addN ?_; omega) | (with_reducible refine subN ?_; omega) | (with_reducible refine quoN ?_; omega) | (with_reducible refine mulN ?_; omega) | (with_reducible refine addQ ?_; omega) | (with_reducible refine subQ ?_; omega) | (with_reducible refine mulQ ?_; omega) | (with_reducible refine shlQL ?_; omega) | (with_reducible refine shlQ ?_; omega) | (with_reducible refine remL ?_; decide) | (with_reducible refine shrL ?_; decide) | (with_reducible refine remN ?_; omega) | (with_reducible refine toU64 ?_ Uw Uq; omega) | (with_reducible exact toU32 Uq Uw) | exact bin_lss | exact bin_gtr | exact bin_eql | exact bin_neq | exact bin_leq | exact bin_geq | exact lenV_sl Us | exact ext_0 | exact ext_1 | exact ext_2 | exact pick_t | exact pick_f | exact bin_add64 (by omega) | exact bin_sub64 (by omega) | exact un_not | exact cv_int Uq Uw | exact cv_int Uw Uq | exact bin_add | exact bin_sub | exact bin_mul | rfl)) ?_)
    refine Ev.prim fldSig0 ?_
    refine Ev.prim fldSize0 ?_
    refine Ev.ld hS3 (by (first | exact .head _ | exact .tail _ (.head _) | exact .tail _ (.tail _ (.head _)) | exact .tail _ (.tail _ (.tail _ (.head _))) | exact .tail _ (.tail _ (.tail _ (.tail _ (.head _)))))) (ldkS.trans rfl) ?_
    refine Ev.chk (by rw [ld_blk (hS2.get (.tail _ (.head _))), ldkS]; rfl) ?_
    refine Ev.prim (buildInt rfl ha.cell) ?_
    refine Ev.st hS3 (.head _) (stkInt rfl ha.cell) (by simp) (.head _) fun H4 hS4 => ?_
    refine Ev.assoc ?_
    refine Ev.ld hS4 (.head _) ldkInt ?_
    refine Ev.some1 ?_
    refine Ev.done hS4 ?_
    have e : (!decide ((limbs n).length = 0)) = (true && decide (n ≠ 0)) := by
      rw [Bool.true_and, ← decide_not]
      exact decide_eq_decide.mpr (by rw [List.length_eq_zero_iff, limbs_eq_nil])
    rw [← e]; rfl
def IntV (B : AH) (v : Value) (z : Int) : Prop := ∃ m, v = .agg #[.bool (decide (z < 0)), m] ∧ RdN B m (limbs z.natAbs)
theorem IntV.mono {B B' : AH} {v : Value} {z : Int} (hm : Mo B B') (h : IntV B v z) : IntV B' v z := h.elim fun m hh => ⟨m, hh.1, hh.2.mono hm⟩
theorem Make_spec {B H : AH} {xs : List Nat} {m : Value} {neg : Bool} (hm : xs.length < 1099511627776) (ha : RdN B m xs) (hL : Le B H) :
    Ev (fun k _ => rn k 25 [.bool neg, m] H) (An B H fun B' v => IntV B' v (sg neg (val xs))) := by
  refine Ev.fn (fun k => f25_eq k _ _ H) ?_
  refine Ev.newA zInt (St.start hL) rfl fun b2 H2 hS2 => ?_
  refine Ev.prim (buildInt rfl ha.cell) ?_
  refine Ev.call hS2 (of_spec hm ha) fun v B3 H3 hm3 hS3 h3 => ?_
  obtain ⟨w, rfl, hw⟩ := h3
  have hl := limbs_length_le (val_lt ha.2)
  refine Ev.call hS3 (out_spec (by omega) hw) fun v B4 H4 hm4 hS4 h4 => ?_
  subst h4
  refine Ev.st hS4 (.head _) (stkInt rfl hw.cell) (by simp) (.head _) fun H5 hS5 => ?_
  refine Ev.assoc ?_
  refine Ev.ld hS5 (.head _) ldkInt ?_
  refine Ev.some1 ?_
  refine Ev.done hS5 ⟨w, ?_, by rw [sg_abs]; exact hw.mono hm4⟩
  rw [← sg_neg, Bool.and_assoc, Bool.and_self]; rfl
end Go.AM.Z
set_option linter.unusedVariables false
set_option linter.unusedSimpArgs false
set_option maxRecDepth 100000
namespace Go.AM.Z
open Go Go.AM Go.Proofs
attribute [local irreducible] run bin un ld st box newV mkS fldA fld ixA ix slc slc3 build buildS cv cvS ap cpy lenV gOp pickV b2 aIf aChk evalK resume iterD Option.bind

theorem Neg_spec {B H : AH} {xs : List Nat} {m : Value} {neg : Bool} (hm : xs.length < 1099511627776) (ha : RdN B m xs) (hL : Le B H) :
    Ev (fun k _ => rn k 17 [.agg #[.bool neg, m]] H) (An B H fun B' v => IntV B' v (sg (!neg) (val xs))) := by
  refine Ev.fn (fun k => f17_eq k _ H) ?_
  refine Ev.boxA (St.start hL) (by have := ha.cell; simp only [List.all_cons, List.all_nil, this]; rfl) fun b1 H1 hS1 => ?_
  refine Ev.newA zInt hS1 rfl fun b2 H2 hS2 => ?_
  refine Ev.prim fldInt0 ?_
  refine Ev.ld hS2 (by (first | exact .head _ | exact .tail _ (.head _) | exact .tail _ (.tail _ (.head _)) | exact .tail _ (.tail _ (.tail _ (.head _))) | exact .tail _ (.tail _ (.tail _ (.tail _ (.head _)))))) (ldkBo.trans rfl) ?_
  refine Ev.prim un_not ?_
  refine Ev.prim fldInt1 ?_
  refine Ev.ld hS2 (by (first | exact .head _ | exact .tail _ (.head _) | exact .tail _ (.tail _ (.head _)) | exact .tail _ (.tail _ (.tail _ (.head _))) | exact .tail _ (.tail _ (.tail _ (.tail _ (.head _)))))) (ldkS.trans rfl) ?_
  refine Ev.call hS2 (Make_spec hm ha) fun v B3 H3 hm3 hS3 h3 => ?_
  obtain ⟨w, rfl, hw⟩ := h3
  refine Ev.st hS3 (.head _) (stkInt rfl hw.cell) (by simp) (.head _) fun H5 hS5 => ?_
  refine Ev.assoc ?_
  refine Ev.ld hS5 (.head _) ldkInt ?_
  refine Ev.some1 ?_
  exact Ev.done hS5 ⟨w, rfl, hw⟩
theorem zFrom_spec {B H : AH} {n : Int} (hn : -9223372036854775808 ≤ n ∧ n < 9223372036854775808) (hL : Le B H) :
    Ev (fun k _ => rn k 16 [.int .i64 n] H) (An B H fun B' v => IntV B' v n) := by
  refine Ev.fn (fun k => f16_eq k _ H) ?_
  refine Ev.newA zInt (St.start hL) rfl fun b2 H2 hS2 => ?_
  have fin : Ev (fun k _ => f16_J0 k (.int .i64 n) (ptr b2 0) (u64 n.natAbs) H2) (An B H fun B' v => IntV B' v n) := by
    refine Ev.eq (fun k _ => f16_J0_eq k _ _ _ H2) ?_
    refine Ev.prim bin_lss ?_
    refine Ev.call hS2 (From_spec (by omega)) fun v B3 H3 hm3 hS3 h3 => ?_
    have hl : (limbs n.natAbs).length ≤ 2 := limbs_length_le (by omega)
    refine Ev.call hS3 (Make_spec (by omega) h3) fun v B4 H4 hm4 hS4 h4 => ?_
    have e : sg (decide (n < 0)) (val (limbs n.natAbs)) = n := by
      rw [val_limbs]; unfold sg
      by_cases h : n < 0
      · rw [decide_eq_true h, if_pos rfl]; omega
      · rw [decide_eq_false h, if_neg (by decide)]; omega
    rw [e] at h4
    obtain ⟨w, rfl, hw⟩ := h4
    refine Ev.st hS4 (.head _) (stkInt rfl hw.cell) (by simp) (.head _) fun H5 hS5 => ?_
    refine Ev.assoc ?_
    refine Ev.ld hS5 (.head _) ldkInt ?_
    refine Ev.some1 ?_
    exact Ev.done hS5 ⟨w, rfl, hw⟩
  refine Ev.prim (cv_int Ui Uq) ?_
  refine Ev.prim bin_lss ?_
  refine Ev.ifp (fun h => ?_) fun h => ?_
  · refine Ev.prim un_neg ?_
    rw [wrapu64, wrapu64, show (0 - n % 18446744073709551616) % 18446744073709551616 = (n.natAbs : Int) by omega]
    exact fin
  · rw [wrapu64, show n % 18446744073709551616 = (n.natAbs : Int) by omega]
    exact fin
end Go.AM.Z
set_option linter.unusedVariables false
set_option linter.unusedSimpArgs false
set_option maxRecDepth 100000
namespace Go.AM.Z
open Go Go.AM Go.Proofs
attribute [local irreducible] run bin un ld st box newV mkS fldA fld ixA ix slc slc3 build buildS cv cvS ap cpy lenV gOp pickV b2 aIf aChk evalK resume iterD Option.bind

theorem eqlB {a b : Bool} : bin Tryd.prog .eql 4 (.bool a) (.bool b) = some (.bool (a == b)) := by cases a <;> cases b <;> kernel_rfl
end Go.AM.Z
set_option linter.unusedVariables false
set_option linter.unusedSimpArgs false
set_option maxRecDepth 100000
namespace Go.AM.Z
open Go Go.AM Go.Proofs
attribute [local irreducible] run bin un ld st box newV mkS fldA fld ixA ix slc slc3 build buildS cv cvS ap cpy lenV gOp pickV b2 aIf aChk evalK resume iterD Option.bind

theorem add_join {H0 B0 B H : AH} {L : List (Nat × Blk)} {x y p q r : Nat} {w1 w2 c2 o1 o2 : Value} {neg : Bool} (hw1 : RdN B w1 (limbs x)) (hw2 : RdN B w2 (limbs y)) (hx : (limbs x).length < 274877906944) (hy : (limbs y).length < 274877906944) (hxy : y ≤ x)
    (hS : St H0 B0 B L H) (hp : (p, ⟨[w1, .bool neg], 59, .fix⟩) ∈ L) (hq : (q, ⟨[w2, c2], 59, .fix⟩) ∈ L) (hr : (r, ⟨[o1, o2], 24, .fix⟩) ∈ L)
    (hu : ∀ a b, ∃ L', Upd r ⟨[o1, o2], 24, .fix⟩ ⟨[a, b], 24, .fix⟩ L L' ∧ (r, ⟨[a, b], 24, .fix⟩) ∈ L') :
    Ev (fun k _ => f18_J0 k (ptr r 0) (ptr p 0) (ptr q 0) H) (An B0 H0 fun B' v => IntV B' v (sg neg (x - y))) := by
  refine Ev.eq (fun k _ => f18_J0_eq k _ _ _ H) ?_
  refine Ev.prim fldSig0 ?_
  refine Ev.prim fldSize0 ?_
  refine Ev.ld hS hp (ldkS.trans rfl) ?_
  refine Ev.prim fldSig0 ?_
  refine Ev.prim fldSize0 ?_
  refine Ev.ld hS hq (ldkS.trans rfl) ?_
  refine Ev.call hS (Sub_spec hw1 hw2 (by omega) (by omega)) fun v B1 H1 hm1 hS1 h1 => ?_
  rw [val_limbs, val_limbs] at h1
  rcases h1 with ⟨h1, _⟩ | ⟨_, d, rfl, hd⟩
  · omega
  refine Ev.prim ext_0 ?_
  refine Ev.prim ext_1 ?_
  refine Ev.prim fldSig1 ?_
  refine Ev.ld hS1 hp (ldkBo.trans rfl) ?_
  have hl := limbs_length_mono (Nat.sub_le x y)
  refine Ev.call hS1 (Make_spec (by omega) hd) fun v B4 H4 hm4 hS4 h4 => ?_
  rw [val_limbs] at h4
  obtain ⟨w, rfl, hw⟩ := h4
  obtain ⟨L', hu1, hu2⟩ := hu _ w
  refine Ev.st hS4 hr (stkInt rfl hw.cell) (by simp) hu1 fun H5 hS5 => ?_
  refine Ev.assoc ?_
  refine Ev.ld hS5 hu2 ldkInt ?_
  refine Ev.some1 ?_
  exact Ev.done hS5 ⟨w, rfl, hw⟩
theorem zAdd_spec {B H : AH} {xs ys : List Nat} {m1 m2 : Value} {n1 n2 : Bool} (hm1 : xs.length < 137438953472) (hm2 : ys.length < 137438953472) (ha : RdN B m1 xs) (hb : RdN B m2 ys) (hL : Le B H) :
    Ev (fun k _ => rn k 18 [.agg #[.bool n1, m1], .agg #[.bool n2, m2]] H) (An B H fun B' v => IntV B' v (sg n1 (val xs) + sg n2 (val ys))) := by
  refine Ev.fn (fun k => f18_eq k _ _ H) ?_
  refine Ev.boxA (St.start hL) (by have := ha.cell; simp only [List.all_cons, List.all_nil, this]; rfl) fun b1 H1 hS1 => ?_
  refine Ev.boxA hS1 (by have := hb.cell; simp only [List.all_cons, List.all_nil, this]; rfl) fun b2 H2 hS2 => ?_
  refine Ev.newA zInt hS2 rfl fun b5 H25 hS25 => ?_
  refine Ev.ld hS25 (by (first | exact .head _ | exact .tail _ (.head _) | exact .tail _ (.tail _ (.head _)) | exact .tail _ (.tail _ (.tail _ (.head _))) | exact .tail _ (.tail _ (.tail _ (.tail _ (.head _)))))) ldkInt ?_
  refine Ev.call hS25 (of_spec (by omega) ha) fun v B3 H3 hm3 hS3 h3 => ?_
  obtain ⟨w1, rfl, hw1⟩ := h3
  refine Ev.ld hS3 (by (first | exact .head _ | exact .tail _ (.head _) | exact .tail _ (.tail _ (.head _)) | exact .tail _ (.tail _ (.tail _ (.head _))) | exact .tail _ (.tail _ (.tail _ (.tail _ (.head _)))))) ldkInt ?_
  refine Ev.chk (by rw [ld_blk (hS25.get (by (first | exact .head _ | exact .tail _ (.head _) | exact .tail _ (.tail _ (.head _)) | exact .tail _ (.tail _ (.tail _ (.head _))) | exact .tail _ (.tail _ (.tail _ (.tail _ (.head _))))))), ldkInt]) ?_
  refine Ev.call hS3 (of_spec (by omega) (hb.mono hm3)) fun v B4 H4 hm4 hS4 h4 => ?_
  obtain ⟨w2, rfl, hw2⟩ := h4
  have hw1 := hw1.mono hm4
  refine Ev.newA zSig hS4 rfl fun b3 H5 hS5 => ?_
  refine Ev.newA zSig hS5 rfl fun b4 H6 hS6 => ?_
  refine Ev.st hS6 (by (first | exact .head _ | exact .tail _ (.head _) | exact .tail _ (.tail _ (.head _)) | exact .tail _ (.tail _ (.tail _ (.head _))) | exact .tail _ (.tail _ (.tail _ (.tail _ (.head _)))))) (stkSig hw1.cell rfl) (by simp) (.tail _ (.head _)) fun H7 hS7 => ?_
  refine Ev.st hS7 (by (first | exact .head _ | exact .tail _ (.head _) | exact .tail _ (.tail _ (.head _)) | exact .tail _ (.tail _ (.tail _ (.head _))) | exact .tail _ (.tail _ (.tail _ (.tail _ (.head _)))))) (stkSig hw2.cell rfl) (by simp) (.head _) fun H8 hS8 => ?_
  have hxl := limbs_length_le (val_lt ha.2)
  have hyl := limbs_length_le (val_lt hb.2)
  refine Ev.prim fldSig1 ?_
  refine Ev.ld hS8 (by (first | exact .head _ | exact .tail _ (.head _) | exact .tail _ (.tail _ (.head _)) | exact .tail _ (.tail _ (.tail _ (.head _))) | exact .tail _ (.tail _ (.tail _ (.tail _ (.head _)))))) (ldkBo.trans rfl) ?_
  refine Ev.prim fldSig1 ?_
  refine Ev.ld hS8 (by (first | exact .head _ | exact .tail _ (.head _) | exact .tail _ (.tail _ (.head _)) | exact .tail _ (.tail _ (.tail _ (.head _))) | exact .tail _ (.tail _ (.tail _ (.tail _ (.head _)))))) (ldkBo.trans rfl) ?_
  refine Ev.prim eqlB ?_
  rw [← sg_norm (n := n1), ← sg_norm (n := n2)]
  generalize (n1 && decide (val xs ≠ 0)) = c1 at *
  generalize (n2 && decide (val ys ≠ 0)) = c2 at *
  generalize val xs = x at *
  generalize val ys = y at *
  refine Ev.ifb (fun h => ?_) fun h => ?_
  · have h : c1 = c2 := by simpa using h
    refine Ev.prim fldSig1 ?_
    refine Ev.ld hS8 (by (first | exact .head _ | exact .tail _ (.head _) | exact .tail _ (.tail _ (.head _)) | exact .tail _ (.tail _ (.tail _ (.head _))) | exact .tail _ (.tail _ (.tail _ (.tail _ (.head _)))))) (ldkBo.trans rfl) ?_
    refine Ev.prim fldSig0 ?_
    refine Ev.prim fldSize0 ?_
    refine Ev.ld hS8 (by (first | exact .head _ | exact .tail _ (.head _) | exact .tail _ (.tail _ (.head _)) | exact .tail _ (.tail _ (.tail _ (.head _))) | exact .tail _ (.tail _ (.tail _ (.tail _ (.head _)))))) (ldkS.trans rfl) ?_
    refine Ev.prim fldSig0 ?_
    refine Ev.prim fldSize0 ?_
    refine Ev.ld hS8 (by (first | exact .head _ | exact .tail _ (.head _) | exact .tail _ (.tail _ (.head _)) | exact .tail _ (.tail _ (.tail _ (.head _))) | exact .tail _ (.tail _ (.tail _ (.tail _ (.head _)))))) (ldkS.trans rfl) ?_
    refine Ev.call hS8 (Add_spec hw1 hw2 (by omega) (by omega)) fun v B9 H9 hm9 hS9 h9 => ?_
    rw [val_limbs, val_limbs] at h9
    refine Ev.chk (by rw [ld_blk (hS9.get (by (first | exact .head _ | exact .tail _ (.head _) | exact .tail _ (.tail _ (.head _)) | exact .tail _ (.tail _ (.tail _ (.head _))) | exact .tail _ (.tail _ (.tail _ (.tail _ (.head _))))))), ldkBo]; rfl) ?_
    have hl : (limbs (x + y)).length ≤ (limbs x).length + (limbs y).length + 1 := by
      refine limbs_length_le ?_
      have e1 := val_lt (small_limbs x)
      have e2 := val_lt (small_limbs y)
      rw [val_limbs] at e1 e2
      have e3 : 4294967296 ^ (limbs x).length ≤ 4294967296 ^ ((limbs x).length + (limbs y).length) := Nat.pow_le_pow_right (by decide) (by omega)
      have e4 : 4294967296 ^ (limbs y).length ≤ 4294967296 ^ ((limbs x).length + (limbs y).length) := Nat.pow_le_pow_right (by decide) (by omega)
      rw [Nat.pow_succ]
      generalize 4294967296 ^ ((limbs x).length + (limbs y).length) = p at *
      omega
    refine Ev.call hS9 (Make_spec (by omega) h9) fun v B4 H4 hm4 hS4 h4 => ?_
    rw [val_limbs, ← sg_add h] at h4
    obtain ⟨w, rfl, hw⟩ := h4
    refine Ev.st hS4 (by (first | exact .head _ | exact .tail _ (.head _) | exact .tail _ (.tail _ (.head _)) | exact .tail _ (.tail _ (.tail _ (.head _))) | exact .tail _ (.tail _ (.tail _ (.tail _ (.head _)))))) (stkInt rfl hw.cell) (by simp) (.tail _ (.tail _ (.head _))) fun H5 hS5 => ?_
    refine Ev.assoc ?_
    refine Ev.ld hS5 (by (first | exact .head _ | exact .tail _ (.head _) | exact .tail _ (.tail _ (.head _)) | exact .tail _ (.tail _ (.tail _ (.head _))) | exact .tail _ (.tail _ (.tail _ (.tail _ (.head _)))))) ldkInt ?_
    refine Ev.some1 ?_
    exact Ev.done hS5 ⟨w, rfl, hw⟩
  · have h : c1 ≠ c2 := by simpa using h
    refine Ev.prim fldSig0 ?_
    refine Ev.prim fldSize0 ?_
    refine Ev.ld hS8 (by (first | exact .head _ | exact .tail _ (.head _) | exact .tail _ (.tail _ (.head _)) | exact .tail _ (.tail _ (.tail _ (.head _))) | exact .tail _ (.tail _ (.tail _ (.tail _ (.head _)))))) (ldkS.trans rfl) ?_
    refine Ev.prim fldSig0 ?_
    refine Ev.prim fldSize0 ?_
    refine Ev.ld hS8 (by (first | exact .head _ | exact .tail _ (.head _) | exact .tail _ (.tail _ (.head _)) | exact .tail _ (.tail _ (.tail _ (.head _))) | exact .tail _ (.tail _ (.tail _ (.tail _ (.head _)))))) (ldkS.trans rfl) ?_
    refine Ev.callU (Cmp_spec hw1 hw2 (by omega) (by omega) hS8.lel) ?_
    rintro _ rfl
    rw [val_limbs, val_limbs]
    refine Ev.prim bin_lss ?_
    refine Ev.ifp (fun h1 => ?_) fun h1 => ?_
    · rw [cmpN_lt] at h1
      refine Ev.ld hS8 (by (first | exact .head _ | exact .tail _ (.head _) | exact .tail _ (.tail _ (.head _)) | exact .tail _ (.tail _ (.tail _ (.head _))) | exact .tail _ (.tail _ (.tail _ (.tail _ (.head _)))))) ldkSig ?_
      refine Ev.ld hS8 (by (first | exact .head _ | exact .tail _ (.head _) | exact .tail _ (.tail _ (.head _)) | exact .tail _ (.tail _ (.tail _ (.head _))) | exact .tail _ (.tail _ (.tail _ (.tail _ (.head _)))))) ldkSig ?_
      refine Ev.st hS8 (by (first | exact .head _ | exact .tail _ (.head _) | exact .tail _ (.tail _ (.head _)) | exact .tail _ (.tail _ (.tail _ (.head _))) | exact .tail _ (.tail _ (.tail _ (.tail _ (.head _)))))) (stkSig hw2.cell rfl) (by simp) (.tail _ (.head _)) fun H9 hS9 => ?_
      refine Ev.st hS9 (by (first | exact .head _ | exact .tail _ (.head _) | exact .tail _ (.tail _ (.head _)) | exact .tail _ (.tail _ (.tail _ (.head _))) | exact .tail _ (.tail _ (.tail _ (.tail _ (.head _)))))) (stkSig hw1.cell rfl) (by simp) (.head _) fun H10 hS10 => ?_
      rw [Int.add_comm, sg_diff h.symm (by omega)]
      exact add_join hw2 hw1 (by omega) (by omega) (by omega) hS10 (.tail _ (.head _)) (.head _) (.tail _ (.tail _ (.head _))) fun _ _ => ⟨_, .tail _ (.tail _ (.head _)), .tail _ (.tail _ (.head _))⟩
    · rw [cmpN_lt] at h1
      rw [sg_diff h (by omega)]
      exact add_join hw1 hw2 (by omega) (by omega) (by omega) hS8 (.tail _ (.head _)) (.head _) (.tail _ (.tail _ (.head _))) fun _ _ => ⟨_, .tail _ (.tail _ (.head _)), .tail _ (.tail _ (.head _))⟩
end Go.AM.Z
set_option linter.unusedVariables false
set_option linter.unusedSimpArgs false
set_option maxRecDepth 100000
namespace Go.AM.Z
open Go Go.AM Go.Proofs
attribute [local irreducible] run bin un ld st box newV mkS fldA fld ixA ix slc slc3 build buildS cv cvS ap cpy lenV gOp pickV b2 aIf aChk evalK resume iterD Option.bind

theorem Right_spec {B H : AH} {xs : List Nat} {m : Value} {neg : Bool} (hm : xs.length < 9223372036854775808) (ha : RdN B m xs) (hL : Le B H) :
    Ev (fun k _ => rn k 26 [.agg #[.bool neg, m]] H) (An B H fun _ v => v = .bool (rightI neg xs)) := by
  refine Ev.fn (fun k => f26_eq k _ H) ?_
  refine Ev.boxA (St.start hL) (by have := ha.cell; simp only [List.all_cons, List.all_nil, this]; rfl) fun b1 H1 hS1 => ?_
  refine Ev.prim fldInt1 ?_
  refine Ev.ld hS1 (by (first | exact .head _ | exact .tail _ (.head _) | exact .tail _ (.tail _ (.head _)) | exact .tail _ (.tail _ (.tail _ (.head _))) | exact .tail _ (.tail _ (.tail _ (.tail _ (.head _)))))) (ldkS.trans rfl) ?_
  refine Ev.prim (ha.lenN Ew) ?_
  refine Ev.prim eqlL ?_
  refine Ev.ifp (fun h => ?_) fun h => ?_
  · refine Ev.prim fldInt0 ?_
    refine Ev.ld hS1 (by (first | exact .head _ | exact .tail _ (.head _) | exact .tail _ (.tail _ (.head _)) | exact .tail _ (.tail _ (.tail _ (.head _))) | exact .tail _ (.tail _ (.tail _ (.tail _ (.head _)))))) (ldkBo.trans rfl) ?_
    refine Ev.prim un_not ?_
    exact Ev.done hS1 (by rw [rightI, if_pos h])
  · refine Ev.prim fldInt1 ?_
    refine Ev.ld hS1 (by (first | exact .head _ | exact .tail _ (.head _) | exact .tail _ (.tail _ (.head _)) | exact .tail _ (.tail _ (.tail _ (.head _))) | exact .tail _ (.tail _ (.tail _ (.tail _ (.head _)))))) (ldkS.trans rfl) ?_
    refine Ev.prim fldInt1 ?_
    refine Ev.ld hS1 (by (first | exact .head _ | exact .tail _ (.head _) | exact .tail _ (.tail _ (.head _)) | exact .tail _ (.tail _ (.tail _ (.head _))) | exact .tail _ (.tail _ (.tail _ (.tail _ (.head _)))))) (ldkS.trans rfl) ?_
    refine Ev.prim (ha.lenN Ew) ?_
    refine Ev.prim (subL (by omega)) ?_
    obtain ⟨p, hp1, hp2⟩ := ha.ixN (k := .i64) (i := xs.length - 1) Ew (by omega)
    refine Ev.prim hp1 ?_
    refine Ev.prim (hp2 H1 hS1.le) ?_
    refine Ev.prim neqL ?_
    exact Ev.done hS1 (by rw [rightI, if_neg h])
end Go.AM.Z
set_option linter.unusedVariables false
set_option linter.unusedSimpArgs false
set_option maxRecDepth 100000
namespace Go.AM.Z
open Go Go.AM Go.Proofs
attribute [local irreducible] run bin un ld st box newV mkS fldA fld ixA ix slc slc3 build buildS cv cvS ap cpy lenV gOp pickV b2 aIf aChk evalK resume iterD Option.bind

/-- A number as a machine's, if it is one. -/
def smallI (z : Int) : Value := if -9223372036854775808 ≤ z ∧ z < 9223372036854775808 then .tuple #[.int .i64 z, .bool true] else .tuple #[.int .i64 0, .bool false]
theorem tup1 {k : IntKind} {a a' : Int} {b : Bool} (h : a = a') : Value.tuple #[.int k a, .bool b] = .tuple #[.int k a', .bool b] := by rw [h]
theorem zSmall_spec {B H : AH} {xs : List Nat} {m : Value} {neg : Bool} (hm : xs.length < 274877906944) (ha : RdN B m xs) (hL : Le B H) :
    Ev (fun k _ => rn k 27 [.agg #[.bool neg, m]] H) (An B H fun _ v => v = smallI (sg neg (val xs))) := by
  refine Ev.fn (fun k => f27_eq k _ H) ?_
  refine Ev.boxA (St.start hL) (by have := ha.cell; simp only [List.all_cons, List.all_nil, this]; rfl) fun b1 H1 hS1 => ?_
  refine Ev.ld hS1 (by (first | exact .head _ | exact .tail _ (.head _) | exact .tail _ (.tail _ (.head _)) | exact .tail _ (.tail _ (.tail _ (.head _))) | exact .tail _ (.tail _ (.tail _ (.tail _ (.head _)))))) ldkInt ?_
  refine Ev.call hS1 (of_spec (by omega) ha) fun v B3 H3 hm3 hS3 h3 => ?_
  obtain ⟨w, rfl, hw⟩ := h3
  refine Ev.newA zSig hS3 rfl fun b2 H4 hS4 => ?_
  refine Ev.st hS4 (by (first | exact .head _ | exact .tail _ (.head _) | exact .tail _ (.tail _ (.head _)) | exact .tail _ (.tail _ (.tail _ (.head _))) | exact .tail _ (.tail _ (.tail _ (.tail _ (.head _)))))) (stkSig hw.cell rfl) (by simp) (.head _) fun H5 hS5 => ?_
  refine Ev.prim fldSig0 ?_
  refine Ev.prim fldSize0 ?_
  refine Ev.ld hS5 (by (first | exact .head _ | exact .tail _ (.head _) | exact .tail _ (.tail _ (.head _)) | exact .tail _ (.tail _ (.tail _ (.head _))) | exact .tail _ (.tail _ (.tail _ (.tail _ (.head _)))))) (ldkS.trans rfl) ?_
  have hl := limbs_length_le (val_lt ha.2)
  refine Ev.callU (Small_spec (by omega) hw hS5.lel) ?_
  rintro _ rfl
  rw [val_limbs, ← sg_norm (n := neg)]
  generalize (neg && decide (val xs ≠ 0)) = c at *
  generalize val xs = x at *
  by_cases hx : x < 18446744073709551616
  · rw [if_pos hx]
    refine Ev.prim ext_0 ?_
    refine Ev.prim ext_1 ?_
    refine Ev.gDo (Ev.gPrim fldSig1 rfl ?_)
    refine Ev.gDo (Ev.gPrim ((ld_blk (hS5.get (by (first | exact .head _ | exact .tail _ (.head _) | exact .tail _ (.tail _ (.head _)) | exact .tail _ (.tail _ (.tail _ (.head _))) | exact .tail _ (.tail _ (.tail _ (.tail _ (.head _)))))))).trans (ldkBo.trans rfl)) rfl ?_)
    cases c with
    | true =>
      repeat (first | refine Ev.some2 ?_ | refine Ev.some1 ?_ | refine Ev.gDo ?_ | refine Ev.gSkipT ?_ | refine Ev.gSkipF ?_ | refine Ev.gUndef ?_ | refine Ev.gCall ?_ | refine Ev.tt ?_ | refine Ev.ff ?_ | refine Ev.gPrim (by (first | with_reducible exact lssL | with_reducible exact gtrL | with_reducible exact eqlL | with_reducible exact neqL | with_reducible exact leqL | with_reducible exact geqL | with_reducible exact lssN | with_reducible exact gtrN | with_reducible exact eqlN | with_reducible exact neqN | with_reducible exact leqN | with_reducible exact geqN | (with_reducible refine addL ?_; omega) | (with_reducible refine subL ?_; omega) | (with_reducible refine quoL ?_; omega) | (with_reducible refine mulL ?_; omega) | (with_reducible refine lmul ?_; omega) | (with_reducible refine addN ?_; omega) | (with_reducible refine subN ?_; omega) | (with_reducible refine quoN ?_; omega) | (with_reducible refine mulN ?_; omega) | (with_reducible refine addQ ?_; omega) | (with_reducible refine subQ ?_; omega) | (with_reducible refine mulQ ?_; omega) | (with_reducible refine shlQL ?_; omega) | (with_reducible refine shlQ ?_; omega) | (with_reducible refine remL ?_; decide) | (with_reducible refine shrL ?_; decide) | (with_reducible refine remN ?_; omega) | (with_reducible refine toU64 ?_ Uw Uq; omega) | (with_reducible exact toU32 Uq Uw) | exact bin_lss | exact bin_gtr | exact bin_eql | exact bin_neq | exact bin_leq | exact bin_geq | exact lenV_sl Us | exact ext_0 | exact ext_1 | exact ext_2 | exact pick_t | exact pick_f | exact bin_add64 (by omega) | exact bin_sub64 (by omega) | exact un_not | exact cv_int Uq Uw | exact cv_int Uw Uq | exact bin_add | exact bin_sub | exact bin_mul | rfl)) rfl ?_ | refine Ev.prim (by (first | with_reducible exact lssL | with_reducible exact gtrL | with_reducible exact eqlL | with_reducible exact neqL | with_reducible exact leqL | with_reducible exact geqL | with_reducible exact lssN | with_reducible exact gtrN | with_reducible exact eqlN | with_reducible exact neqN | with_reducible exact leqN | with_reducible exact geqN | (with_reducible refine addL ?_; omega) | (with_reducible refine subL ?_; omega) | (with_reducible refine quoL ?_; omega) | (with_reducible refine mulL ?_; omega) | (with_reducible refine lmul ?_; omega) | (with_reducible refine addN ?_; omega) | (with_reducible refine subN ?_; omega) | (with_reducible refine quoN ?_; omega) | (with_reducible refine mulN ?_; omega) | (with_reducible refine addQ ?_; omega) | (with_reducible refine subQ ?_; omega) | (with_reducible refine mulQ ?_; omega) | (with_reducible refine shlQL ?_; omega) | (with_reducible refine shlQ ?_; omega) | (with_reducible refine remL ?_; decide) | (with_reducible refine shrL ?_; decide) | (with_reducible refine remN ?_; omega) | (with_reducible refine toU64 ?_ Uw Uq; omega) | (with_reducible exact toU32 Uq Uw) | exact bin_lss | exact bin_gtr | exact bin_eql | exact bin_neq | exact bin_leq | exact bin_geq | exact lenV_sl Us | exact ext_0 | exact ext_1 | exact ext_2 | exact pick_t | exact pick_f | exact bin_add64 (by omega) | exact bin_sub64 (by omega) | exact un_not | exact cv_int Uq Uw | exact cv_int Uw Uq | exact bin_add | exact bin_sub | exact bin_mul | rfl)) ?_)
      refine Ev.ifp (fun h => ?_) fun h => ?_
      · refine Ev.prim un_neg ?_
        refine Ev.prim (cv_int Uq Ui) ?_
        refine Ev.done hS5 ?_
        unfold smallI sg
        simp only [if_true]
        rw [if_pos (by omega)]
        refine tup1 ?_
        rw [wrapu64]
        simp only [IntKind.wrap, IntKind.bits, IntKind.signed]; simp; omega
      · refine Ev.gDo (Ev.gPrim fldSig1 rfl ?_)
        refine Ev.gDo (Ev.gPrim ((ld_blk (hS5.get (by (first | exact .head _ | exact .tail _ (.head _) | exact .tail _ (.tail _ (.head _)) | exact .tail _ (.tail _ (.tail _ (.head _))) | exact .tail _ (.tail _ (.tail _ (.tail _ (.head _)))))))).trans (ldkBo.trans rfl)) rfl ?_)
        repeat (first | refine Ev.some2 ?_ | refine Ev.some1 ?_ | refine Ev.gDo ?_ | refine Ev.gSkipT ?_ | refine Ev.gSkipF ?_ | refine Ev.gUndef ?_ | refine Ev.gCall ?_ | refine Ev.tt ?_ | refine Ev.ff ?_ | refine Ev.gPrim (by (first | with_reducible exact lssL | with_reducible exact gtrL | with_reducible exact eqlL | with_reducible exact neqL | with_reducible exact leqL | with_reducible exact geqL | with_reducible exact lssN | with_reducible exact gtrN | with_reducible exact eqlN | with_reducible exact neqN | with_reducible exact leqN | with_reducible exact geqN | (with_reducible refine addL ?_; omega) | (with_reducible refine subL ?_; omega) | (with_reducible refine quoL ?_; omega) | (with_reducible refine mulL ?_; omega) | (with_reducible refine lmul ?_; omega) | (with_reducible refine addN ?_; omega) | (with_reducible refine subN ?_; omega) | (with_reducible refine quoN ?_; omega) | (with_reducible refine mulN ?_; omega) | (with_reducible refine addQ ?_; omega) | (with_reducible refine subQ ?_; omega) | (with_reducible refine mulQ ?_; omega) | (with_reducible refine shlQL ?_; omega) | (with_reducible refine shlQ ?_; omega) | (with_reducible refine remL ?_; decide) | (with_reducible refine shrL ?_; decide) | (with_reducible refine remN ?_; omega) | (with_reducible refine toU64 ?_ Uw Uq; omega) | (with_reducible exact toU32 Uq Uw) | exact bin_lss | exact bin_gtr | exact bin_eql | exact bin_neq | exact bin_leq | exact bin_geq | exact lenV_sl Us | exact ext_0 | exact ext_1 | exact ext_2 | exact pick_t | exact pick_f | exact bin_add64 (by omega) | exact bin_sub64 (by omega) | exact un_not | exact cv_int Uq Uw | exact cv_int Uw Uq | exact bin_add | exact bin_sub | exact bin_mul | rfl)) rfl ?_ | refine Ev.prim (by (first | with_reducible exact lssL | with_reducible exact gtrL | with_reducible exact eqlL | with_reducible exact neqL | with_reducible exact leqL | with_reducible exact geqL | with_reducible exact lssN | with_reducible exact gtrN | with_reducible exact eqlN | with_reducible exact neqN | with_reducible exact leqN | with_reducible exact geqN | (with_reducible refine addL ?_; omega) | (with_reducible refine subL ?_; omega) | (with_reducible refine quoL ?_; omega) | (with_reducible refine mulL ?_; omega) | (with_reducible refine lmul ?_; omega) | (with_reducible refine addN ?_; omega) | (with_reducible refine subN ?_; omega) | (with_reducible refine quoN ?_; omega) | (with_reducible refine mulN ?_; omega) | (with_reducible refine addQ ?_; omega) | (with_reducible refine subQ ?_; omega) | (with_reducible refine mulQ ?_; omega) | (with_reducible refine shlQL ?_; omega) | (with_reducible refine shlQ ?_; omega) | (with_reducible refine remL ?_; decide) | (with_reducible refine shrL ?_; decide) | (with_reducible refine remN ?_; omega) | (with_reducible refine toU64 ?_ Uw Uq; omega) | (with_reducible exact toU32 Uq Uw) | exact bin_lss | exact bin_gtr | exact bin_eql | exact bin_neq | exact bin_leq | exact bin_geq | exact lenV_sl Us | exact ext_0 | exact ext_1 | exact ext_2 | exact pick_t | exact pick_f | exact bin_add64 (by omega) | exact bin_sub64 (by omega) | exact un_not | exact cv_int Uq Uw | exact cv_int Uw Uq | exact bin_add | exact bin_sub | exact bin_mul | rfl)) ?_)
        refine Ev.done hS5 ?_
        unfold smallI sg
        simp only [if_true]
        rw [if_neg (by omega)]
    | false =>
      repeat (first | refine Ev.some2 ?_ | refine Ev.some1 ?_ | refine Ev.gDo ?_ | refine Ev.gSkipT ?_ | refine Ev.gSkipF ?_ | refine Ev.gUndef ?_ | refine Ev.gCall ?_ | refine Ev.tt ?_ | refine Ev.ff ?_ | refine Ev.gPrim (by (first | with_reducible exact lssL | with_reducible exact gtrL | with_reducible exact eqlL | with_reducible exact neqL | with_reducible exact leqL | with_reducible exact geqL | with_reducible exact lssN | with_reducible exact gtrN | with_reducible exact eqlN | with_reducible exact neqN | with_reducible exact leqN | with_reducible exact geqN | (with_reducible refine addL ?_; omega) | (with_reducible refine subL ?_; omega) | (with_reducible refine quoL ?_; omega) | (with_reducible refine mulL ?_; omega) | (with_reducible refine lmul ?_; omega) | (with_reducible refine addN ?_; omega) | (with_reducible refine subN ?_; omega) | (with_reducible refine quoN ?_; omega) | (with_reducible refine mulN ?_; omega) | (with_reducible refine addQ ?_; omega) | (with_reducible refine subQ ?_; omega) | (with_reducible refine mulQ ?_; omega) | (with_reducible refine shlQL ?_; omega) | (with_reducible refine shlQ ?_; omega) | (with_reducible refine remL ?_; decide) | (with_reducible refine shrL ?_; decide) | (with_reducible refine remN ?_; omega) | (with_reducible refine toU64 ?_ Uw Uq; omega) | (with_reducible exact toU32 Uq Uw) | exact bin_lss | exact bin_gtr | exact bin_eql | exact bin_neq | exact bin_leq | exact bin_geq | exact lenV_sl Us | exact ext_0 | exact ext_1 | exact ext_2 | exact pick_t | exact pick_f | exact bin_add64 (by omega) | exact bin_sub64 (by omega) | exact un_not | exact cv_int Uq Uw | exact cv_int Uw Uq | exact bin_add | exact bin_sub | exact bin_mul | rfl)) rfl ?_ | refine Ev.prim (by (first | with_reducible exact lssL | with_reducible exact gtrL | with_reducible exact eqlL | with_reducible exact neqL | with_reducible exact leqL | with_reducible exact geqL | with_reducible exact lssN | with_reducible exact gtrN | with_reducible exact eqlN | with_reducible exact neqN | with_reducible exact leqN | with_reducible exact geqN | (with_reducible refine addL ?_; omega) | (with_reducible refine subL ?_; omega) | (with_reducible refine quoL ?_; omega) | (with_reducible refine mulL ?_; omega) | (with_reducible refine lmul ?_; omega) | (with_reducible refine addN ?_; omega) | (with_reducible refine subN ?_; omega) | (with_reducible refine quoN ?_; omega) | (with_reducible refine mulN ?_; omega) | (with_reducible refine addQ ?_; omega) | (with_reducible refine subQ ?_; omega) | (with_reducible refine mulQ ?_; omega) | (with_reducible refine shlQL ?_; omega) | (with_reducible refine shlQ ?_; omega) | (with_reducible refine remL ?_; decide) | (with_reducible refine shrL ?_; decide) | (with_reducible refine remN ?_; omega) | (with_reducible refine toU64 ?_ Uw Uq; omega) | (with_reducible exact toU32 Uq Uw) | exact bin_lss | exact bin_gtr | exact bin_eql | exact bin_neq | exact bin_leq | exact bin_geq | exact lenV_sl Us | exact ext_0 | exact ext_1 | exact ext_2 | exact pick_t | exact pick_f | exact bin_add64 (by omega) | exact bin_sub64 (by omega) | exact un_not | exact cv_int Uq Uw | exact cv_int Uw Uq | exact bin_add | exact bin_sub | exact bin_mul | rfl)) ?_)
      refine Ev.gPrim fldSig1 rfl ?_
      refine Ev.gDo (Ev.gPrim ((ld_blk (hS5.get (by (first | exact .head _ | exact .tail _ (.head _) | exact .tail _ (.tail _ (.head _)) | exact .tail _ (.tail _ (.tail _ (.head _))) | exact .tail _ (.tail _ (.tail _ (.tail _ (.head _)))))))).trans (ldkBo.trans rfl)) rfl ?_)
      repeat (first | refine Ev.some2 ?_ | refine Ev.some1 ?_ | refine Ev.gDo ?_ | refine Ev.gSkipT ?_ | refine Ev.gSkipF ?_ | refine Ev.gUndef ?_ | refine Ev.gCall ?_ | refine Ev.tt ?_ | refine Ev.ff ?_ | refine Ev.gPrim (by (first | with_reducible exact lssL | with_reducible exact gtrL | with_reducible exact eqlL | with_reducible exact neqL | with_reducible exact leqL | with_reducible exact geqL | with_reducible exact lssN | with_reducible exact gtrN | with_reducible exact eqlN | with_reducible exact neqN | with_reducible exact leqN | with_reducible exact geqN | (with_reducible refine addL ?_; omega) | (with_reducible refine subL ?_; omega) | (with_reducible refine quoL ?_; omega) | (with_reducible refine mulL ?_; omega) | (with_reducible refine lmul ?_; omega) | (with_reducible refine addN ?_; omega) | (with_reducible refine subN ?_; omega) | (with_reducible refine quoN ?_; omega) | (with_reducible refine mulN ?_; omega) | (with_reducible refine addQ ?_; omega) | (with_reducible refine subQ ?_; omega) | (with_reducible refine mulQ ?_; omega) | (with_reducible refine shlQL ?_; omega) | (with_reducible refine shlQ ?_; omega) | (with_reducible refine remL ?_; decide) | (with_reducible refine shrL ?_; decide) | (with_reducible refine remN ?_; omega) | (with_reducible refine toU64 ?_ Uw Uq; omega) | (with_reducible exact toU32 Uq Uw) | exact bin_lss | exact bin_gtr | exact bin_eql | exact bin_neq | exact bin_leq | exact bin_geq | exact lenV_sl Us | exact ext_0 | exact ext_1 | exact ext_2 | exact pick_t | exact pick_f | exact bin_add64 (by omega) | exact bin_sub64 (by omega) | exact un_not | exact cv_int Uq Uw | exact cv_int Uw Uq | exact bin_add | exact bin_sub | exact bin_mul | rfl)) rfl ?_ | refine Ev.prim (by (first | with_reducible exact lssL | with_reducible exact gtrL | with_reducible exact eqlL | with_reducible exact neqL | with_reducible exact leqL | with_reducible exact geqL | with_reducible exact lssN | with_reducible exact gtrN | with_reducible exact eqlN | with_reducible exact neqN | with_reducible exact leqN | with_reducible exact geqN | (with_reducible refine addL ?_; omega) | (with_reducible refine subL ?_; omega) | (with_reducible refine quoL ?_; omega) | (with_reducible refine mulL ?_; omega) | (with_reducible refine lmul ?_; omega) | (with_reducible refine addN ?_; omega) | (with_reducible refine subN ?_; omega) | (with_reducible refine quoN ?_; omega) | (with_reducible refine mulN ?_; omega) | (with_reducible refine addQ ?_; omega) | (with_reducible refine subQ ?_; omega) | (with_reducible refine mulQ ?_; omega) | (with_reducible refine shlQL ?_; omega) | (with_reducible refine shlQ ?_; omega) | (with_reducible refine remL ?_; decide) | (with_reducible refine shrL ?_; decide) | (with_reducible refine remN ?_; omega) | (with_reducible refine toU64 ?_ Uw Uq; omega) | (with_reducible exact toU32 Uq Uw) | exact bin_lss | exact bin_gtr | exact bin_eql | exact bin_neq | exact bin_leq | exact bin_geq | exact lenV_sl Us | exact ext_0 | exact ext_1 | exact ext_2 | exact pick_t | exact pick_f | exact bin_add64 (by omega) | exact bin_sub64 (by omega) | exact un_not | exact cv_int Uq Uw | exact cv_int Uw Uq | exact bin_add | exact bin_sub | exact bin_mul | rfl)) ?_)
      refine Ev.ifp (fun h => ?_) fun h => ?_
      · refine Ev.prim (cv_int Uq Ui) ?_
        refine Ev.done hS5 ?_
        unfold smallI sg
        simp only [Bool.false_eq_true, if_false]
        rw [if_pos (by omega)]
        exact tup1 (wrap64 (by omega))
      · refine Ev.done hS5 ?_
        unfold smallI sg
        simp only [Bool.false_eq_true, if_false]
        rw [if_neg (by omega)]
  · rw [if_neg hx]
    repeat (first | refine Ev.some2 ?_ | refine Ev.some1 ?_ | refine Ev.gDo ?_ | refine Ev.gSkipT ?_ | refine Ev.gSkipF ?_ | refine Ev.gUndef ?_ | refine Ev.gCall ?_ | refine Ev.tt ?_ | refine Ev.ff ?_ | refine Ev.gPrim (by (first | with_reducible exact lssL | with_reducible exact gtrL | with_reducible exact eqlL | with_reducible exact neqL | with_reducible exact leqL | with_reducible exact geqL | with_reducible exact lssN | with_reducible exact gtrN | with_reducible exact eqlN | with_reducible exact neqN | with_reducible exact leqN | with_reducible exact geqN | (with_reducible refine addL ?_; omega) | (with_reducible refine subL ?_; omega) | (with_reducible refine quoL ?_; omega) | (with_reducible refine mulL ?_; omega) | (with_reducible refine lmul ?_; omega) | (with_reducible refine addN ?_; omega) | (with_reducible refine subN ?_; omega) | (with_reducible refine quoN ?_; omega) | (with_reducible refine mulN ?_; omega) | (with_reducible refine addQ ?_; omega) | (with_reducible refine subQ ?_; omega) | (with_reducible refine mulQ ?_; omega) | (with_reducible refine shlQL ?_; omega) | (with_reducible refine shlQ ?_; omega) | (with_reducible refine remL ?_; decide) | (with_reducible refine shrL ?_; decide) | (with_reducible refine remN ?_; omega) | (with_reducible refine toU64 ?_ Uw Uq; omega) | (with_reducible exact toU32 Uq Uw) | exact bin_lss | exact bin_gtr | exact bin_eql | exact bin_neq | exact bin_leq | exact bin_geq | exact lenV_sl Us | exact ext_0 | exact ext_1 | exact ext_2 | exact pick_t | exact pick_f | exact bin_add64 (by omega) | exact bin_sub64 (by omega) | exact un_not | exact cv_int Uq Uw | exact cv_int Uw Uq | exact bin_add | exact bin_sub | exact bin_mul | rfl)) rfl ?_ | refine Ev.prim (by (first | with_reducible exact lssL | with_reducible exact gtrL | with_reducible exact eqlL | with_reducible exact neqL | with_reducible exact leqL | with_reducible exact geqL | with_reducible exact lssN | with_reducible exact gtrN | with_reducible exact eqlN | with_reducible exact neqN | with_reducible exact leqN | with_reducible exact geqN | (with_reducible refine addL ?_; omega) | (with_reducible refine subL ?_; omega) | (with_reducible refine quoL ?_; omega) | (with_reducible refine mulL ?_; omega) | (with_reducible refine lmul ?_; omega) | (with_reducible refine addN ?_; omega) | (with_reducible refine subN ?_; omega) | (with_reducible refine quoN ?_; omega) | (with_reducible refine mulN ?_; omega) | (with_reducible refine addQ ?_; omega) | (with_reducible refine subQ ?_; omega) | (with_reducible refine mulQ ?_; omega) | (with_reducible refine shlQL ?_; omega) | (with_reducible refine shlQ ?_; omega) | (with_reducible refine remL ?_; decide) | (with_reducible refine shrL ?_; decide) | (with_reducible refine remN ?_; omega) | (with_reducible refine toU64 ?_ Uw Uq; omega) | (with_reducible exact toU32 Uq Uw) | exact bin_lss | exact bin_gtr | exact bin_eql | exact bin_neq | exact bin_leq | exact bin_geq | exact lenV_sl Us | exact ext_0 | exact ext_1 | exact ext_2 | exact pick_t | exact pick_f | exact bin_add64 (by omega) | exact bin_sub64 (by omega) | exact un_not | exact cv_int Uq Uw | exact cv_int Uw Uq | exact bin_add | exact bin_sub | exact bin_mul | rfl)) ?_)
    refine Ev.done hS5 ?_
    unfold smallI sg
    cases c <;> simp <;> omega
end Go.AM.Z
set_option linter.unusedVariables false
set_option linter.unusedSimpArgs false
set_option maxRecDepth 100000
namespace Go.AM.Z
open Go Go.AM Go.Proofs
attribute [local irreducible] run bin un ld st box newV mkS fldA fld ixA ix slc slc3 build buildS cv cvS ap cpy lenV gOp pickV b2 aIf aChk evalK resume iterD Option.bind

end Go.AM.Z
set_option linter.unusedVariables false
set_option linter.unusedSimpArgs false
set_option maxRecDepth 100000
namespace Go.AM.Z
open Go Go.AM Go.Proofs
attribute [local irreducible] run bin un ld st box newV mkS fldA fld ixA ix slc slc3 build buildS cv cvS ap cpy lenV gOp pickV b2 aIf aChk evalK resume iterD Option.bind

end Go.AM.Z
set_option linter.unusedVariables false
set_option linter.unusedSimpArgs false
namespace Go.AM
variable {α β R : Type} {P : Program}

class PrimEq (E : Option α) (a : outParam α) : Prop where
  eq : E = some a
class PrimC (E : Option α) (p : outParam Prop) (a : outParam α) : Prop where
  eq : p → E = some a
class IsCell (v : Value) : Prop where
  is : isCell v = true
class Nth (cs : List Value) (i : Nat) (v : outParam Value) : Prop where
  eq : cs[i]? = some v
class InL (b : Nat) (K : outParam Blk) (L : List (Nat × Blk)) : Prop where
  mem : (b, K) ∈ L
class UpL (b : Nat) (K : outParam Blk) (K' : Blk) (L : List (Nat × Blk)) (L' : outParam (List (Nat × Blk))) : Prop where
  upd : Upd b K K' L L'
class CellsOf (v : Value) (l : outParam (List Value)) : Prop where
  eq : v.cells.toList = l
  ok : okCells v = true
/-- A type's nought. -/
class ZeroOf (P : Program) (t : TypeId) (z : outParam Value) : Prop where
  eq : zeroT P t = some z
class AggOf (P : Program) (t : TypeId) (b : outParam Bool) : Prop where
  eq : aggT P t = some b
class SzOf (P : Program) (t : TypeId) (n : outParam Nat) : Prop where
  eq : szT P t = n
/-- Cells from one on. -/
class Cut (cs : List Value) (off n : Nat) (l : outParam (List Value)) : Prop where
  le : off + n ≤ cs.length
  eq : (cs.drop off).take n = l
class AllCell (l : List Value) : Prop where
  all : l.all isCell = true
class Und (P : Program) (t : TypeId) (D : outParam TypeDesc) : Prop where
  eq : P.underlying t = some D

instance {n : Int} {k : IntKind} : IsCell (.int k n) := ⟨rfl⟩
instance {b : Bool} : IsCell (.bool b) := ⟨rfl⟩
instance {s : ByteArray} : IsCell (.string s) := ⟨rfl⟩
instance {p : Option Addr} {n c : Nat} : IsCell (.slice p n c) := ⟨rfl⟩
instance {b o n c : Nat} : IsCell (sl b o n c) := ⟨rfl⟩
instance {b o : Nat} : IsCell (ptr b o) := ⟨rfl⟩
instance {p : Option Addr} : IsCell (.pointer p) := ⟨rfl⟩
instance {c : Fn} {x y : Array Value} : IsCell (.func c x y) := ⟨rfl⟩
instance : IsCell .nilFunc := ⟨rfl⟩
instance {B : AH} {v : Value} {xs : List Nat} [h : RdN B v xs] : IsCell v := ⟨h.cell⟩
instance : AllCell [] := ⟨rfl⟩
instance {v : Value} {l : List Value} [h : IsCell v] [k : AllCell l] : AllCell (v :: l) := ⟨by simp only [List.all_cons, h.is, k.all]; rfl⟩
instance {l : List Value} [h : AllCell l] : CellsOf (.agg (List.toArray l)) l := ⟨rfl, h.all⟩
instance (priority := low) {v : Value} [h : IsCell v] : CellsOf v [v] := ⟨cells_one h.is, okCells_of h.is⟩
instance {a : Value} {l : List Value} : Nth (a :: l) 0 a := ⟨rfl⟩
instance {a v : Value} {l : List Value} {n : Nat} [h : Nth l n v] : Nth (a :: l) (n + 1) v := ⟨h.eq⟩
instance {b : Nat} {K : Blk} {L : List (Nat × Blk)} : InL b K ((b, K) :: L) := ⟨.head _⟩
instance (priority := low) {b : Nat} {K : Blk} {x : Nat × Blk} {L : List (Nat × Blk)} [h : InL b K L] : InL b K (x :: L) := ⟨.tail _ h.mem⟩
instance {b : Nat} {K K' : Blk} {L : List (Nat × Blk)} : UpL b K K' ((b, K) :: L) ((b, K') :: L) := ⟨.head _⟩
instance (priority := low) {b : Nat} {K K' : Blk} {x : Nat × Blk} {L L' : List (Nat × Blk)} [h : UpL b K K' L L'] : UpL b K K' (x :: L) (x :: L') := ⟨.tail _ h.upd⟩
class CutN (cs : List Value) (n : Nat) (l : outParam (List Value)) : Prop where
  le : n ≤ cs.length
  eq : cs.take n = l
instance {cs : List Value} : CutN cs 0 [] := ⟨Nat.zero_le _, rfl⟩
instance {a : Value} {cs l : List Value} {n : Nat} [h : CutN cs n l] : CutN (a :: cs) (n + 1) (a :: l) := ⟨Nat.succ_le_succ h.le, by rw [List.take_succ_cons, h.eq]⟩
instance {cs l : List Value} {n : Nat} [h : CutN cs n l] : Cut cs 0 n l := ⟨by rw [Nat.zero_add]; exact h.le, h.eq⟩
instance {a : Value} {cs l : List Value} {off n : Nat} [h : Cut cs off n l] : Cut (a :: cs) (off + 1) n l := ⟨by have := h.le; simp only [List.length_cons]; omega, h.eq⟩
/-- Cells put over others. -/
class SplN (cs l : List Value) (r : outParam (List Value)) : Prop where
  le : l.length ≤ cs.length
  eq : l ++ cs.drop l.length = r
instance {cs : List Value} : SplN cs [] cs := ⟨Nat.zero_le _, rfl⟩
instance {a b : Value} {cs l r : List Value} [h : SplN cs l r] : SplN (a :: cs) (b :: l) (b :: r) := ⟨Nat.succ_le_succ h.le, by rw [List.length_cons, List.drop_succ_cons, List.cons_append, h.eq]⟩
class Spl (cs : List Value) (off : Nat) (l : List Value) (r : outParam (List Value)) : Prop where
  le : off + l.length ≤ cs.length
  eq : spl cs off l = r
instance {cs l r : List Value} [h : SplN cs l r] : Spl cs 0 l r := ⟨by rw [Nat.zero_add]; exact h.le, by unfold spl; rw [List.take_zero, List.nil_append, Nat.zero_add]; exact h.eq⟩
instance {a : Value} {cs l r : List Value} {off : Nat} [h : Spl cs off l r] : Spl (a :: cs) (off + 1) l (a :: r) :=
  ⟨by have := h.le; simp only [List.length_cons]; omega, by have := h.eq; unfold spl at this ⊢; rw [← this, Nat.add_right_comm, List.drop_succ_cons, List.take_succ_cons, List.cons_append]⟩

instance {t : TypeId} {cs : List Value} {off : Nat} {v : Value} [h : AggOf P t false] [k : Nth cs off v] : PrimEq (ldK P t cs off) v := ⟨by unfold ldK; rw [h.eq]; exact k.eq⟩
instance {t : TypeId} {cs l : List Value} {off n : Nat} [h : AggOf P t true] [s : SzOf P t n] [k : Cut cs off n l] : PrimEq (ldK P t cs off) (.agg (List.toArray l)) := ⟨by
  unfold ldK; rw [h.eq, s.eq]; simp only; rw [if_pos k.le, k.eq]⟩
instance {t : TypeId} {cs r : List Value} {off : Nat} {v : Value} [h : AggOf P t false] [s : SzOf P t 1] [c : IsCell v] [k : Spl cs off [v] r] : PrimEq (stK P t cs off v) r := ⟨by
  have hl : off < cs.length := by have := k.le; simp only [List.length_cons, List.length_nil] at this; omega
  unfold stK; rw [h.eq]; simp only; rw [if_pos ⟨s.eq, hl, c.is⟩, ← k.eq]
  unfold spl
  rw [List.set_eq_take_append_cons_drop, if_pos hl]; rfl⟩
instance {t : TypeId} {cs l r : List Value} {off n : Nat} [h : AggOf P t true] [s : SzOf P t n] [c : AllCell l] [k : Spl cs off l r] [hn : CutN l n l] : PrimEq (stK P t cs off (.agg (List.toArray l))) r := ⟨by
  have e : l.length = n := by have h1 := hn.le; have h2 := congrArg List.length hn.eq; rw [List.length_take] at h2; omega
  unfold stK; rw [h.eq]; simp only; rw [if_pos ⟨by rw [s.eq, ← e]; exact k.le, by rw [s.eq, ← e]; rfl, c.all⟩, ← k.eq]⟩
instance {H0 B0 B : AH} {L : List (Nat × Blk)} {H : AH} {b off : Nat} {K : Blk} {v : Value} {t : TypeId} [hS : St H0 B0 B L H] [hm : InL b K L] [hv : PrimEq (ldK P t K.cells off) v] : PrimEq (ld P t H (ptr b off)) v :=
  ⟨(ld_blk (hS.get hm.mem)).trans hv.eq⟩
theorem Ev.stC {H0 B0 B : AH} {L L' : List (Nat × Blk)} {H : AH} {b off : Nat} {cs0 : List Value} {e : TypeId} {v : Value} {cs : List Value} {t : TypeId} {f : Nat → Nat → AH → Option R} {Q : R → Prop} [hS : St H0 B0 B L H] [hm : InL b ⟨cs0, e, .fix⟩ L] [hs : PrimEq (stK P t cs0 off v) cs]
    [hu : UpL b ⟨cs0, e, .fix⟩ ⟨cs, e, .fix⟩ L L'] (h : ∀ H', St H0 B0 B L' H' → Ev (fun k n => f k n H') Q) : Ev (fun k n => (Go.AM.st P t H (ptr b off) v).bind (f k n)) Q :=
  Ev.st hS hm.mem hs.eq (fun h => by cases h) hu.upd h
theorem Ev.newC {H0 B0 B : AH} {L : List (Nat × Blk)} {H : AH} {t : TypeId} {z : Value} {l : List Value} {f : Nat → Nat → Value → AH → Option R} {Q : R → Prop} [hz : ZeroOf P t z] [hl : CellsOf z l] [hS : St H0 B0 B L H]
    (h : ∀ b H', St H0 B0 B ((b, ⟨l, t, .fix⟩) :: L) H' → Ev (fun k n => f k n (ptr b 0) H') Q) : Ev (fun k n => Go.AM.b2 (Go.AM.newV P t H) (f k n)) Q := by
  have e : Go.AM.newV P t H = Go.AM.box t H z := by unfold Go.AM.newV; rw [hz.eq]; rfl
  rw [e]
  exact Ev.prim2 (by unfold Go.AM.box; rw [if_pos hl.ok, hl.eq]) (h H.length _ (hS.mkB' l t .fix))
theorem Ev.boxC {H0 B0 B : AH} {L : List (Nat × Blk)} {H : AH} {t : TypeId} {v : Value} {l : List Value} {f : Nat → Nat → Value → AH → Option R} {Q : R → Prop} [hl : CellsOf v l] [hS : St H0 B0 B L H]
    (h : ∀ b H', St H0 B0 B ((b, ⟨l, t, .fix⟩) :: L) H' → Ev (fun k n => f k n (ptr b 0) H') Q) : Ev (fun k n => Go.AM.b2 (Go.AM.box t H v) (f k n)) Q :=
  Ev.prim2 (by unfold Go.AM.box; rw [if_pos hl.ok, hl.eq]) (h H.length _ (hS.mkB' l t .fix))

section
variable {t s d : TypeId} {a b n : Nat} {x y : Int} {k k' : IntKind}
instance (priority := 900) : PrimEq (bin P .lss t (.int k (a : Int)) (.int k (no_index (@OfNat.ofNat Int n instOfNat)))) (.bool (decide (a < @OfNat.ofNat Nat n (instOfNatNat n)))) := ⟨lssL⟩
instance (priority := 900) : PrimEq (bin P .leq t (.int k (a : Int)) (.int k (no_index (@OfNat.ofNat Int n instOfNat)))) (.bool (decide (a ≤ @OfNat.ofNat Nat n (instOfNatNat n)))) := ⟨leqL⟩
instance (priority := 900) : PrimEq (bin P .gtr t (.int k (a : Int)) (.int k (no_index (@OfNat.ofNat Int n instOfNat)))) (.bool (decide (@OfNat.ofNat Nat n (instOfNatNat n) < a))) := ⟨gtrL⟩
instance (priority := 900) : PrimEq (bin P .geq t (.int k (a : Int)) (.int k (no_index (@OfNat.ofNat Int n instOfNat)))) (.bool (decide (@OfNat.ofNat Nat n (instOfNatNat n) ≤ a))) := ⟨geqL⟩
instance (priority := 900) : PrimEq (bin P .eql t (.int k (a : Int)) (.int k (no_index (@OfNat.ofNat Int n instOfNat)))) (.bool (decide (a = @OfNat.ofNat Nat n (instOfNatNat n)))) := ⟨eqlL⟩
instance (priority := 900) : PrimEq (bin P .neq t (.int k (a : Int)) (.int k (no_index (@OfNat.ofNat Int n instOfNat)))) (.bool (decide (a ≠ @OfNat.ofNat Nat n (instOfNatNat n)))) := ⟨neqL⟩
instance (priority := 2000) : PrimEq (bin P .eql t (.int k x) (.int k x)) (.bool true) := ⟨by rw [bin_eql, decide_eq_true rfl]⟩
instance (priority := 2000) : PrimEq (bin P .neq t (.int k x) (.int k x)) (.bool false) := ⟨by rw [bin_neq, decide_eq_false (fun h => h rfl)]⟩
instance : PrimEq (bin P .lss t (.int k (a : Int)) (.int k (b : Int))) (.bool (decide (a < b))) := ⟨lssN⟩
instance : PrimEq (bin P .leq t (.int k (a : Int)) (.int k (b : Int))) (.bool (decide (a ≤ b))) := ⟨leqN⟩
instance : PrimEq (bin P .gtr t (.int k (a : Int)) (.int k (b : Int))) (.bool (decide (b < a))) := ⟨gtrN⟩
instance : PrimEq (bin P .geq t (.int k (a : Int)) (.int k (b : Int))) (.bool (decide (b ≤ a))) := ⟨geqN⟩
instance : PrimEq (bin P .eql t (.int k (a : Int)) (.int k (b : Int))) (.bool (decide (a = b))) := ⟨eqlN⟩
instance : PrimEq (bin P .neq t (.int k (a : Int)) (.int k (b : Int))) (.bool (decide (a ≠ b))) := ⟨neqN⟩
instance (priority := 100) : PrimEq (bin P .lss t (.int k x) (.int k y)) (.bool (decide (x < y))) := ⟨bin_lss⟩
instance (priority := 100) : PrimEq (bin P .leq t (.int k x) (.int k y)) (.bool (decide (x ≤ y))) := ⟨bin_leq⟩
instance (priority := 100) : PrimEq (bin P .gtr t (.int k x) (.int k y)) (.bool (decide (y < x))) := ⟨bin_gtr⟩
instance (priority := 100) : PrimEq (bin P .geq t (.int k x) (.int k y)) (.bool (decide (y ≤ x))) := ⟨bin_geq⟩
instance (priority := 100) : PrimEq (bin P .eql t (.int k x) (.int k y)) (.bool (decide (x = y))) := ⟨bin_eql⟩
instance (priority := 100) : PrimEq (bin P .neq t (.int k x) (.int k y)) (.bool (decide (x ≠ y))) := ⟨bin_neq⟩
instance (priority := low) {b : Bool} : PrimEq (un P .not (.bool b)) (.bool (!b)) := ⟨un_not⟩
instance : PrimEq (un P .not (.bool true)) (.bool false) := ⟨un_not⟩
instance : PrimEq (un P .not (.bool false)) (.bool true) := ⟨un_not⟩
instance : PrimEq (un P .neg (.int k x)) (.int k (k.wrap (0 - x))) := ⟨un_neg⟩
end
instance {x y : Value} : PrimEq (pickV (.bool true) x y) x := ⟨rfl⟩
instance {x y : Value} : PrimEq (pickV (.bool false) x y) y := ⟨rfl⟩
instance {b o : Nat} : PrimEq (nilChk (ptr b o)) (ptr b o) := ⟨rfl⟩
instance {f : FuncId} {a b : Array Value} : PrimEq (nilChk (.func (.func f) a b)) (.func (.func f) a b) := ⟨rfl⟩
instance {a : Value} {l : List Value} : PrimEq (ext (.tuple (List.toArray (a :: l))) 0) a := ⟨rfl⟩
instance {a b : Value} {l : List Value} : PrimEq (ext (.tuple (List.toArray (a :: b :: l))) 1) b := ⟨rfl⟩
instance {a b c : Value} {l : List Value} : PrimEq (ext (.tuple (List.toArray (a :: b :: c :: l))) 2) c := ⟨rfl⟩
instance {t e : TypeId} {b o n c : Nat} [h : Und P t (.slice e)] : PrimEq (lenV P t (sl b o n c)) (i64 n) := ⟨lenV_sl h.eq⟩
instance {t e : TypeId} [h : Und P t (.slice e)] : PrimEq (lenV P t (.slice none 0 0)) (.int .i64 0) := ⟨by unfold lenV; rw [h.eq]; rfl⟩
instance (priority := low) {t e : TypeId} {z : Value} {sz : Nat} {B : AH} {v : Value} {xs : List Nat} [hE : Elt P t e z sz] [h : RdN B v xs] : PrimEq (lenV P t v) (i64 xs.length) := ⟨h.lenN hE⟩
instance {x y : Value} {v : Value} [h : PrimEq (maxV x y) v] : PrimEq (fold1 maxV [x, y]) v := ⟨by show Option.bind _ _ = _; rw [h.eq]; rfl⟩
instance {x y : Value} {v : Value} [h : PrimEq (minV x y) v] : PrimEq (fold1 minV [x, y]) v := ⟨by show Option.bind _ _ = _; rw [h.eq]; rfl⟩
instance {k k' : IntKind} {x y : Int} : PrimEq (maxV (.int k x) (.int k' y)) (.int k (if y > x then y else x)) := ⟨rfl⟩
instance {k k' : IntKind} {x y : Int} : PrimEq (minV (.int k x) (.int k' y)) (.int k (if y < x then y else x)) := ⟨rfl⟩

class Step (g : Nat → Nat → Option R) (g' : outParam (Nat → Nat → Option R)) : Prop where
  step : ∀ {Q : R → Prop}, Ev g' Q → Ev g Q
theorem Ev.s {g g' : Nat → Nat → Option R} {Q : R → Prop} [h : Step g g'] (k : Ev g' Q) : Ev g Q := h.step k
instance {v : Value} {H : AH} {f : Nat → Nat → Value → AH → Option R} : Step (fun k n => Go.AM.b2 (some (v, H)) (f k n)) (fun k n => f k n v H) := ⟨fun h => h⟩
instance {a : α} {f : Nat → Nat → α → Option R} : Step (fun k n => (some a).bind (f k n)) (fun k n => f k n a) := ⟨fun h => h⟩
instance {x y : Nat → Nat → Option R} : Step (fun k n => aIf (.bool true) (x k n) (y k n)) x := ⟨fun h => h⟩
instance {x y : Nat → Nat → Option R} : Step (fun k n => aIf (.bool false) (x k n) (y k n)) y := ⟨fun h => h⟩
instance {x y : Nat → Nat → Option R} : Step (fun k n => aIf (.bool (!true)) (x k n) (y k n)) y := ⟨fun h => h⟩
instance {x y : Nat → Nat → Option R} : Step (fun k n => aIf (.bool (!false)) (x k n) (y k n)) x := ⟨fun h => h⟩
instance (priority := low) {E : Option α} {a : α} {f : Nat → Nat → α → Option R} [h : PrimEq E a] : Step (fun k n => E.bind (f k n)) (fun k n => f k n a) := ⟨fun h2 => Ev.prim h.eq h2⟩
instance {E : Nat → Nat → Option (Value × AH)} {H : AH} {f : Nat → Nat → Value → AH → Option R} : Step (fun k n => Go.AM.b2 (gOp (.bool true) true (E k n) H) (f k n)) (fun k n => Go.AM.b2 (E k n) (f k n)) := ⟨fun h => Ev.gDo h⟩
instance {E : Nat → Nat → Option (Value × AH)} {H : AH} {f : Nat → Nat → Value → AH → Option R} : Step (fun k n => Go.AM.b2 (gOp (.bool false) false (E k n) H) (f k n)) (fun k n => Go.AM.b2 (E k n) (f k n)) := ⟨fun h => Ev.gDo h⟩
instance {E : Nat → Nat → Option (Value × AH)} {H : AH} {f : Nat → Nat → Value → AH → Option R} : Step (fun k n => Go.AM.b2 (gOp (.bool true) false (E k n) H) (f k n)) (fun k n => f k n undef H) := ⟨fun h => Ev.gSkipF h⟩
instance {E : Nat → Nat → Option (Value × AH)} {H : AH} {f : Nat → Nat → Value → AH → Option R} : Step (fun k n => Go.AM.b2 (gOp (.bool false) true (E k n) H) (f k n)) (fun k n => f k n undef H) := ⟨fun h => Ev.gSkipT h⟩
instance {w : Bool} {E : Nat → Nat → Option (Value × AH)} {H : AH} {f : Nat → Nat → Value → AH → Option R} : Step (fun k n => Go.AM.b2 (gOp undef w (E k n) H) (f k n)) (fun k n => f k n undef H) := ⟨fun h => Ev.gUndef h⟩
instance {E : Nat → Nat → Option (Value × AH)} {H : AH} {f : Nat → Nat → Value → AH → Option R} : Step (fun k n => Go.AM.b2 (gOp (.bool (!true)) true (E k n) H) (f k n)) (fun k n => f k n undef H) := ⟨fun h => Ev.gSkipT h⟩
instance {E : Nat → Nat → Option (Value × AH)} {H : AH} {f : Nat → Nat → Value → AH → Option R} : Step (fun k n => Go.AM.b2 (gOp (.bool (!false)) true (E k n) H) (f k n)) (fun k n => Go.AM.b2 (E k n) (f k n)) := ⟨fun h => Ev.gDo h⟩
instance {E : Nat → Nat → Option (Value × AH)} {H : AH} {f : Nat → Nat → Value → AH → Option R} : Step (fun k n => Go.AM.b2 (gOp (.bool (!true)) false (E k n) H) (f k n)) (fun k n => Go.AM.b2 (E k n) (f k n)) := ⟨fun h => Ev.gDo h⟩
instance {E : Nat → Nat → Option (Value × AH)} {H : AH} {f : Nat → Nat → Value → AH → Option R} : Step (fun k n => Go.AM.b2 (gOp (.bool (!false)) false (E k n) H) (f k n)) (fun k n => f k n undef H) := ⟨fun h => Ev.gSkipF h⟩
instance {E : Option Value} {a : Value} {H : AH} {f : Nat → Nat → Value → AH → Option R} [h : PrimEq E a] : Step (fun k n => Go.AM.b2 (E.bind fun v => some (v, H)) (f k n)) (fun k n => f k n a H) := ⟨fun h2 => Ev.gPrim h.eq rfl h2⟩
instance {g : Nat → Nat → Option (Value × AH)} {f : Nat → Nat → Value → AH → Option R} : Step (fun k n => Go.AM.b2 (Go.AM.b2 (g k n) fun v H => some (v, H)) (f k n)) (fun k n => Go.AM.b2 (g k n) (f k n)) := ⟨fun h => Ev.gCall h⟩
instance {g : Nat → Nat → Option α} {f : Nat → Nat → α → Option β} {f2 : Nat → Nat → β → Option R} : Step (fun k n => ((g k n).bind (f k n)).bind (f2 k n)) (fun k n => (g k n).bind fun x => (f k n x).bind (f2 k n)) := ⟨fun h => Ev.assoc h⟩
instance {x : Nat → Nat → Option R} {E : Option α} {a : α} [h : PrimEq E a] : Step (fun k n => aChk (E = some a) (x k n)) x := ⟨fun h2 => Ev.chk h.eq h2⟩
instance {x : Nat → Nat → Option R} {q : Prop} {E : Option α} {a : α} [h : PrimEq E a] : Step (fun k n => aChk (q → E = some a) (x k n)) x := ⟨fun h2 => Ev.chk (fun _ => h.eq) h2⟩
instance (priority := high) {x : Nat → Nat → Option R} {p : Prop} : Step (fun k n => aChk (Value.bool false = .bool true → p) (x k n)) x := ⟨fun h2 => Ev.chk (fun h => by cases h) h2⟩
/-- With a condition. -/
theorem Ev.sc {E : Option α} {p : Prop} {a : α} {f : Nat → Nat → α → Option R} {Q : R → Prop} [h : PrimC E p a] (hp : p) (k : Ev (fun k n => f k n a) Q) : Ev (fun k n => E.bind (f k n)) Q := Ev.prim (h.eq hp) k
theorem Ev.scg {E : Option Value} {p : Prop} {a : Value} {H : AH} {f : Nat → Nat → Value → AH → Option R} {Q : R → Prop} [h : PrimC E p a] (hp : p) (k : Ev (fun k n => f k n a H) Q) : Ev (fun k n => Go.AM.b2 (E.bind fun v => some (v, H)) (f k n)) Q := Ev.gPrim (h.eq hp) rfl k
section
variable {t s d : TypeId} {a b n : Nat} {x y : Int} {k k' : IntKind}
instance (priority := 900) : PrimC (bin P .add t (i64 a) (.int .i64 (no_index (@OfNat.ofNat Int n instOfNat)))) (a + @OfNat.ofNat Nat n (instOfNatNat n) < 9223372036854775808) (i64 (a + @OfNat.ofNat Nat n (instOfNatNat n))) := ⟨addL⟩
instance (priority := 900) : PrimC (bin P .sub t (i64 a) (.int .i64 (no_index (@OfNat.ofNat Int n instOfNat)))) (@OfNat.ofNat Nat n (instOfNatNat n) ≤ a ∧ a < 9223372036854775808) (i64 (a - @OfNat.ofNat Nat n (instOfNatNat n))) := ⟨subL⟩
instance (priority := 900) : PrimC (bin P .mul t (i64 a) (.int .i64 (no_index (@OfNat.ofNat Int n instOfNat)))) (a * @OfNat.ofNat Nat n (instOfNatNat n) < 9223372036854775808) (i64 (a * @OfNat.ofNat Nat n (instOfNatNat n))) := ⟨mulL⟩
instance (priority := 900) : PrimC (bin P .mul t (.int .i64 (no_index (@OfNat.ofNat Int n instOfNat))) (i64 a)) (@OfNat.ofNat Nat n (instOfNatNat n) * a < 9223372036854775808) (i64 (@OfNat.ofNat Nat n (instOfNatNat n) * a)) := ⟨lmul⟩
instance (priority := 900) : PrimC (bin P .quo t (i64 a) (.int .i64 (no_index (@OfNat.ofNat Int n instOfNat)))) (@OfNat.ofNat Nat n (instOfNatNat n) ≠ 0 ∧ a < 9223372036854775808) (i64 (a / @OfNat.ofNat Nat n (instOfNatNat n))) := ⟨quoL⟩
instance (priority := 900) : PrimC (bin P .rem t (.int k (a : Int)) (.int k (no_index (@OfNat.ofNat Int n instOfNat)))) (@OfNat.ofNat Nat n (instOfNatNat n) ≠ 0) (.int k ((a % @OfNat.ofNat Nat n (instOfNatNat n) : Nat) : Int)) := ⟨remL⟩
instance : PrimC (bin P .add t (i64 a) (i64 b)) (a + b < 9223372036854775808) (i64 (a + b)) := ⟨addN⟩
instance : PrimC (bin P .sub t (i64 a) (i64 b)) (b ≤ a ∧ a < 9223372036854775808) (i64 (a - b)) := ⟨subN⟩
instance : PrimC (bin P .mul t (i64 a) (i64 b)) (a * b < 9223372036854775808) (i64 (a * b)) := ⟨mulN⟩
instance : PrimC (bin P .quo t (i64 a) (i64 b)) (b ≠ 0 ∧ a < 9223372036854775808) (i64 (a / b)) := ⟨quoN⟩
instance : PrimC (bin P .rem t (.int k (a : Int)) (.int k (b : Int))) (b ≠ 0) (.int k ((a % b : Nat) : Int)) := ⟨remN⟩
instance : PrimC (bin P .add t (u64 a) (u64 b)) (a + b < 18446744073709551616) (u64 (a + b)) := ⟨addQ⟩
instance : PrimC (bin P .sub t (u64 a) (u64 b)) (b ≤ a ∧ a < 18446744073709551616) (u64 (a - b)) := ⟨subQ⟩
instance : PrimC (bin P .mul t (u64 a) (u64 b)) (a * b < 18446744073709551616) (u64 (a * b)) := ⟨mulQ⟩
instance (priority := 100) : PrimC (bin P .add t (.int .i64 x) (.int .i64 y)) (-9223372036854775808 ≤ x + y ∧ x + y < 9223372036854775808) (.int .i64 (x + y)) := ⟨bin_add64⟩
instance (priority := 100) : PrimC (bin P .sub t (.int .i64 x) (.int .i64 y)) (-9223372036854775808 ≤ x - y ∧ x - y < 9223372036854775808) (.int .i64 (x - y)) := ⟨bin_sub64⟩
instance (priority := 100) : PrimC (bin P .mul t (.int .i64 x) (.int .i64 y)) (-9223372036854775808 ≤ x * y ∧ x * y < 9223372036854775808) (.int .i64 (x * y)) := ⟨bin_mul64⟩
end
theorem Ev.doneC {H0 B0 B : AH} {L : List (Nat × Blk)} {H : AH} {Post : AH → Value → Prop} {v : Value} [hS : St H0 B0 B L H] (hp : Post B v) : Ev (fun _ _ => some (v, H)) (An B0 H0 Post) := Ev.done hS hp
end Go.AM
set_option linter.unusedVariables false
set_option linter.unusedSimpArgs false
namespace Go.AM
variable {α β R : Type} {P : Program}
class PlusL (a b : Nat) (r : outParam Nat) : Prop where
  eq : a + b = r
instance (priority := low) {a b : Nat} : PlusL a b (a + b) := ⟨rfl⟩
instance {b : Nat} : PlusL 0 b b := ⟨Nat.zero_add b⟩
instance {a : Nat} : PlusL a 0 a := ⟨rfl⟩
instance : PlusL 1 1 2 := ⟨rfl⟩
instance : PlusL 1 2 3 := ⟨rfl⟩
instance : PlusL 1 3 4 := ⟨rfl⟩
instance : PlusL 1 4 5 := ⟨rfl⟩
instance : PlusL 1 5 6 := ⟨rfl⟩
instance : PlusL 1 6 7 := ⟨rfl⟩
instance : PlusL 1 7 8 := ⟨rfl⟩
instance : PlusL 1 8 9 := ⟨rfl⟩
instance : PlusL 2 1 3 := ⟨rfl⟩
instance : PlusL 2 2 4 := ⟨rfl⟩
instance : PlusL 2 3 5 := ⟨rfl⟩
instance : PlusL 2 4 6 := ⟨rfl⟩
instance : PlusL 2 5 7 := ⟨rfl⟩
instance : PlusL 2 6 8 := ⟨rfl⟩
instance : PlusL 2 7 9 := ⟨rfl⟩
instance : PlusL 2 8 10 := ⟨rfl⟩
instance : PlusL 3 1 4 := ⟨rfl⟩
instance : PlusL 3 2 5 := ⟨rfl⟩
instance : PlusL 3 3 6 := ⟨rfl⟩
instance : PlusL 3 4 7 := ⟨rfl⟩
instance : PlusL 3 5 8 := ⟨rfl⟩
instance : PlusL 3 6 9 := ⟨rfl⟩
instance : PlusL 3 7 10 := ⟨rfl⟩
instance : PlusL 3 8 11 := ⟨rfl⟩
instance : PlusL 4 1 5 := ⟨rfl⟩
instance : PlusL 4 2 6 := ⟨rfl⟩
instance : PlusL 4 3 7 := ⟨rfl⟩
instance : PlusL 4 4 8 := ⟨rfl⟩
instance : PlusL 4 5 9 := ⟨rfl⟩
instance : PlusL 4 6 10 := ⟨rfl⟩
instance : PlusL 4 7 11 := ⟨rfl⟩
instance : PlusL 4 8 12 := ⟨rfl⟩
instance : PlusL 5 1 6 := ⟨rfl⟩
instance : PlusL 5 2 7 := ⟨rfl⟩
instance : PlusL 5 3 8 := ⟨rfl⟩
instance : PlusL 5 4 9 := ⟨rfl⟩
instance : PlusL 5 5 10 := ⟨rfl⟩
instance : PlusL 5 6 11 := ⟨rfl⟩
instance : PlusL 5 7 12 := ⟨rfl⟩
instance : PlusL 5 8 13 := ⟨rfl⟩
instance : PlusL 6 1 7 := ⟨rfl⟩
instance : PlusL 6 2 8 := ⟨rfl⟩
instance : PlusL 6 3 9 := ⟨rfl⟩
instance : PlusL 6 4 10 := ⟨rfl⟩
instance : PlusL 6 5 11 := ⟨rfl⟩
instance : PlusL 6 6 12 := ⟨rfl⟩
instance : PlusL 6 7 13 := ⟨rfl⟩
instance : PlusL 6 8 14 := ⟨rfl⟩
instance : PlusL 7 1 8 := ⟨rfl⟩
instance : PlusL 7 2 9 := ⟨rfl⟩
instance : PlusL 7 3 10 := ⟨rfl⟩
instance : PlusL 7 4 11 := ⟨rfl⟩
instance : PlusL 7 5 12 := ⟨rfl⟩
instance : PlusL 7 6 13 := ⟨rfl⟩
instance : PlusL 7 7 14 := ⟨rfl⟩
instance : PlusL 7 8 15 := ⟨rfl⟩
instance : PlusL 8 1 9 := ⟨rfl⟩
instance : PlusL 8 2 10 := ⟨rfl⟩
instance : PlusL 8 3 11 := ⟨rfl⟩
instance : PlusL 8 4 12 := ⟨rfl⟩
instance : PlusL 8 5 13 := ⟨rfl⟩
instance : PlusL 8 6 14 := ⟨rfl⟩
instance : PlusL 8 7 15 := ⟨rfl⟩
instance : PlusL 8 8 16 := ⟨rfl⟩
class FieldOf (P : Program) (s : TypeId) (i : Nat) (off : outParam Nat) (ft : outParam TypeId) : Prop where
  ex : ∃ fs f, P.underlying s = some (.struct fs) ∧ fs[i]? = some f ∧ f.offset = off ∧ f.type = ft
  nz : szT P ft ≠ 0
class StructOf (P : Program) (s : TypeId) (l : outParam (List Value)) : Prop where
  zero : zeroT P s = some (.agg (List.toArray l))
  ex : ∃ fs, P.underlying s = some (.struct fs) ∧ fs.toList.all (fun f => (P.info? f.type).isSome) = true
instance {s : TypeId} {l : List Value} [h : StructOf P s l] : ZeroOf P s (.agg (List.toArray l)) := ⟨h.zero⟩
instance {s ft : TypeId} {i off b o r : Nat} [h : FieldOf P s i off ft] [p : PlusL o off r] : PrimEq (fldA P s (ptr b o) i) (ptr b r) := ⟨by
  obtain ⟨fs, f, h1, h2, h3, h4⟩ := h.ex
  unfold fldA ptr; rw [h1]; simp only [h2, Option.bind_some]; rw [if_neg (by rw [h4]; exact h.nz), h3, p.eq]⟩
instance {s ft : TypeId} {i off : Nat} {l : List Value} {v : Value} [h : FieldOf P s i off ft] [a : AggOf P ft false] [n : Nth l off v] : PrimEq (fld P s (.agg (List.toArray l)) i) v := ⟨by
  obtain ⟨fs, f, h1, h2, h3, h4⟩ := h.ex
  unfold fld; rw [h1]; simp only [h2, Option.bind_some]; unfold prt; rw [h4, a.eq, h3]; exact n.eq⟩
instance {s ft : TypeId} {i off n : Nat} {l r : List Value} [h : FieldOf P s i off ft] [a : AggOf P ft true] [z : SzOf P ft n] [c : Cut l off n r] : PrimEq (fld P s (.agg (List.toArray l)) i) (.agg (List.toArray r)) := ⟨by
  obtain ⟨fs, f, h1, h2, h3, h4⟩ := h.ex
  unfold fld; rw [h1]; simp only [h2, Option.bind_some]; unfold prt; rw [h4, a.eq, h3, z.eq]; simp only; rw [c.eq]⟩
class FillP (P : Program) (s : TypeId) (cs : List Value) (parts : List (Nat × Value)) (r : outParam (List Value)) : Prop where
  eq : ∀ fs, P.underlying s = some (.struct fs) → fillB (fun i => (fs[i]?).map fun f => (f.offset, szT P f.type)) cs parts = some r
instance {s : TypeId} {cs : List Value} : FillP P s cs [] cs := ⟨fun _ _ => rfl⟩
instance {s ft : TypeId} {i off n : Nat} {v : Value} {l cs cs' r : List Value} {ps : List (Nat × Value)} [h : FieldOf P s i off ft] [z : SzOf P ft n] [c : CellsOf v l] [k : CutN l n l] [sp : Spl cs off l cs'] [f : FillP P s cs' ps r] :
    FillP P s cs ((i, v) :: ps) r := ⟨fun fs hf => by
  obtain ⟨fs', g, h1, h2, h3, h4⟩ := h.ex
  rw [hf] at h1; cases h1
  have e : l.length = n := by have h1 := k.le; have h2 := congrArg List.length k.eq; rw [List.length_take] at h2; omega
  have e2 : v.cells.size = n := by rw [← e, ← c.eq]; rfl
  unfold fillB
  simp only [h2, Option.map_some, h3, h4, z.eq]
  rw [if_pos ⟨e2, by rw [← e]; exact sp.le, c.ok⟩, c.eq, sp.eq]
  exact f.eq fs hf⟩
instance {s : TypeId} {l r : List Value} {parts : List (Nat × Value)} [h : StructOf P s l] [f : FillP P s l parts r] : PrimEq (build P s parts) (.agg (List.toArray r)) := ⟨by
  obtain ⟨fs, h1, h2⟩ := h.ex
  unfold build; rw [h.zero]; simp only [Option.bind_some, h1]
  rw [if_neg (by rw [h2]; simp)]
  have := f.eq fs h1
  simp only [Value.cells]
  rw [this]; rfl⟩
section
variable {s d : TypeId} {D : TypeDesc} {a : Nat} {x : Int} {k k' : IntKind}
instance [hs : Und P s D] [hd : Und P d (.int .u32)] : PrimEq (cv P s d (.int k (a : Int))) (u32 (a % 4294967296)) := ⟨toU32 hs.eq hd.eq⟩
instance [hs : Und P s D] [hd : Und P d (.int .u8)] : PrimEq (cv P s d (.int k (a : Int))) (u8 (a % 256)) := ⟨toU8 hs.eq hd.eq⟩
instance [hs : Und P s D] [hd : Und P d (.int .u64)] : PrimC (cv P s d (.int k (a : Int))) (a < 18446744073709551616) (u64 a) := ⟨fun h => toU64 h hs.eq hd.eq⟩
instance [hs : Und P s D] [hd : Und P d (.int .i64)] : PrimC (cv P s d (.int k (a : Int))) (a < 9223372036854775808) (i64 a) := ⟨fun h => toI64 h hs.eq hd.eq⟩
end
class LdB (P : Program) (e : TypeId) (p : Value) (B : outParam AH) (v : outParam Value) : Prop where
  eq : ∀ H', Mo B H' → ld P e H' p = some v
instance {e : TypeId} {p v : Value} {H0 B0 B H : AH} {L : List (Nat × Blk)} [h : LdB P e p B v] [hS : St H0 B0 B L H] : PrimEq (ld P e H p) v := ⟨h.eq H hS.le⟩
section
variable {t e : TypeId} {z : Value} {sz : Nat} {H0 B0 B H : AH} {L : List (Nat × Blk)} {v : Value} {xs : List Nat} {k : IntKind}
theorem Ev.ixC {f : Nat → Nat → Value → Option R} {Q : R → Prop} {i : Int} [hE : Elt P t e z sz] [h : RdN B v xs] (j : Nat) (hi : i = (j : Int)) (hj : j < xs.length) (hk : ∀ p, LdB P e p B (u32 (xs.getD j 0)) → Ev (fun k n => f k n p) Q) :
    Ev (fun k' n => (ixA P t v (.int k i)).bind (f k' n)) Q := by
  subst hi
  obtain ⟨p, h1, h2⟩ := h.ixN (k := k) (i := j) hE hj
  exact Ev.prim h1 (hk p ⟨h2⟩)
theorem Ev.uptoC {f : Nat → Nat → Value → Option R} {Q : R → Prop} {i : Int} [hE : Elt P t e z sz] [h : RdN B v xs] (j : Nat) (hi : i = (j : Int)) (hj : j ≤ xs.length) (hk : ∀ w, RdN B w (xs.take j) → Ev (fun k n => f k n w) Q) :
    Ev (fun k' n => (slc P t v none (some (.int k i))).bind (f k' n)) Q := by
  subst hi
  obtain ⟨w, h1, h2⟩ := h.uptoN (k := k) (i := j) hE hj
  exact Ev.prim h1 (hk w h2)
class Rep (n : Nat) (z : Value) (l : outParam (List Value)) : Prop where
  eq : List.replicate n z = l
instance {z : Value} : Rep 0 z [] := ⟨rfl⟩
instance {z : Value} {n : Nat} {l : List Value} [h : Rep n z l] : Rep (n + 1) z (z :: l) := ⟨by rw [List.replicate_succ, h.eq]⟩
class FillL (cs : List Value) (parts : List (Nat × Value)) (r : outParam (List Value)) : Prop where
  eq : fillB (fun i => some (i * 1, 1)) cs parts = some r
instance {cs : List Value} : FillL cs [] cs := ⟨rfl⟩
instance {i : Nat} {v : Value} {cs cs' r : List Value} {ps : List (Nat × Value)} [c : IsCell v] [sp : Spl cs i [v] cs'] [f : FillL cs' ps r] : FillL cs ((i, v) :: ps) r := ⟨by
  have h1 := cells_one c.is
  have h2 := f.eq
  simp only [Nat.mul_one] at h2
  unfold fillB
  simp only [Nat.mul_one]
  rw [if_pos ⟨size_cells h1, by have := sp.le; simpa using this, okCells_of c.is⟩, h1, sp.eq]
  exact h2⟩
theorem Ev.bsC {m : Nat} {parts : List (Nat × Value)} {l cs : List Value} {f : Nat → Nat → Value → AH → Option R} {Q : R → Prop} [hE : Elt P t e z sz] [hS : St H0 B0 B L H] [hr : Rep m z l] [hf : FillL l parts cs] (hm : m ≤ 16777216)
    (h : ∀ b H', St H0 B0 B ((b, ⟨cs, e, .fix⟩) :: L) H' → Ev (fun k n => f k n (sl b 0 m m) H') Q) : Ev (fun k n => Go.AM.b2 (Go.AM.buildS P t H m parts) (f k n)) Q := by
  refine Ev.prim2 ?_ (h H.length _ (hS.mkB' cs e .fix))
  unfold Go.AM.buildS
  rw [hE.U]; simp only [hE.Z, hE.S, hE.zn, Option.bind_some, rep_one]
  rw [if_pos ⟨by omega, size_cells hE.zn⟩, hr.eq, hf.eq]; rfl
end
end Go.AM
set_option linter.unusedVariables false
set_option linter.unusedSimpArgs false
namespace Go.AM
variable {α β R : Type} {P : Program}
/-- A call that changes what is the caller's. -/
def AnS (H0 B0 B : AH) (L : List (Nat × Blk)) (Post : AH → Value → Prop) (r : Value × AH) : Prop := ∃ B', Mo B B' ∧ St H0 B0 B' L r.2 ∧ Post B' r.1
theorem Ev.callS {H0 B0 B : AH} {L : List (Nat × Blk)} {g : Nat → Nat → Option (Value × AH)} {Post : AH → Value → Prop} {f : Nat → Nat → Value → AH → Option R} {Q : R → Prop}
    (hc : Ev g (AnS H0 B0 B L Post)) (h : ∀ v B' H', Mo B B' → St H0 B0 B' L H' → Post B' v → Ev (fun k n => f k n v H') Q) : Ev (fun k n => Go.AM.b2 (g k n) (f k n)) Q :=
  Ev.b2 hc fun v H' ha => by
    obtain ⟨B', hm, hS', hp⟩ := ha
    exact h v B' H' hm hS' hp
theorem Ev.doneS {H0 B0 B B1 : AH} {L : List (Nat × Blk)} {H : AH} {Post : AH → Value → Prop} {v : Value} [hS : St H0 B0 B L H] (hm : Mo B1 B) (hp : Post B v) : Ev (fun _ _ => some (v, H)) (AnS H0 B0 B1 L Post) := Ev.ret ⟨B, hm, hS, hp⟩
theorem AnS.an {H0 B0 B : AH} {L : List (Nat × Blk)} {Post : AH → Value → Prop} {g : Nat → Nat → Option (Value × AH)} (h : Ev g (AnS H0 B0 B L Post)) : Ev g (An B0 H0 Post) :=
  h.mono fun r ⟨B', hm, hS, hp⟩ => hS.an hp
class InfoOf (P : Program) (t : TypeId) : Prop where
  is : (P.info? t).isSome = true
class TimesL (a b : Nat) (r : outParam Nat) : Prop where
  eq : a * b = r
instance (priority := low) {a b : Nat} : TimesL a b (a * b) := ⟨rfl⟩
instance {b : Nat} : TimesL 0 b 0 := ⟨Nat.zero_mul b⟩
instance {b : Nat} : TimesL 1 b b := ⟨Nat.one_mul b⟩
instance {b : Nat} : TimesL b 1 b := ⟨Nat.mul_one b⟩
instance : TimesL 2 2 4 := ⟨rfl⟩
instance : TimesL 2 3 6 := ⟨rfl⟩
instance : TimesL 2 4 8 := ⟨rfl⟩
instance : TimesL 2 5 10 := ⟨rfl⟩
instance : TimesL 2 6 12 := ⟨rfl⟩
instance : TimesL 2 7 14 := ⟨rfl⟩
instance : TimesL 2 8 16 := ⟨rfl⟩
instance : TimesL 3 2 6 := ⟨rfl⟩
instance : TimesL 3 3 9 := ⟨rfl⟩
instance : TimesL 3 4 12 := ⟨rfl⟩
instance : TimesL 3 5 15 := ⟨rfl⟩
instance : TimesL 3 6 18 := ⟨rfl⟩
instance : TimesL 3 7 21 := ⟨rfl⟩
instance : TimesL 3 8 24 := ⟨rfl⟩
instance : TimesL 4 2 8 := ⟨rfl⟩
instance : TimesL 4 3 12 := ⟨rfl⟩
instance : TimesL 4 4 16 := ⟨rfl⟩
instance : TimesL 4 5 20 := ⟨rfl⟩
instance : TimesL 4 6 24 := ⟨rfl⟩
instance : TimesL 4 7 28 := ⟨rfl⟩
instance : TimesL 4 8 32 := ⟨rfl⟩
instance : TimesL 5 2 10 := ⟨rfl⟩
instance : TimesL 5 3 15 := ⟨rfl⟩
instance : TimesL 5 4 20 := ⟨rfl⟩
instance : TimesL 5 5 25 := ⟨rfl⟩
instance : TimesL 5 6 30 := ⟨rfl⟩
instance : TimesL 5 7 35 := ⟨rfl⟩
instance : TimesL 5 8 40 := ⟨rfl⟩
instance : TimesL 6 2 12 := ⟨rfl⟩
instance : TimesL 6 3 18 := ⟨rfl⟩
instance : TimesL 6 4 24 := ⟨rfl⟩
instance : TimesL 6 5 30 := ⟨rfl⟩
instance : TimesL 6 6 36 := ⟨rfl⟩
instance : TimesL 6 7 42 := ⟨rfl⟩
instance : TimesL 6 8 48 := ⟨rfl⟩
instance : TimesL 7 2 14 := ⟨rfl⟩
instance : TimesL 7 3 21 := ⟨rfl⟩
instance : TimesL 7 4 28 := ⟨rfl⟩
instance : TimesL 7 5 35 := ⟨rfl⟩
instance : TimesL 7 6 42 := ⟨rfl⟩
instance : TimesL 7 7 49 := ⟨rfl⟩
instance : TimesL 7 8 56 := ⟨rfl⟩
class AppL (a b : List Value) (r : outParam (List Value)) : Prop where
  eq : a ++ b = r
instance {b : List Value} : AppL [] b b := ⟨rfl⟩
instance {x : Value} {a b r : List Value} [h : AppL a b r] : AppL (x :: a) b (x :: r) := ⟨by rw [List.cons_append, h.eq]⟩
class RepA (n : Nat) (z : List Value) (l : outParam (List Value)) : Prop where
  eq : rep z n = l
instance {z : List Value} : RepA 0 z [] := ⟨rfl⟩
instance {z : List Value} {n : Nat} {l r : List Value} [h : RepA n z l] [k : AppL z l r] : RepA (n + 1) z r := ⟨by rw [rep, h.eq, k.eq]⟩
class FillE (sz : Nat) (cs : List Value) (parts : List (Nat × Value)) (r : outParam (List Value)) : Prop where
  eq : fillB (fun i => some (i * sz, sz)) cs parts = some r
instance {sz : Nat} {cs : List Value} : FillE sz cs [] cs := ⟨rfl⟩
instance {sz i o : Nat} {v : Value} {l cs cs' r : List Value} {ps : List (Nat × Value)} [t : TimesL i sz o] [c : CellsOf v l] [k : CutN l sz l] [sp : Spl cs o l cs'] [f : FillE sz cs' ps r] : FillE sz cs ((i, v) :: ps) r := ⟨by
  have e : l.length = sz := by have h1 := k.le; have h2 := congrArg List.length k.eq; rw [List.length_take] at h2; omega
  have e2 : v.cells.size = sz := by rw [← e, ← c.eq]; rfl
  have hf := f.eq
  have hl := sp.le
  have hs := sp.eq
  unfold fillB
  simp only [t.eq]
  rw [if_pos ⟨e2, by rw [← e]; exact hl, c.ok⟩, c.eq, hs]
  exact hf⟩
instance {t e : TypeId} {sz b len cap i ofs : Nat} {k : IntKind} [hU : Und P t (.slice e)] [hs : SzOf P e sz] [hi : InfoOf P e] [ht : TimesL i sz ofs] : PrimC (ixA P t (sl b 0 len cap) (.int k (i : Int))) (i < len) (ptr b ofs) := ⟨fun h => by
  unfold ixA sl; rw [hU.eq]; simp only; rw [if_pos ⟨hi.is, by omega, by omega⟩, hs.eq, Int.toNat_natCast, ht.eq, Nat.zero_add]⟩
instance (priority := 900) {t e : TypeId} {sz b len cap n ofs : Nat} {k : IntKind} [hU : Und P t (.slice e)] [hs : SzOf P e sz] [hi : InfoOf P e] [ht : TimesL n sz ofs] : PrimC (ixA P t (sl b 0 len cap) (.int k (no_index (@OfNat.ofNat Int n instOfNat)))) (n < len) (ptr b ofs) := ⟨fun h => by
  have e : (@OfNat.ofNat Int n instOfNat) = ((n : Nat) : Int) := rfl
  rw [e]
  unfold ixA sl; rw [hU.eq]; simp only; rw [if_pos ⟨hi.is, by omega, by omega⟩, hs.eq, Int.toNat_natCast, ht.eq, Nat.zero_add]⟩
theorem St.drop1 {H0 B0 B : AH} {x : Nat × Blk} {L : List (Nat × Blk)} {H : AH} (h : St H0 B0 B (x :: L) H) : St H0 B0 B L H := h.drop (List.sublist_cons_self x L)
theorem Upd.make {b : Nat} {K K' : Blk} {L : List (Nat × Blk)} (h : (b, K) ∈ L) : ∃ L', Upd b K K' L L' := by
  induction L with
  | nil => cases h
  | cons x L ih =>
    cases h with
    | head => exact ⟨_, .head _⟩
    | tail _ h => exact (ih h).elim fun L' h' => ⟨_, .tail x h'⟩
theorem Upd.fix {b : Nat} {K K' : Blk} {L L' L'' : List (Nat × Blk)} (h : Upd b K K' L L') (hn : (L.map Prod.fst).Nodup) (h' : Upd b K K' L L'') : L'' = L' := by
  induction h generalizing L'' with
  | head L =>
    cases h' with
    | head => rfl
    | tail _ h' => exact absurd (mem_fst h'.mem rfl) (List.nodup_cons.mp hn).1
  | tail x h ih =>
    cases h' with
    | head => exact absurd (mem_fst h.mem rfl) (List.nodup_cons.mp hn).1
    | tail _ h' => rw [ih (List.nodup_cons.mp hn).2 h']
theorem Upd.other {b c : Nat} {K K' K2 : Blk} {L L' : List (Nat × Blk)} (h : Upd b K K' L L') (hc : (c, K2) ∈ L) (hn : c ≠ b) : (c, K2) ∈ L' := by
  induction h with
  | head L =>
    cases hc with
    | head => exact absurd rfl hn
    | tail _ hc => exact .tail _ hc
  | tail x h ih =>
    cases hc with
    | head => exact .head _
    | tail _ hc => exact .tail _ (ih hc)
theorem Mo.le {B H : AH} (h : Mo B H) : Le B H := ⟨h⟩
end Go.AM
set_option linter.unusedVariables false
namespace Go.AM
variable {α β R : Type} {P : Program}
class MoC (B : outParam AH) (B' : AH) : Prop where
  mo : Mo B B'
class MoT (B B' : AH) : Prop where
  mo : Mo B B'
instance {B : AH} : MoT B B := ⟨Mo.refl B⟩
instance (priority := low) {A B C : AH} [h : MoC B C] [k : MoT A B] : MoT A C := ⟨k.mo.trans h.mo⟩
/-- Digits that stand, from some time on. -/
class RdT (B : AH) (v : Value) (xs : outParam (List Nat)) : Prop where
  rd : RdN B v xs
instance {B0 B : AH} {v : Value} {xs : List Nat} [h : RdN B0 v xs] [t : MoT B0 B] : RdT B v xs := ⟨h.mono t.mo⟩
instance {B : AH} : RdT B (.slice none 0 0) [] := ⟨RdN.nil⟩
theorem Ev.callD {H0 B0 B : AH} {L : List (Nat × Blk)} {H : AH} {g : Nat → Nat → Option (Value × AH)} {Post : AH → Value → Prop} {f : Nat → Nat → Value → AH → Option R} {Q : R → Prop} [hS : St H0 B0 B L H]
    (hc : Le B H → Ev g (An B H Post)) (h : ∀ v B' H', MoC B B' → St H0 B0 B' L H' → Post B' v → Ev (fun k n => f k n v H') Q) : Ev (fun k n => Go.AM.b2 (g k n) (f k n)) Q :=
  Ev.call hS hc fun v B' H' hm hS' hp => h v B' H' ⟨hm⟩ hS' hp
end Go.AM
set_option maxRecDepth 100000
namespace Go.AM.Z
open Go Go.AM Go.Proofs
instance : Und Tryd.prog 3 (.int .i64) := ⟨Tryd.underlying3⟩
instance : InfoOf Tryd.prog 3 := ⟨by kernel_rfl⟩
instance : AggOf Tryd.prog 3 false := ⟨by kernel_rfl⟩
instance : SzOf Tryd.prog 3 1 := ⟨by kernel_rfl⟩
instance : ZeroOf Tryd.prog 3 (.int .i64 0) := ⟨by kernel_rfl⟩
instance : Und Tryd.prog 4 (.bool) := ⟨Tryd.underlying4⟩
instance : InfoOf Tryd.prog 4 := ⟨by kernel_rfl⟩
instance : AggOf Tryd.prog 4 false := ⟨by kernel_rfl⟩
instance : SzOf Tryd.prog 4 1 := ⟨by kernel_rfl⟩
instance : ZeroOf Tryd.prog 4 (.bool false) := ⟨by kernel_rfl⟩
instance {a b : Bool} : PrimEq (bin Tryd.prog .eql 4 (.bool a) (.bool b)) (.bool (a == b)) := ⟨by cases a <;> cases b <;> kernel_rfl⟩
instance {a b : Bool} : PrimEq (bin Tryd.prog .neq 4 (.bool a) (.bool b)) (.bool (a != b)) := ⟨by cases a <;> cases b <;> kernel_rfl⟩
instance : Und Tryd.prog 5 (.int .u8) := ⟨Tryd.underlying5⟩
instance : InfoOf Tryd.prog 5 := ⟨by kernel_rfl⟩
instance : AggOf Tryd.prog 5 false := ⟨by kernel_rfl⟩
instance : SzOf Tryd.prog 5 1 := ⟨by kernel_rfl⟩
instance : ZeroOf Tryd.prog 5 (.int .u8 0) := ⟨by kernel_rfl⟩
instance : Und Tryd.prog 9 (.string) := ⟨Tryd.underlying9⟩
instance : InfoOf Tryd.prog 9 := ⟨by kernel_rfl⟩
instance : AggOf Tryd.prog 9 false := ⟨by kernel_rfl⟩
instance : SzOf Tryd.prog 9 1 := ⟨by kernel_rfl⟩
instance : ZeroOf Tryd.prog 9 (.string ByteArray.empty) := ⟨by kernel_rfl⟩
instance : Und Tryd.prog 21 (.int .i32) := ⟨Tryd.underlying21⟩
instance : InfoOf Tryd.prog 21 := ⟨by kernel_rfl⟩
instance : AggOf Tryd.prog 21 false := ⟨by kernel_rfl⟩
instance : SzOf Tryd.prog 21 1 := ⟨by kernel_rfl⟩
instance : ZeroOf Tryd.prog 21 (.int .i32 0) := ⟨by kernel_rfl⟩
instance : Und Tryd.prog 22 (.slice 70) := ⟨Tryd.underlying22⟩
instance : InfoOf Tryd.prog 22 := ⟨by kernel_rfl⟩
instance : AggOf Tryd.prog 22 false := ⟨by kernel_rfl⟩
instance : SzOf Tryd.prog 22 1 := ⟨by kernel_rfl⟩
instance : ZeroOf Tryd.prog 22 (.slice none 0 0) := ⟨by kernel_rfl⟩
instance : Elt Tryd.prog 22 70 (.int .u32 0) 4 := ⟨Tryd.underlying22, by kernel_rfl, by kernel_rfl, by kernel_rfl, by kernel_rfl, by kernel_rfl, rfl, rfl⟩
instance : InfoOf Tryd.prog 24 := ⟨by kernel_rfl⟩
instance : AggOf Tryd.prog 24 true := ⟨by kernel_rfl⟩
instance : SzOf Tryd.prog 24 2 := ⟨by kernel_rfl⟩
instance : StructOf Tryd.prog 24 [.bool false, .slice none 0 0] := ⟨by kernel_rfl, _, Tryd.underlying24, by kernel_rfl⟩
instance : FieldOf Tryd.prog 24 0 0 4 := ⟨⟨_, _, Tryd.underlying24, rfl, rfl, rfl⟩, by decide +kernel⟩
instance : FieldOf Tryd.prog 24 1 1 22 := ⟨⟨_, _, Tryd.underlying24, rfl, rfl, rfl⟩, by decide +kernel⟩
instance : Und Tryd.prog 44 (.int .i64) := ⟨Tryd.underlying44⟩
instance : InfoOf Tryd.prog 44 := ⟨by kernel_rfl⟩
instance : AggOf Tryd.prog 44 false := ⟨by kernel_rfl⟩
instance : SzOf Tryd.prog 44 1 := ⟨by kernel_rfl⟩
instance : ZeroOf Tryd.prog 44 (.int .i64 0) := ⟨by kernel_rfl⟩
instance : InfoOf Tryd.prog 57 := ⟨by kernel_rfl⟩
instance : AggOf Tryd.prog 57 true := ⟨by kernel_rfl⟩
instance : SzOf Tryd.prog 57 1 := ⟨by kernel_rfl⟩
instance : StructOf Tryd.prog 57 [.slice none 0 0] := ⟨by kernel_rfl, _, Tryd.underlying57, by kernel_rfl⟩
instance : FieldOf Tryd.prog 57 0 0 22 := ⟨⟨_, _, Tryd.underlying57, rfl, rfl, rfl⟩, by decide +kernel⟩
instance : InfoOf Tryd.prog 59 := ⟨by kernel_rfl⟩
instance : AggOf Tryd.prog 59 true := ⟨by kernel_rfl⟩
instance : SzOf Tryd.prog 59 2 := ⟨by kernel_rfl⟩
instance : StructOf Tryd.prog 59 [.slice none 0 0, .bool false] := ⟨by kernel_rfl, _, Tryd.underlying59, by kernel_rfl⟩
instance : FieldOf Tryd.prog 59 0 0 57 := ⟨⟨_, _, Tryd.underlying59, rfl, rfl, rfl⟩, by decide +kernel⟩
instance : FieldOf Tryd.prog 59 1 1 4 := ⟨⟨_, _, Tryd.underlying59, rfl, rfl, rfl⟩, by decide +kernel⟩
instance : Und Tryd.prog 62 (.int .u64) := ⟨Tryd.underlying62⟩
instance : InfoOf Tryd.prog 62 := ⟨by kernel_rfl⟩
instance : AggOf Tryd.prog 62 false := ⟨by kernel_rfl⟩
instance : SzOf Tryd.prog 62 1 := ⟨by kernel_rfl⟩
instance : ZeroOf Tryd.prog 62 (.int .u64 0) := ⟨by kernel_rfl⟩
instance : Und Tryd.prog 70 (.int .u32) := ⟨Tryd.underlying70⟩
instance : InfoOf Tryd.prog 70 := ⟨by kernel_rfl⟩
instance : AggOf Tryd.prog 70 false := ⟨by kernel_rfl⟩
instance : SzOf Tryd.prog 70 1 := ⟨by kernel_rfl⟩
instance : ZeroOf Tryd.prog 70 (.int .u32 0) := ⟨by kernel_rfl⟩
instance : Und Tryd.prog 76 (.slice 5) := ⟨Tryd.underlying76⟩
instance : InfoOf Tryd.prog 76 := ⟨by kernel_rfl⟩
instance : AggOf Tryd.prog 76 false := ⟨by kernel_rfl⟩
instance : SzOf Tryd.prog 76 1 := ⟨by kernel_rfl⟩
instance : ZeroOf Tryd.prog 76 (.slice none 0 0) := ⟨by kernel_rfl⟩
instance : Elt Tryd.prog 76 5 (.int .u8 0) 1 := ⟨Tryd.underlying76, by kernel_rfl, by kernel_rfl, by kernel_rfl, by kernel_rfl, by kernel_rfl, rfl, rfl⟩
instance : Und Tryd.prog 78 (.slice 9) := ⟨Tryd.underlying78⟩
instance : InfoOf Tryd.prog 78 := ⟨by kernel_rfl⟩
instance : AggOf Tryd.prog 78 false := ⟨by kernel_rfl⟩
instance : SzOf Tryd.prog 78 1 := ⟨by kernel_rfl⟩
instance : ZeroOf Tryd.prog 78 (.slice none 0 0) := ⟨by kernel_rfl⟩
instance : Elt Tryd.prog 78 9 (.string ByteArray.empty) 16 := ⟨Tryd.underlying78, by kernel_rfl, by kernel_rfl, by kernel_rfl, by kernel_rfl, by kernel_rfl, rfl, rfl⟩
instance : InfoOf Tryd.prog 93 := ⟨by kernel_rfl⟩
instance : AggOf Tryd.prog 93 true := ⟨by kernel_rfl⟩
instance : SzOf Tryd.prog 93 256 := ⟨by kernel_rfl⟩
instance : Und Tryd.prog 98 (.pointer 100) := ⟨Tryd.underlying98⟩
instance : InfoOf Tryd.prog 98 := ⟨by kernel_rfl⟩
instance : AggOf Tryd.prog 98 false := ⟨by kernel_rfl⟩
instance : SzOf Tryd.prog 98 1 := ⟨by kernel_rfl⟩
instance : ZeroOf Tryd.prog 98 (.pointer none) := ⟨by kernel_rfl⟩
instance : InfoOf Tryd.prog 100 := ⟨by kernel_rfl⟩
instance : AggOf Tryd.prog 100 true := ⟨by kernel_rfl⟩
instance : SzOf Tryd.prog 100 2 := ⟨by kernel_rfl⟩
instance : StructOf Tryd.prog 100 [.pointer none, .slice none 0 0] := ⟨by kernel_rfl, _, Tryd.underlying100, by kernel_rfl⟩
instance : FieldOf Tryd.prog 100 0 0 98 := ⟨⟨_, _, Tryd.underlying100, rfl, rfl, rfl⟩, by decide +kernel⟩
instance : FieldOf Tryd.prog 100 1 1 76 := ⟨⟨_, _, Tryd.underlying100, rfl, rfl, rfl⟩, by decide +kernel⟩
instance : Und Tryd.prog 114 (.pointer 5) := ⟨Tryd.underlying114⟩
instance : InfoOf Tryd.prog 114 := ⟨by kernel_rfl⟩
instance : AggOf Tryd.prog 114 false := ⟨by kernel_rfl⟩
instance : SzOf Tryd.prog 114 1 := ⟨by kernel_rfl⟩
instance : ZeroOf Tryd.prog 114 (.pointer none) := ⟨by kernel_rfl⟩
instance : InfoOf Tryd.prog 119 := ⟨by kernel_rfl⟩
instance : AggOf Tryd.prog 119 true := ⟨by kernel_rfl⟩
instance : SzOf Tryd.prog 119 256 := ⟨by kernel_rfl⟩
instance : InfoOf Tryd.prog 121 := ⟨by kernel_rfl⟩
instance : AggOf Tryd.prog 121 true := ⟨by kernel_rfl⟩
instance : SzOf Tryd.prog 121 2 := ⟨by kernel_rfl⟩
instance : StructOf Tryd.prog 121 [.int .u8 0, .int .u8 0] := ⟨by kernel_rfl, _, Tryd.underlying121, by kernel_rfl⟩
instance : FieldOf Tryd.prog 121 0 0 5 := ⟨⟨_, _, Tryd.underlying121, rfl, rfl, rfl⟩, by decide +kernel⟩
instance : FieldOf Tryd.prog 121 1 1 5 := ⟨⟨_, _, Tryd.underlying121, rfl, rfl, rfl⟩, by decide +kernel⟩
instance : InfoOf Tryd.prog 122 := ⟨by kernel_rfl⟩
instance : AggOf Tryd.prog 122 true := ⟨by kernel_rfl⟩
instance : SzOf Tryd.prog 122 32 := ⟨by kernel_rfl⟩
end Go.AM.Z
set_option linter.unusedVariables false
namespace Go.AM
variable {α β R : Type} {P : Program}
section
variable {t e : TypeId} {z : Value} {sz : Nat}
def Acc (e : TypeId) (H0 B0 B : AH) (L : List (Nat × Blk)) (H : AH) (v : Value) (ds : List Nat) : Prop :=
  (ds = [] ∧ (v = .slice none 0 0 ∨ ∃ b off, v = sl b off 0 0) ∧ St H0 B0 B L H) ∨
  (ds ≠ [] ∧ ∃ b kd cap, v = sl b 0 ds.length cap ∧ (kd = .grow ∧ cap ≠ 0 ∧ ds.length ≤ cap ∨ kd = .fix ∧ cap = ds.length) ∧ St H0 B0 B ((b, ⟨ds.map u32, e, kd⟩) :: L) H)
theorem Acc.nil {H0 B0 B L H} (hS : St H0 B0 B L H) : Acc e H0 B0 B L H (.slice none 0 0) [] := .inl ⟨rfl, .inl rfl, hS⟩
theorem Acc.le {H0 B0 B L H v ds} (h : Acc e H0 B0 B L H v ds) : Le B H := by
  rcases h with ⟨_, _, hS⟩ | ⟨_, b, kd, cap, _, _, hS⟩
  · exact hS.lel
  · exact hS.lel
theorem Acc.st {H0 B0 B L H v ds} (h : Acc e H0 B0 B L H v ds) : St H0 B0 B L H := by
  rcases h with ⟨_, _, hS⟩ | ⟨_, b, kd, cap, _, _, hS⟩
  · exact hS
  · exact hS.drop1
theorem drop2 {x y : Nat × Blk} {L : List (Nat × Blk)} {H0 B0 B H} (h : St H0 B0 B (x :: y :: L) H) : St H0 B0 B (x :: L) H := h.drop (.cons_cons _ (List.sublist_cons_self _ _))
theorem drop3 {x y z : Nat × Blk} {L : List (Nat × Blk)} {H0 B0 B H} (h : St H0 B0 B (x :: y :: z :: L) H) : St H0 B0 B (x :: L) H := drop2 (drop2 h)
/-- One more digit. -/
theorem Acc.push {H0 B0 B : AH} {L : List (Nat × Blk)} {H : AH} {v : Value} {ds : List Nat} {d : Nat} {f : Nat → Nat → Value → AH → Option R} {Q : R → Prop} [hE : Elt P t e (.int .u32 0) sz] (h : Acc e H0 B0 B L H v ds)
    (hl : (ds.length + 1) * sz ≤ 140737488355328 ∧ ds.length + 1 ≤ 9223372036854775807) (hk : ∀ v' B' H', MoC B B' → Acc e H0 B0 B' L H' v' (ds ++ [d]) → Ev (fun k n => f k n v' H') Q) :
    Ev (fun k n => Go.AM.b2 (Go.AM.buildS P t H 1 [(0, u32 d)]) fun w h => Go.AM.b2 (Go.AM.ap P t t h v w) (f k n)) Q := by
  have e1 : ([d].map u32).length = 1 := rfl
  have hlen : (ds.map u32).length = ds.length := List.length_map ..
  rcases h with ⟨rfl, hv, hS⟩ | ⟨hne, b, kd, cap, rfl, hkc, hS⟩
  · refine Ev.bsC (P := P) (t := t) (by decide) fun bw H1 hS1 => ?_
    have hx : Sc H1 (sl bw 0 1 1) ([d].map u32) := hS1.sc (.head _) (Nat.le_refl 1)
    refine Ev.apNew hE hE.U hS1 (hv.imp id fun ⟨b, off, h⟩ => ⟨b, off, 0, h⟩) hx (all_u32 _) (by simp) ⟨by simpa using hl.1, by simp⟩ fun b' B' H' hm hS' => ?_
    exact hk _ B' H' ⟨hm⟩ (.inr ⟨by simp, b', .grow, 2, rfl, .inl ⟨rfl, by decide, by simp⟩, drop2 hS'⟩)
  · refine Ev.bsC (P := P) (t := t) (by decide) fun bw H1 hS1 => ?_
    have hx : Sc H1 (sl bw 0 1 1) ([d].map u32) := hS1.sc (.head _) (Nat.le_refl 1)
    rcases hkc with ⟨rfl, hc, hcl⟩ | ⟨rfl, rfl⟩
    · have hS2 : St H0 B0 B ((b, ⟨ds.map u32, e, .grow⟩) :: (bw, ⟨[u32 d], e, .fix⟩) :: L) H1 := hS1.perm (List.Perm.swap _ _ _)
      have hk2 := Ev.apGrow (b := b) (cap := cap) (cs := ds.map u32) (v := sl bw 0 1 1) (ds := [d].map u32) (f := f) (Q := Q) hE hE.U hS2 hc hx (all_u32 _) (by simp) (by rw [hlen, e1]; exact hl) (fun b' B' H' hm hS' => by
        have := hk (sl b' 0 (ds ++ [d]).length ((ds ++ [d]).length + 1)) B' H' ⟨hm⟩ (.inr ⟨by simp, b', .grow, _, rfl, .inl ⟨rfl, by omega, by omega⟩, by rw [List.map_append]; exact drop2 hS'⟩)
        have e2 : (ds.map u32 ++ [d].map u32).length = (ds ++ [d]).length := by simp
        rw [e2]; exact this)
      rw [hlen] at hk2
      exact hk2
    · have hk2 := Ev.apFull (b := b) (cs := ds.map u32) (v := sl bw 0 1 1) (ds := [d].map u32) (f := f) (Q := Q) hE hE.U hS1 (hS1.get (.tail _ (.head _))) (by simpa using hne) hx (all_u32 _) (by simp) (by rw [hlen, e1]; exact hl) (fun b' B' H' hm hS' => by
        have := hk (sl b' 0 (ds ++ [d]).length ((ds ++ [d]).length + 1)) B' H' ⟨hm⟩ (.inr ⟨by simp, b', .grow, _, rfl, .inl ⟨rfl, by omega, by omega⟩, by rw [List.map_append]; exact drop3 hS'⟩)
        have e2 : (ds.map u32 ++ [d].map u32).length = (ds ++ [d]).length := by simp
        rw [e2]; exact this)
      rw [hlen] at hk2
      exact hk2
/-- It is done. -/
theorem Acc.freeze {H0 B0 B : AH} {L : List (Nat × Blk)} {H : AH} {v : Value} {ds : List Nat} (h : Acc e H0 B0 B L H v ds) (hs : small ds) : ∃ B', MoC B B' ∧ RdN B' v ds ∧ St H0 B0 B' L H := by
  rcases h with ⟨rfl, hv, hS⟩ | ⟨hne, b, kd, cap, rfl, hkc, hS⟩
  · refine ⟨B, ⟨Mo.refl B⟩, ?_, hS⟩
    rcases hv with rfl | ⟨b, off, rfl⟩
    · exact RdN.nil
    · exact ⟨.inr ⟨b, off, 0, rfl, Nat.le_refl _, .inl rfl⟩, hs⟩
  · obtain ⟨B', h1, h2, h3⟩ := hS.freezeN hs rfl (cap := cap) (by rcases hkc with ⟨_, _, h⟩ | ⟨_, h⟩ <;> omega)
    exact ⟨B', ⟨h1⟩, h2, h3⟩
/-- A call beside it. -/
theorem Acc.mo {H0 B0 B : AH} {L : List (Nat × Blk)} {H : AH} {v : Value} {ds : List Nat} (h : Acc e H0 B0 B L H v ds) {r : Value × AH} {Post : AH → Value → Prop} (ha : An B H Post r) : ∃ B', Mo B B' ∧ Acc e H0 B0 B' L r.2 v ds ∧ Post B' r.1 := by
  rcases h with ⟨rfl, hv, hS⟩ | ⟨hne, b, kd, cap, rfl, hkc, hS⟩
  · obtain ⟨B', h1, h2, h3⟩ := hS.call ha
    exact ⟨B', h1, .inl ⟨rfl, hv, h2⟩, h3⟩
  · obtain ⟨B', h1, h2, h3⟩ := hS.call ha
    exact ⟨B', h1, .inr ⟨hne, b, kd, cap, rfl, hkc, h2⟩, h3⟩
end
end Go.AM
set_option linter.unusedVariables false
set_option linter.unusedSimpArgs false
set_option maxRecDepth 100000
namespace Go.AM.Z
open Go Go.AM Go.Proofs
attribute [local irreducible] run bin un ld st box newV mkS fldA fld ixA ix slc slc3 build buildS cv cvS ap cpy lenV gOp pickV b2 aIf aChk evalK resume iterD Option.bind

end Go.AM.Z
set_option linter.unusedVariables false
set_option linter.unusedSimpArgs false
set_option maxRecDepth 100000
namespace Go.AM.Z
open Go Go.AM Go.Proofs
attribute [local irreducible] run bin un ld st box newV mkS fldA fld ixA ix slc slc3 build buildS cv cvS ap cpy lenV gOp pickV b2 aIf aChk evalK resume iterD Option.bind

end Go.AM.Z
set_option linter.unusedVariables false
set_option linter.unusedSimpArgs false
set_option maxRecDepth 100000
namespace Go.AM.Z
open Go Go.AM Go.Proofs
attribute [local irreducible] run bin un ld st box newV mkS fldA fld ixA ix slc slc3 build buildS cv cvS ap cpy lenV gOp pickV b2 aIf aChk evalK resume iterD Option.bind

end Go.AM.Z
set_option linter.unusedVariables false
set_option linter.unusedSimpArgs false
set_option maxRecDepth 100000
namespace Go.AM.Z
open Go Go.AM Go.Proofs
attribute [local irreducible] run bin un ld st box newV mkS fldA fld ixA ix slc slc3 build buildS cv cvS ap cpy lenV gOp pickV b2 aIf aChk evalK resume iterD Option.bind

end Go.AM.Z
set_option linter.unusedVariables false
set_option linter.unusedSimpArgs false
set_option maxRecDepth 100000
namespace Go.AM.Z
open Go Go.AM Go.Proofs
attribute [local irreducible] run bin un ld st box newV mkS fldA fld ixA ix slc slc3 build buildS cv cvS ap cpy lenV gOp pickV b2 aIf aChk evalK resume iterD Option.bind

end Go.AM.Z
namespace Go.AM
def fq (X Y : Int) : Int := if 0 < Y then X / Y else (-X) / (-Y)
def fr (X Y : Int) : Int := if 0 < Y then X % Y else -((-X) % (-Y))
def FlD (X Y q r : Int) : Prop := X = q * Y + r ∧ (0 ≤ r ∧ r < Y ∨ Y < r ∧ r ≤ 0)
theorem FlD.uniq {X Y q r : Int} (h : FlD X Y q r) : q = fq X Y ∧ r = fr X Y := by
  obtain ⟨h1, h2⟩ := h
  unfold fq fr
  rcases h2 with ⟨h2, h3⟩ | ⟨h2, h3⟩
  · rw [if_pos (by omega), if_pos (by omega)]
    have := (Int.ediv_emod_unique (a := X) (b := Y) (r := r) (q := q) (by omega)).mpr ⟨by rw [h1, Int.mul_comm]; omega, h2, h3⟩
    exact ⟨this.1.symm, this.2.symm⟩
  · rw [if_neg (by omega), if_neg (by omega)]
    have := (Int.ediv_emod_unique (a := -X) (b := -Y) (r := -r) (q := q) (by omega)).mpr ⟨by rw [h1, Int.neg_mul, Int.mul_comm]; omega, by omega, by omega⟩
    exact ⟨this.1.symm, by rw [this.2]; omega⟩
theorem fq_fr {X Y : Int} (hY : Y ≠ 0) : FlD X Y (fq X Y) (fr X Y) := by
  unfold FlD fq fr
  by_cases h : 0 < Y
  · rw [if_pos h, if_pos h]
    have h1 := Int.emod_nonneg X hY
    have h2 := Int.emod_lt_of_pos X h
    have h3 := Int.emod_add_mul_ediv X Y
    exact ⟨by rw [Int.mul_comm]; omega, .inl ⟨h1, h2⟩⟩
  · rw [if_neg h, if_neg h]
    have h1 := Int.emod_nonneg (-X) (b := -Y) (by omega)
    have h2 := Int.emod_lt_of_pos (-X) (b := -Y) (by omega)
    have h3 := Int.emod_add_mul_ediv (-X) (-Y)
    refine ⟨?_, .inr ⟨by omega, by omega⟩⟩
    rw [Int.neg_mul, Int.mul_comm] at h3
    generalize -X / -Y * Y = p at *
    omega
/-- Out of the sizes' quotient and rest. -/
theorem fl_same {a b : Bool} {x y : Nat} (hy : y ≠ 0) (h : ¬ (x % y ≠ 0 ∧ (a && decide (x ≠ 0)) ≠ b)) (hb : (b && decide (y ≠ 0)) = b) : FlD (sg a x) (sg b y) (sg ((a && decide (x ≠ 0)) != b) (x / y)) (sg (a && decide (x ≠ 0)) (x % y)) := by
  have h1 := Nat.mod_add_div x y
  have h2 := Nat.mod_lt x (Nat.pos_of_ne_zero hy)
  have e : sg a x = sg (a && decide (x ≠ 0)) x := sg_norm.symm
  rw [e]
  generalize (a && decide (x ≠ 0)) = c at *
  have hm : (x : Int) = ((x % y : Nat) : Int) + (y : Int) * ((x / y : Nat) : Int) := by rw [← Int.natCast_mul, ← Int.natCast_add, h1]
  rw [Int.mul_comm] at hm
  clear h1
  generalize x % y = r at *
  generalize x / y = q at *
  by_cases hc : c = b
  · subst hc
    have : (c != c) = false := by cases c <;> rfl
    rw [this]
    refine ⟨?_, ?_⟩
    · cases c <;> simp [sg, Int.neg_mul, Int.mul_neg] at * <;> omega
    · cases c <;> simp [sg] at * <;> omega
  · have hr : r = 0 := by
      by_cases hr : r = 0
      · exact hr
      · exact absurd ⟨hr, hc⟩ h
    subst hr
    refine ⟨?_, ?_⟩
    · cases c <;> cases b <;> simp [sg, Int.neg_mul, Int.mul_neg] at * <;> omega
    · cases c <;> cases b <;> simp [sg] at * <;> omega
theorem fl_diff {a b : Bool} {x y : Nat} (hy : y ≠ 0) (h : x % y ≠ 0 ∧ (a && decide (x ≠ 0)) ≠ b) : FlD (sg a x) (sg b y) (sg ((a && decide (x ≠ 0)) != b) (x / y) - 1) (sg (a && decide (x ≠ 0)) (x % y) + sg b y) := by
  have h1 := Nat.mod_add_div x y
  have h2 := Nat.mod_lt x (Nat.pos_of_ne_zero hy)
  have e : sg a x = sg (a && decide (x ≠ 0)) x := sg_norm.symm
  rw [e]
  generalize (a && decide (x ≠ 0)) = c at *
  have hm : (x : Int) = ((x % y : Nat) : Int) + (y : Int) * ((x / y : Nat) : Int) := by rw [← Int.natCast_mul, ← Int.natCast_add, h1]
  rw [Int.mul_comm] at hm
  obtain ⟨hr, hc⟩ := h
  clear h1
  generalize x % y = r at *
  generalize x / y = q at *
  refine ⟨?_, ?_⟩
  · rw [Int.sub_mul]
    cases c <;> cases b <;> simp [sg, Int.neg_mul, Int.mul_neg] at * <;> omega
  · cases c <;> cases b <;> simp [sg] at * <;> omega
end Go.AM
set_option linter.unusedVariables false
set_option linter.unusedSimpArgs false
set_option maxRecDepth 100000
namespace Go.AM.Z
open Go Go.AM Go.Proofs
attribute [local irreducible] run bin un ld st box newV mkS fldA fld ixA ix slc slc3 build buildS cv cvS ap cpy lenV gOp pickV b2 aIf aChk evalK resume iterD Option.bind

theorem zSub_spec {B H : AH} {xs ys : List Nat} {m1 m2 : Value} {n1 n2 : Bool} (hm1 : xs.length < 137438953472) (hm2 : ys.length < 137438953472) [ha : RdT B m1 xs] [hb : RdT B m2 ys] (hL : Le B H) :
    Ev (fun k _ => rn k 15 [.agg #[.bool n1, m1], .agg #[.bool n2, m2]] H) (An B H fun B' v => IntV B' v (sg n1 (val xs) - sg n2 (val ys))) := by
  refine Ev.fn (fun k => f15_eq k _ _ H) ?_
  have hS := St.start hL
  have ha := ha.rd
  have hb := hb.rd
  repeat (first | refine Ev.s ?_ | refine Ev.newC fun _ _ _ => ?_ | refine Ev.boxC fun _ _ _ => ?_ | refine Ev.stC fun _ _ => ?_ | refine Ev.sc (by omega) ?_ | refine Ev.scg (by omega) ?_)
  refine Ev.callD (Neg_spec (by omega) RdT.rd) fun v3 B3 H3 hm3 hS3 h3 => ?_
  obtain ⟨w, rfl, hw⟩ := h3
  have hl : (limbs (sg (!n2) (val ys)).natAbs).length < 137438953472 := by
    rw [sg_abs]
    have := limbs_length_le (val_lt hb.2)
    omega
  repeat (first | refine Ev.s ?_ | refine Ev.newC fun _ _ _ => ?_ | refine Ev.boxC fun _ _ _ => ?_ | refine Ev.stC fun _ _ => ?_ | refine Ev.sc (by omega) ?_ | refine Ev.scg (by omega) ?_)
  refine Ev.callD (zAdd_spec (xs := xs) (by omega) hl RdT.rd RdT.rd) fun v4 B4 H4 hm4 hS4 h4 => ?_
  rw [val_limbs, sg_int] at h4
  have e : sg n1 (val xs) + sg (!n2) (val ys) = sg n1 (val xs) - sg n2 (val ys) := by cases n2 <;> simp [sg] <;> omega
  rw [e] at h4
  generalize sg n1 (val xs) - sg n2 (val ys) = Z at *
  obtain ⟨w4, rfl, hw4⟩ := h4
  repeat (first | refine Ev.s ?_ | refine Ev.newC fun _ _ _ => ?_ | refine Ev.boxC fun _ _ _ => ?_ | refine Ev.stC fun _ _ => ?_ | refine Ev.sc (by omega) ?_ | refine Ev.scg (by omega) ?_)
  exact Ev.doneC ⟨w4, rfl, hw4⟩
theorem mul_len {a b x y : Nat} (hx : x < 4294967296 ^ a) (hy : y < 4294967296 ^ b) : (limbs (x * y)).length ≤ a + b := by
  refine limbs_length_le ?_
  rw [Nat.pow_add]
  exact Nat.mul_lt_mul'' hx hy
theorem zMul_spec {B H : AH} {xs ys : List Nat} {m1 m2 : Value} {n1 n2 : Bool} (hm1 : xs.length < 68719476736) (hm2 : ys.length < 68719476736) [ha : RdT B m1 xs] [hb : RdT B m2 ys] (hL : Le B H) :
    Ev (fun k _ => rn k 24 [.agg #[.bool n1, m1], .agg #[.bool n2, m2]] H) (An B H fun B' v => IntV B' v (sg n1 (val xs) * sg n2 (val ys))) := by
  refine Ev.fn (fun k => f24_eq k _ _ H) ?_
  have hS := St.start hL
  have ha := ha.rd
  have hb := hb.rd
  have hlx := limbs_length_le (val_lt ha.sm)
  have hly := limbs_length_le (val_lt hb.sm)
  have hlm := mul_len (val_lt ha.sm) (val_lt hb.sm)
  repeat (first | refine Ev.s ?_ | refine Ev.newC fun _ _ _ => ?_ | refine Ev.boxC fun _ _ _ => ?_ | refine Ev.stC fun _ _ => ?_ | refine Ev.sc (by omega) ?_ | refine Ev.scg (by omega) ?_)
  refine Ev.callD (of_spec (xs := xs) (by omega) RdT.rd) fun v3 B3 H3 hm3 hS3 h3 => ?_
  obtain ⟨w3, rfl, hw3⟩ := h3
  repeat (first | refine Ev.s ?_ | refine Ev.newC fun _ _ _ => ?_ | refine Ev.boxC fun _ _ _ => ?_ | refine Ev.stC fun _ _ => ?_ | refine Ev.sc (by omega) ?_ | refine Ev.scg (by omega) ?_)
  refine Ev.callD (of_spec (xs := ys) (by omega) RdT.rd) fun v4 B4 H4 hm4 hS4 h4 => ?_
  obtain ⟨w4, rfl, hw4⟩ := h4
  repeat (first | refine Ev.s ?_ | refine Ev.newC fun _ _ _ => ?_ | refine Ev.boxC fun _ _ _ => ?_ | refine Ev.stC fun _ _ => ?_ | refine Ev.sc (by omega) ?_ | refine Ev.scg (by omega) ?_)
  refine Ev.callD (Mul_spec (xs := limbs (val xs)) (ys := limbs (val ys)) RdT.rd RdT.rd (by omega) (by omega)) fun v5 B5 H5 hm5 hS5 h5 => ?_
  rw [val_limbs, val_limbs] at h5
  repeat (first | refine Ev.s ?_ | refine Ev.newC fun _ _ _ => ?_ | refine Ev.boxC fun _ _ _ => ?_ | refine Ev.stC fun _ _ => ?_ | refine Ev.sc (by omega) ?_ | refine Ev.scg (by omega) ?_)
  refine Ev.callD (Make_spec (xs := limbs (val xs * val ys)) (by omega) RdT.rd) fun v6 B6 H6 hm6 hS6 h6 => ?_
  rw [val_limbs, sg_mulmul, sg_norm, sg_norm] at h6
  generalize sg n1 (val xs) * sg n2 (val ys) = Z at *
  obtain ⟨w6, rfl, hw6⟩ := h6
  repeat (first | refine Ev.s ?_ | refine Ev.newC fun _ _ _ => ?_ | refine Ev.boxC fun _ _ _ => ?_ | refine Ev.stC fun _ _ => ?_ | refine Ev.sc (by omega) ?_ | refine Ev.scg (by omega) ?_)
  exact Ev.doneC ⟨w6, rfl, hw6⟩
end Go.AM.Z
set_option linter.unusedVariables false
set_option linter.unusedSimpArgs false
set_option maxRecDepth 100000
namespace Go.AM.Z
open Go Go.AM Go.Proofs
attribute [local irreducible] run bin un ld st box newV mkS fldA fld ixA ix slc slc3 build buildS cv cvS ap cpy lenV gOp pickV b2 aIf aChk evalK resume iterD Option.bind

theorem IntV.get {B : AH} {v : Value} {z : Int} (h : IntV B v z) : ∃ m, v = .agg #[.bool (decide (z < 0)), m] ∧ RdN B m (limbs z.natAbs) := h
theorem fl_len {X Y q r : Int} (h : FlD X Y q r) : (limbs q.natAbs).length ≤ (limbs X.natAbs).length + 1 ∧ (limbs r.natAbs).length ≤ (limbs Y.natAbs).length := by
  obtain ⟨h1, h2⟩ := h
  have e1 : q.natAbs ≤ X.natAbs + 1 := by
    have hr : r.natAbs < Y.natAbs := by omega
    have e : (q * Y).natAbs = q.natAbs * Y.natAbs := Int.natAbs_mul q Y
    have e2 : (q * Y).natAbs ≤ X.natAbs + r.natAbs := by omega
    rw [e] at e2
    by_cases hq : q.natAbs ≤ X.natAbs + 1
    · exact hq
    · have : (X.natAbs + 2) * Y.natAbs ≤ q.natAbs * Y.natAbs := Nat.mul_le_mul_right _ (by omega)
      have e3 : X.natAbs * 1 ≤ X.natAbs * Y.natAbs := Nat.mul_le_mul_left _ (by omega)
      rw [Nat.add_mul] at this
      omega
  refine ⟨?_, limbs_length_mono (by omega)⟩
  refine Nat.le_trans (limbs_length_mono e1) ?_
  refine limbs_length_le ?_
  have := val_lt (small_limbs X.natAbs)
  rw [val_limbs] at this
  rw [Nat.pow_succ]
  have hp : 0 < 4294967296 ^ (limbs X.natAbs).length := Nat.pow_pos (by decide)
  omega
theorem zDiv_spec {B H : AH} {xs ys : List Nat} {m1 m2 : Value} {n1 n2 : Bool} (hm1 : xs.length < 34359738368) (hm2 : ys.length < 34359738368) (hy : val ys ≠ 0) [ha : RdT B m1 xs] [hb : RdT B m2 ys] (hL : Le B H) :
    Ev (fun k _ => rn k 19 [.agg #[.bool n1, m1], .agg #[.bool n2, m2]] H) (An B H fun B' v => ∃ a b, v = .tuple #[a, b, .bool true] ∧ IntV B' a (fq (sg n1 (val xs)) (sg n2 (val ys))) ∧ IntV B' b (fr (sg n1 (val xs)) (sg n2 (val ys)))) := by
  refine Ev.fn (fun k => f19_eq k _ _ H) ?_
  have hS := St.start hL
  have ha := ha.rd
  have hb := hb.rd
  have hlx := limbs_length_le (val_lt ha.sm)
  have hly := limbs_length_le (val_lt hb.sm)
  have hb2 : ∀ b : Bool, (b && decide (val ys ≠ 0)) = b := fun b => by rw [decide_eq_true hy]; cases b <;> rfl
  repeat (first | refine Ev.s ?_ | refine Ev.newC fun _ _ _ => ?_ | refine Ev.boxC fun _ _ _ => ?_ | refine Ev.stC fun _ _ => ?_ | refine Ev.sc (by omega) ?_ | refine Ev.scg (by omega) ?_)
  refine Ev.callD (of_spec (xs := xs) (by omega) RdT.rd) fun v3 B3 H3 hm3 hS3 h3 => ?_
  obtain ⟨w3, rfl, hw3⟩ := h3
  repeat (first | refine Ev.s ?_ | refine Ev.newC fun _ _ _ => ?_ | refine Ev.boxC fun _ _ _ => ?_ | refine Ev.stC fun _ _ => ?_ | refine Ev.sc (by omega) ?_ | refine Ev.scg (by omega) ?_)
  refine Ev.callD (of_spec (xs := ys) (by omega) RdT.rd) fun v4 B4 H4 hm4 hS4 h4 => ?_
  obtain ⟨w4, rfl, hw4⟩ := h4
  rw [hb2] at *
  repeat (first | refine Ev.s ?_ | refine Ev.newC fun _ _ _ => ?_ | refine Ev.boxC fun _ _ _ => ?_ | refine Ev.stC fun _ _ => ?_ | refine Ev.sc (by omega) ?_ | refine Ev.scg (by omega) ?_)
  refine Ev.callD (DivMod_spec (xs := limbs (val xs)) (ys := limbs (val ys)) RdT.rd RdT.rd (by omega) (by omega) (by rw [val_limbs]; exact hy)) fun v5 B5 H5 hm5 hS5 h5 => ?_
  obtain ⟨q, r, rfl, hq, hr⟩ := h5
  rw [val_limbs, val_limbs] at hq hr
  have hlq := limbs_length_mono (Nat.div_le_self (val xs) (val ys))
  have hlr := limbs_length_mono (Nat.le_of_lt (Nat.mod_lt (val xs) (Nat.pos_of_ne_zero hy)))
  have hsame : ¬ (val xs % val ys ≠ 0 ∧ (n1 && decide (val xs ≠ 0)) ≠ n2) → FlD (sg n1 (val xs)) (sg n2 (val ys)) (sg ((n1 && decide (val xs ≠ 0)) != n2) (val xs / val ys)) (sg (n1 && decide (val xs ≠ 0)) (val xs % val ys)) := fun h => fl_same hy h (hb2 n2)
  have hdiff : (val xs % val ys ≠ 0 ∧ (n1 && decide (val xs ≠ 0)) ≠ n2) → FlD (sg n1 (val xs)) (sg n2 (val ys)) (sg ((n1 && decide (val xs ≠ 0)) != n2) (val xs / val ys) - 1) (sg (n1 && decide (val xs ≠ 0)) (val xs % val ys) + sg n2 (val ys)) := fl_diff hy
  generalize (n1 && decide (val xs ≠ 0)) = c1 at *
  have hY : sg n2 (val ys) ≠ 0 := by cases n2 <;> simp [sg] <;> omega
  have hYn : (sg n2 (val ys)).natAbs = val ys := sg_abs
  generalize sg n1 (val xs) = X at *
  generalize hYY : sg n2 (val ys) = Y at *
  repeat (first | refine Ev.s ?_ | refine Ev.newC fun _ _ _ => ?_ | refine Ev.boxC fun _ _ _ => ?_ | refine Ev.stC fun _ _ => ?_ | refine Ev.sc (by omega) ?_ | refine Ev.scg (by omega) ?_)
  refine Ev.callD (Make_spec (xs := limbs (val xs / val ys)) (by omega) RdT.rd) fun v6 B6 H6 hm6 hS6 h6 => ?_
  rw [val_limbs] at h6
  repeat (first | refine Ev.s ?_ | refine Ev.newC fun _ _ _ => ?_ | refine Ev.boxC fun _ _ _ => ?_ | refine Ev.stC fun _ _ => ?_ | refine Ev.sc (by omega) ?_ | refine Ev.scg (by omega) ?_)
  refine Ev.callD (Make_spec (xs := limbs (val xs % val ys)) (by omega) RdT.rd) fun v7 B7 H7 hm7 hS7 h7 => ?_
  rw [val_limbs] at h7
  have l6 : (limbs (sg (c1 != n2) (val xs / val ys)).natAbs).length ≤ xs.length := by rw [sg_abs]; omega
  have l7 : (limbs (sg c1 (val xs % val ys)).natAbs).length ≤ ys.length := by rw [sg_abs]; omega
  have hn0 : 0 < (limbs (val xs % val ys)).length ↔ val xs % val ys ≠ 0 := by
    rw [Nat.pos_iff_ne_zero, ne_eq, List.length_eq_zero_iff, limbs_eq_nil]
  rw [← hn0] at hsame hdiff
  generalize sg (c1 != n2) (val xs / val ys) = Q at *
  generalize sg c1 (val xs % val ys) = R at *
  obtain ⟨w6, rfl, hw6⟩ := h6
  obtain ⟨w7, rfl, hw7⟩ := h7
  have hw6 := hw6.mono hm7.mo
  repeat (first | refine Ev.s ?_ | refine Ev.newC fun _ _ _ => ?_ | refine Ev.boxC fun _ _ _ => ?_ | refine Ev.stC fun _ _ => ?_ | refine Ev.sc (by omega) ?_ | refine Ev.scg (by omega) ?_)
  by_cases h0 : 0 < (limbs (val xs % val ys)).length
  · rw [decide_eq_true h0]
    repeat (first | refine Ev.s ?_ | refine Ev.newC fun _ _ _ => ?_ | refine Ev.boxC fun _ _ _ => ?_ | refine Ev.stC fun _ _ => ?_ | refine Ev.sc (by omega) ?_ | refine Ev.scg (by omega) ?_)
    by_cases h1 : c1 = n2
    · subst h1
      have e : (c1 != c1) = false := by cases c1 <;> rfl
      rw [e]
      repeat (first | refine Ev.s ?_ | refine Ev.newC fun _ _ _ => ?_ | refine Ev.boxC fun _ _ _ => ?_ | refine Ev.stC fun _ _ => ?_ | refine Ev.sc (by omega) ?_ | refine Ev.scg (by omega) ?_)
      refine Ev.eq (fun k _ => f19_J0_eq k _ _ _) ?_
      repeat (first | refine Ev.s ?_ | refine Ev.newC fun _ _ _ => ?_ | refine Ev.boxC fun _ _ _ => ?_ | refine Ev.stC fun _ _ => ?_ | refine Ev.sc (by omega) ?_ | refine Ev.scg (by omega) ?_)
      obtain ⟨e1, e2⟩ := (hsame fun hh => hh.2 rfl).uniq
      rw [← e1, ← e2]
      exact Ev.doneC ⟨_, _, rfl, ⟨w6, rfl, hw6⟩, ⟨w7, rfl, hw7⟩⟩
    · have e : (c1 != n2) = true := by simpa using h1
      rw [e]
      obtain ⟨e1, e2⟩ := (hdiff ⟨h0, h1⟩).uniq
      rw [← e1, ← e2]
      repeat (first | refine Ev.s ?_ | refine Ev.newC fun _ _ _ => ?_ | refine Ev.boxC fun _ _ _ => ?_ | refine Ev.stC fun _ _ => ?_ | refine Ev.sc (by omega) ?_ | refine Ev.scg (by omega) ?_)
      refine Ev.callD (zFrom_spec (by omega)) fun v8 B8 H8 hm8 hS8 h8 => ?_
      obtain ⟨w8, rfl, hw8⟩ := h8
      have l1 : (limbs (1 : Int).natAbs).length < 137438953472 := Nat.lt_of_le_of_lt (limbs_length_le (k := 1) (by decide)) (by decide)
      repeat (first | refine Ev.s ?_ | refine Ev.newC fun _ _ _ => ?_ | refine Ev.boxC fun _ _ _ => ?_ | refine Ev.stC fun _ _ => ?_ | refine Ev.sc (by omega) ?_ | refine Ev.scg (by omega) ?_)
      refine Ev.callD (zSub_spec (xs := limbs Q.natAbs) (ys := limbs (1 : Int).natAbs) (by omega) l1) fun v9 B9 H9 hm9 hS9 h9 => ?_
      rw [val_limbs, val_limbs, sg_int, show sg (decide ((1 : Int) < 0)) (1 : Int).natAbs = 1 from sg_int 1] at h9
      generalize Q - 1 = Q1 at *
      obtain ⟨w9, rfl, hw9⟩ := h9
      repeat (first | refine Ev.s ?_ | refine Ev.newC fun _ _ _ => ?_ | refine Ev.boxC fun _ _ _ => ?_ | refine Ev.stC fun _ _ => ?_ | refine Ev.sc (by omega) ?_ | refine Ev.scg (by omega) ?_)
      refine Ev.callD (out_spec (n := val ys) (m := w4) (by omega) RdT.rd) fun v10 B10 H10 hm10 hS10 h10 => ?_
      subst h10
      repeat (first | refine Ev.s ?_ | refine Ev.newC fun _ _ _ => ?_ | refine Ev.boxC fun _ _ _ => ?_ | refine Ev.stC fun _ _ => ?_ | refine Ev.sc (by omega) ?_ | refine Ev.scg (by omega) ?_)
      refine Ev.callD (zAdd_spec (xs := limbs R.natAbs) (ys := limbs (val ys)) (by omega) (by omega) RdT.rd RdT.rd) fun v11 B11 H11 hm11 hS11 h11 => ?_
      rw [val_limbs, val_limbs, sg_int, hb2, hYY] at h11
      generalize R + Y = R1 at *
      obtain ⟨w11, rfl, hw11⟩ := h11
      have hw9 := (hw9.mono hm10.mo).mono hm11.mo
      repeat (first | refine Ev.s ?_ | refine Ev.newC fun _ _ _ => ?_ | refine Ev.boxC fun _ _ _ => ?_ | refine Ev.stC fun _ _ => ?_ | refine Ev.sc (by omega) ?_ | refine Ev.scg (by omega) ?_)
      refine Ev.eq (fun k _ => f19_J0_eq k _ _ _) ?_
      repeat (first | refine Ev.s ?_ | refine Ev.newC fun _ _ _ => ?_ | refine Ev.boxC fun _ _ _ => ?_ | refine Ev.stC fun _ _ => ?_ | refine Ev.sc (by omega) ?_ | refine Ev.scg (by omega) ?_)
      exact Ev.doneC ⟨_, _, rfl, ⟨w9, rfl, hw9⟩, ⟨w11, rfl, hw11⟩⟩
  · rw [decide_eq_false h0]
    repeat (first | refine Ev.s ?_ | refine Ev.newC fun _ _ _ => ?_ | refine Ev.boxC fun _ _ _ => ?_ | refine Ev.stC fun _ _ => ?_ | refine Ev.sc (by omega) ?_ | refine Ev.scg (by omega) ?_)
    refine Ev.eq (fun k _ => f19_J0_eq k _ _ _) ?_
    repeat (first | refine Ev.s ?_ | refine Ev.newC fun _ _ _ => ?_ | refine Ev.boxC fun _ _ _ => ?_ | refine Ev.stC fun _ _ => ?_ | refine Ev.sc (by omega) ?_ | refine Ev.scg (by omega) ?_)
    obtain ⟨e1, e2⟩ := (hsame fun hh => h0 hh.1).uniq
    rw [← e1, ← e2]
    exact Ev.doneC ⟨_, _, rfl, ⟨w6, rfl, hw6⟩, ⟨w7, rfl, hw7⟩⟩
end Go.AM.Z
set_option linter.unusedVariables false
set_option linter.unusedSimpArgs false
set_option maxRecDepth 100000
namespace Go.AM.Z
open Go Go.AM Go.Proofs
attribute [local irreducible] run bin un ld st box newV mkS fldA fld ixA ix slc slc3 build buildS cv cvS ap cpy lenV gOp pickV b2 aIf aChk evalK resume iterD Option.bind

def DyV (B : AH) (v : Value) (d : Dy) : Prop := ∃ m, v = .agg #[.bool d.neg, m, .int .i64 d.e] ∧ RdN B m d.mag
theorem DyV.mono {B B' : AH} {v : Value} {d : Dy} (hm : Mo B B') (h : DyV B v d) : DyV B' v d := h.elim fun m hh => ⟨m, hh.1, hh.2.mono hm⟩
end Go.AM.Z
set_option linter.unusedVariables false
set_option linter.unusedSimpArgs false
set_option maxRecDepth 100000
namespace Go.AM.Z
open Go Go.AM Go.Proofs
attribute [local irreducible] run bin un ld st box newV mkS fldA fld ixA ix slc slc3 build buildS cv cvS ap cpy lenV gOp pickV b2 aIf aChk evalK resume iterD Option.bind

end Go.AM.Z
set_option linter.unusedVariables false
set_option linter.unusedSimpArgs false
set_option maxRecDepth 100000
namespace Go.AM.Z
open Go Go.AM Go.Proofs
attribute [local irreducible] run bin un ld st box newV mkS fldA fld ixA ix slc slc3 build buildS cv cvS ap cpy lenV gOp pickV b2 aIf aChk evalK resume iterD Option.bind

def ResV (B : AH) (v : Value) (d : Dy) (c : Int) : Prop := ∃ x, v = .tuple #[x, .int .i64 c] ∧ DyV B x d
end Go.AM.Z
set_option linter.unusedVariables false
set_option linter.unusedSimpArgs false
set_option maxRecDepth 100000
namespace Go.AM.Z
open Go Go.AM Go.Proofs
attribute [local irreducible] run bin un ld st box newV mkS fldA fld ixA ix slc slc3 build buildS cv cvS ap cpy lenV gOp pickV b2 aIf aChk evalK resume iterD Option.bind

end Go.AM.Z
set_option linter.unusedVariables false
set_option linter.unusedSimpArgs false
set_option maxRecDepth 100000
namespace Go.AM.Z
open Go Go.AM Go.Proofs
attribute [local irreducible] run bin un ld st box newV mkS fldA fld ixA ix slc slc3 build buildS cv cvS ap cpy lenV gOp pickV b2 aIf aChk evalK resume iterD Option.bind

theorem DyV.small {B : AH} {v : Value} {d : Dy} (h : DyV B v d) : small d.mag := h.elim fun m hh => hh.2.sm
end Go.AM.Z
set_option linter.unusedVariables false
set_option linter.unusedSimpArgs false
set_option maxRecDepth 100000
namespace Go.AM.Z
open Go Go.AM Go.Proofs
attribute [local irreducible] run bin un ld st box newV mkS fldA fld ixA ix slc slc3 build buildS cv cvS ap cpy lenV gOp pickV b2 aIf aChk evalK resume iterD Option.bind

end Go.AM.Z
set_option linter.unusedVariables false
set_option linter.unusedSimpArgs false
set_option maxRecDepth 100000
namespace Go.AM.Z
open Go Go.AM Go.Proofs
attribute [local irreducible] run bin un ld st box newV mkS fldA fld ixA ix slc slc3 build buildS cv cvS ap cpy lenV gOp pickV b2 aIf aChk evalK resume iterD Option.bind

end Go.AM.Z
set_option linter.unusedVariables false
set_option linter.unusedSimpArgs false
set_option maxRecDepth 100000
namespace Go.AM.Z
open Go Go.AM Go.Proofs
attribute [local irreducible] run bin un ld st box newV mkS fldA fld ixA ix slc slc3 build buildS cv cvS ap cpy lenV gOp pickV b2 aIf aChk evalK resume iterD Option.bind

end Go.AM.Z
set_option linter.unusedVariables false
set_option linter.unusedSimpArgs false
set_option maxRecDepth 100000
namespace Go.AM.Z
open Go Go.AM Go.Proofs
attribute [local irreducible] run bin un ld st box newV mkS fldA fld ixA ix slc slc3 build buildS cv cvS ap cpy lenV gOp pickV b2 aIf aChk evalK resume iterD Option.bind

end Go.AM.Z
set_option linter.unusedVariables false
set_option linter.unusedSimpArgs false
set_option maxRecDepth 100000
namespace Go.AM.Z
open Go Go.AM Go.Proofs
attribute [local irreducible] run bin un ld st box newV mkS fldA fld ixA ix slc slc3 build buildS cv cvS ap cpy lenV gOp pickV b2 aIf aChk evalK resume iterD Option.bind

theorem same_loop {H0 B0 B H : AH} {L : List (Nat × Blk)} {p q : Nat} {nx ny mx my : Value} {xs ys : List Nat} [hS : St H0 B0 B L H] [hp : InL p ⟨[nx, mx], 24, .fix⟩ L] [hq : InL q ⟨[ny, my], 24, .fix⟩ L] [hx : RdN B mx xs] [hy : RdN B my ys]
    (hl : xs.length = ys.length) (hlx : xs.length < 34359738368) : ∀ (c i : Nat), i + c = xs.length → (∀ t, t < i → xs.getD t 0 = ys.getD t 0) →
    Ev (fun k n => f53_L0 k (ptr p 0) (ptr q 0) (i64 i) n H) (fun o => (o = (.exit 0, f53_X_L0 unk, H) ∧ xs = ys) ∨ (o = (.ret, f53_X_L0 (.bool false), H) ∧ xs ≠ ys)) := by
  intro c
  induction c with
  | zero =>
    intro i hi hz
    refine Ev.succ (fun k n => f53_L0_succ k _ _ _ n H) ?_
    repeat (first | refine Ev.s ?_ | refine Ev.newC fun _ _ _ => ?_ | refine Ev.boxC fun _ _ _ => ?_ | refine Ev.stC fun _ _ => ?_ | refine Ev.sc (by omega) ?_ | refine Ev.scg (by omega) ?_)
    rw [decide_eq_false (by omega)]
    repeat (first | refine Ev.s ?_ | refine Ev.newC fun _ _ _ => ?_ | refine Ev.boxC fun _ _ _ => ?_ | refine Ev.stC fun _ _ => ?_ | refine Ev.sc (by omega) ?_ | refine Ev.scg (by omega) ?_)
    refine Ev.ret (.inl ⟨rfl, ?_⟩)
    apply List.ext_getElem? 
    intro t
    by_cases ht : t < xs.length
    · have := hz t (by omega)
      rw [List.getD_eq_getElem?_getD, List.getD_eq_getElem?_getD, List.getElem?_eq_getElem ht, List.getElem?_eq_getElem (by omega)] at this
      rw [List.getElem?_eq_getElem ht, List.getElem?_eq_getElem (by omega)]
      exact congrArg some this
    · rw [List.getElem?_eq_none (by omega), List.getElem?_eq_none (by omega)]
  | succ c ih =>
    intro i hi hz
    refine Ev.succ (fun k n => f53_L0_succ k _ _ _ n H) ?_
    repeat (first | refine Ev.s ?_ | refine Ev.newC fun _ _ _ => ?_ | refine Ev.boxC fun _ _ _ => ?_ | refine Ev.stC fun _ _ => ?_ | refine Ev.sc (by omega) ?_ | refine Ev.scg (by omega) ?_)
    rw [decide_eq_true (by omega)]
    repeat (first | refine Ev.s ?_ | refine Ev.newC fun _ _ _ => ?_ | refine Ev.boxC fun _ _ _ => ?_ | refine Ev.stC fun _ _ => ?_ | refine Ev.sc (by omega) ?_ | refine Ev.scg (by omega) ?_)
    refine Ev.ixC i rfl (by omega) fun a ha => ?_
    repeat (first | refine Ev.s ?_ | refine Ev.newC fun _ _ _ => ?_ | refine Ev.boxC fun _ _ _ => ?_ | refine Ev.stC fun _ _ => ?_ | refine Ev.sc (by omega) ?_ | refine Ev.scg (by omega) ?_)
    refine Ev.ixC i rfl (by omega) fun b hb => ?_
    repeat (first | refine Ev.s ?_ | refine Ev.newC fun _ _ _ => ?_ | refine Ev.boxC fun _ _ _ => ?_ | refine Ev.stC fun _ _ => ?_ | refine Ev.sc (by omega) ?_ | refine Ev.scg (by omega) ?_)
    refine Ev.ifp (fun h => ?_) fun h => ?_
    · repeat (first | refine Ev.s ?_ | refine Ev.newC fun _ _ _ => ?_ | refine Ev.boxC fun _ _ _ => ?_ | refine Ev.stC fun _ _ => ?_ | refine Ev.sc (by omega) ?_ | refine Ev.scg (by omega) ?_)
      exact Ev.ret (.inr ⟨rfl, fun e => h (by rw [e])⟩)
    · repeat (first | refine Ev.s ?_ | refine Ev.newC fun _ _ _ => ?_ | refine Ev.boxC fun _ _ _ => ?_ | refine Ev.stC fun _ _ => ?_ | refine Ev.sc (by omega) ?_ | refine Ev.scg (by omega) ?_)
      refine ih (i + 1) (by omega) fun t ht => ?_
      by_cases e : t < i
      · exact hz t e
      · rw [show t = i by omega]; exact Decidable.of_not_not h
theorem Same_ispec {B H : AH} {xs ys : List Nat} {mx my : Value} {nx ny : Bool} (hlx : xs.length < 34359738368) (hx : RdN B mx xs) (hy : RdN B my ys) (hL : Le B H) :
    Ev (fun k _ => rn k 53 [.agg #[.bool nx, mx], .agg #[.bool ny, my]] H) (An B H fun _ v => v = .bool (decide (nx = ny ∧ xs = ys))) := by
  refine Ev.fn (fun k => f53_eq k _ _ H) ?_
  have hS := St.start hL
  repeat (first | refine Ev.s ?_ | refine Ev.newC fun _ _ _ => ?_ | refine Ev.boxC fun _ _ _ => ?_ | refine Ev.stC fun _ _ => ?_ | refine Ev.sc (by omega) ?_ | refine Ev.scg (by omega) ?_)
  cases hb : (nx != ny) with
  | true =>
    have h3 : nx ≠ ny := by simpa using hb
    repeat (first | refine Ev.s ?_ | refine Ev.newC fun _ _ _ => ?_ | refine Ev.boxC fun _ _ _ => ?_ | refine Ev.stC fun _ _ => ?_ | refine Ev.sc (by omega) ?_ | refine Ev.scg (by omega) ?_)
    exact Ev.doneC (by simp [h3])
  | false =>
    have h3 : nx = ny := by simpa using hb
    repeat (first | refine Ev.s ?_ | refine Ev.newC fun _ _ _ => ?_ | refine Ev.boxC fun _ _ _ => ?_ | refine Ev.stC fun _ _ => ?_ | refine Ev.sc (by omega) ?_ | refine Ev.scg (by omega) ?_)
    by_cases h : xs.length ≠ ys.length
    · rw [decide_eq_true h]
      repeat (first | refine Ev.s ?_ | refine Ev.newC fun _ _ _ => ?_ | refine Ev.boxC fun _ _ _ => ?_ | refine Ev.stC fun _ _ => ?_ | refine Ev.sc (by omega) ?_ | refine Ev.scg (by omega) ?_)
      exact Ev.doneC (by rw [decide_eq_false]; intro e; exact h (by rw [e.2]))
    · rw [decide_eq_false h]
      repeat (first | refine Ev.s ?_ | refine Ev.newC fun _ _ _ => ?_ | refine Ev.boxC fun _ _ _ => ?_ | refine Ev.stC fun _ _ => ?_ | refine Ev.sc (by omega) ?_ | refine Ev.scg (by omega) ?_)
      refine Ev.bind (Ev.loop (same_loop (xs := xs) (ys := ys) (Decidable.of_not_not h) hlx xs.length 0 (by omega) (fun t ht => absurd ht (by omega)))) ?_
      rintro _ (⟨rfl, e⟩ | ⟨rfl, e⟩)
      · refine Ev.eq (fun k _ => f53_A0_x0 k _ _) ?_
        exact Ev.doneC (by rw [decide_eq_true ⟨h3, e⟩])
      · refine Ev.eq (fun k _ => f53_A0_ret k _ _) ?_
        exact Ev.doneC (by rw [decide_eq_false fun h => e h.2])
end Go.AM.Z
set_option linter.unusedVariables false
set_option linter.unusedSimpArgs false
set_option maxRecDepth 100000
namespace Go.AM.Z
open Go Go.AM Go.Proofs
attribute [local irreducible] run bin un ld st box newV mkS fldA fld ixA ix slc slc3 build buildS cv cvS ap cpy lenV gOp pickV b2 aIf aChk evalK resume iterD Option.bind

end Go.AM.Z
set_option linter.unusedVariables false
namespace Go.AM
theorem canon_zero {e : Int} : canon 0 e = zeroDy := by unfold canon; rw [if_pos rfl]
/-- What a number in its one form is. -/
theorem canon_val {z e : Int} (h : z ≠ 0) : ∃ q t : Nat, q % 2 = 1 ∧ z.natAbs = 2 ^ t * q ∧ t = ctz z.natAbs ∧ canon z e = ⟨decide (z < 0), limbs q, e + t⟩ := by
  have hz : z.natAbs ≠ 0 := by omega
  obtain ⟨h1, h2⟩ := ctz_spec hz
  exact ⟨_, _, h2, h1.symm, rfl, by unfold canon; rw [if_neg h]⟩
/-- An odd number has its digits. -/
theorem rightI_limbs {neg : Bool} {n : Nat} (h : neg = true → n ≠ 0) : rightI neg (limbs n) = true := by
  unfold rightI
  by_cases h0 : n = 0
  · subst h0
    rw [limbs_zero]
    cases neg with
    | true => exact absurd rfl (h rfl)
    | false => rfl
  · have hl : (limbs n).length ≠ 0 := fun e => h0 (limbs_eq_nil.mp (List.length_eq_zero_iff.mp e))
    rw [if_neg hl]
    refine decide_eq_true ?_
    refine limbs_getLast (n := n) _ ?_
    rw [List.getLast?_eq_getElem?, List.getD_eq_getElem?_getD, List.getElem?_eq_getElem (by omega)]; rfl
theorem limbs_getD_zero (n : Nat) : (limbs n).getD 0 0 = n % 4294967296 := by
  have := val_head (limbs n) (small_limbs n)
  rw [val_limbs] at this; exact this.symm
theorem right_canon {z e : Int} (h : z = 0 ∨ (-131072 ≤ (canon z e).e ∧ (canon z e).e ≤ 131072)) : rightD (canon z e) = true := by
  by_cases hz : z = 0
  · subst hz; rw [canon_zero]; rfl
  · have h := h.resolve_left hz
    obtain ⟨q, t, h1, h2, h3, h4⟩ := canon_val (e := e) hz
    rw [h4] at h ⊢
    have hq : q ≠ 0 := by omega
    have hl : (limbs q).length ≠ 0 := fun e => hq (limbs_eq_nil.mp (List.length_eq_zero_iff.mp e))
    unfold rightD
    rw [rightI_limbs (fun _ => hq), Bool.true_and]
    refine decide_eq_true ?_
    rw [if_neg hl]
    refine ⟨?_, h⟩
    rw [limbs_getD_zero]; omega
/-- A number that is right is in its one form. -/
theorem canon_right {d : Dy} (h : rightD d = true) (hs : small d.mag) : canon (dz d) d.e = d := by
  have hl := right_limbs h hs
  have h' := h
  unfold rightD at h
  rw [Bool.and_eq_true, decide_eq_true_eq] at h
  obtain ⟨hI, hE⟩ := h
  by_cases h0 : d.mag.length = 0
  · rw [if_pos h0] at hE
    have hm : d.mag = [] := List.length_eq_zero_iff.mp h0
    unfold rightI at hI
    rw [if_pos h0] at hI
    have hn : d.neg = false := by cases hh : d.neg with | false => rfl | true => rw [hh] at hI; cases hI
    have : dz d = 0 := by unfold dz; rw [hm, hn]; rfl
    rw [this, canon_zero]
    cases d; simp only at hm hn hE; subst hm hn hE; rfl
  · rw [if_neg h0] at hE
    have hv := val_ne hl h0
    have hz : dz d ≠ 0 := by unfold dz sg; cases d.neg <;> simp <;> omega
    have ha : (dz d).natAbs = val d.mag := sg_abs
    have hodd : val d.mag % 2 = 1 := by
      have h1 := hE.1
      rw [hl, limbs_getD_zero] at h1
      omega
    unfold canon
    rw [if_neg hz, ha, ctz_odd hodd, Nat.pow_zero, Nat.div_one, ← hl]
    have hn : decide (dz d < 0) = d.neg := by
      unfold dz; rw [← sg_neg, decide_eq_true hv, Bool.and_true]
    rw [hn]
    cases d; simp
theorem canon_bounds {z e : Int} (h : z ≠ 0) : e ≤ (canon z e).e ∧ (canon z e).e + (nbits (val (canon z e).mag) : Int) = e + (nbits z.natAbs : Int) ∧ nbits (val (canon z e).mag) ≤ nbits z.natAbs ∧ 0 < nbits (val (canon z e).mag) := by
  obtain ⟨q, t, h1, h2, h3, h4⟩ := canon_val (e := e) h
  rw [h4]
  simp only
  have hq : q ≠ 0 := by omega
  have := nbits_mul_pow (k := t) hq
  have hpos := nbits_pos hq
  rw [val_limbs, h2, Nat.mul_comm, this]
  omega
theorem canon_right' {z e : Int} (h1 : -131072 ≤ e) (h2 : e + (nbits z.natAbs : Int) ≤ 131073) : rightD (canon z e) = true := by
  refine right_canon ?_
  by_cases h : z = 0
  · exact .inl h
  · have := canon_bounds (e := e) h
    exact .inr (by omega)
end Go.AM
set_option linter.unusedVariables false
namespace Go.AM
structure Ok (X E : Int) : Prop where
  lo : -20000 ≤ E
  hi : E ≤ 20000
  nb : nbits X.natAbs ≤ 20000
theorem Ok.right {X E : Int} (h : Ok X E) : rightD (canon X E) = true := canon_right' (by have := h.lo; omega) (by have := h.hi; have := h.nb; omega)
theorem canon_len {z e : Int} {l : Nat} (h : nbits z.natAbs ≤ 32 * l) : (canon z e).mag.length ≤ l := by
  by_cases hz : z = 0
  · subst hz; rw [canon_zero]; simp
  · obtain ⟨q, t, h1, h2, h3, h4⟩ := canon_val (e := e) hz
    rw [h4]
    refine limbs_length_le ?_
    rw [show (4294967296 : Nat) = 2 ^ 32 by decide, ← Nat.pow_mul]
    have := nbits_le.mp h
    have h5 : q ≤ z.natAbs := by rw [h2]; exact Nat.le_mul_of_pos_left _ (Nat.pow_pos (by decide))
    omega
theorem Ok.len {X E : Int} (h : Ok X E) : (canon X E).mag.length ≤ 625 := canon_len (by have := h.nb; omega)
theorem canon_neg {z e : Int} : (canon z e).neg = decide (z < 0) := by
  unfold canon; split
  · rename_i h; subst h; rfl
  · rfl
theorem Ok.neg {X E : Int} (h : Ok X E) : Ok (-X) E := ⟨h.lo, h.hi, by rw [Int.natAbs_neg]; exact h.nb⟩
end Go.AM
set_option linter.unusedVariables false
set_option linter.unusedSimpArgs false
namespace Go.AM
open Go.RowKit

section
variable {P : Program} {call : CallF}

theorem aCall_congr {R : Type} {ρ ρ' : Operand → Value} (c : Call) (h : ∀ x ∈ c.operands, ρ x = ρ' x) (H : AH) (K : Value → AH → Option R) : aCall P call ρ c H K = aCall P call ρ' c H K := by
  have h1 : ∀ x ∈ c.args.toList, ρ x = ρ' x := fun x hx => h x (by unfold Call.operands; exact Array.mem_append.2 (.inr (by simpa using hx)))
  have hargs : c.args.toList.map ρ = c.args.toList.map ρ' := List.map_congr_left h1
  unfold aCall
  split
  · rename_i f hc
    have hf : ρ f = ρ' f := h f (by unfold Call.operands; rw [hc]; simp)
    rw [hf, hargs]
  · split
    · rename_i t u s x ht ha
      rw [h1 s (by rw [ha]; simp), h1 x (by rw [ha]; simp)]
    · rfl
  · split
    · rename_i t u s x ht ha
      rw [h1 s (by rw [ha]; simp), h1 x (by rw [ha]; simp)]
    · rfl
  · split
    · rename_i t x ht ha
      rw [h1 x (by rw [ha]; simp)]
    · rfl
  · rw [hargs]
  · rw [hargs]
  · split
    · rename_i x ha
      rw [h1 x (by rw [ha]; simp)]
    · rfl
  · split
    · rename_i t u s x ht ha
      rw [h1 s (by rw [ha]; simp), h1 x (by rw [ha]; simp)]
    · rfl
  · rfl
theorem aRes_congr {ρ ρ' : Operand → Value} (op : Op) (h : ∀ x ∈ op.operands, ρ x = ρ' x) (H : AH) : aRes P call ρ op H = aRes P call ρ' op H := by
  have pairs : ∀ ps : Array (Nat × Operand), (∀ x ∈ ps.map (·.2), ρ x = ρ' x) → (ps.toList.map fun p => (p.1, ρ p.2)) = (ps.toList.map fun p => (p.1, ρ' p.2)) := fun ps hp =>
    List.map_congr_left fun p hm => by rw [hp p.2 (Array.mem_map.2 ⟨p, by simpa using hm, rfl⟩)]
  unfold aRes
  cases op <;> simp only [Op.operands] at h <;> simp only [aOp]
  case build t ps => rw [pairs ps fun x hx => h x (by simpa using hx)]
  case buildSlice t n ps => rw [pairs ps fun x hx => h x (by simpa using hx)]
  case makeFunc fn first captured =>
    cases fn <;> simp only [aOp]
    rw [List.map_congr_left (l := first.toList) fun x hx => h x (by simp at hx; simp [hx]), List.map_congr_left (l := captured.toList) fun x hx => h x (by simp at hx; simp [hx])]
  case call c => exact aCall_congr c h H _
  case slice t x lo hi mx =>
    cases mx with
    | some mx => cases lo <;> cases hi <;> simp_all [aOp]
    | none => cases lo <;> cases hi <;> simp_all [aOp]
  all_goals (first | rfl | (simp_all; done))
theorem opRead_congr {ρ ρ' : Operand → Value} (op : Op) (h : ∀ x ∈ op.operands, ρ x = ρ' x) : opRead P ρ op = opRead P ρ' op := by
  cases op <;> simp only [Op.operands] at h <;> simp only [opRead]
  case load t x => rw [h x (by simp)]
  case convert s d x => rw [h x (by simp)]
/-- What reads, reads the same where the blocks are the same. -/
theorem ld_keep {t : TypeId} {H X : AH} {a v : Value} (hk : ∀ b k, blk H b = some k → blk X b = some k) (h : ld P t H a = some v) : ld P t X a = some v := by
  unfold ld at h ⊢
  split at h
  · unfold ldA at h ⊢
    split at h
    · obtain ⟨k, h1, h2⟩ := bind_some h
      simp only [hk _ _ h1, Option.bind_some]
      exact h2
    · cases h
  · unfold ldC at h ⊢
    split at h
    · obtain ⟨k, h1, h2⟩ := bind_some h
      simp only [hk _ _ h1, Option.bind_some]
      exact h2
    · cases h
  · cases h
theorem sliceCells_keep {sz n : Nat} {H X : AH} {x : Value} {cs : List Value} (hk : ∀ b k, blk H b = some k → blk X b = some k) (h1 : sliceCells sz H x n = some cs) : sliceCells sz X x n = some cs := by
  unfold sliceCells at h1 ⊢
  split at h1
  · exact h1
  · split at h1
    · rename_i hn0; simp only [hn0, if_true]; exact h1
    · split at h1
      · obtain ⟨k, h3, h4⟩ := bind_some h1
        rename_i hn0 hle
        simp only [hn0, hle, if_true, if_false, hk _ _ h3, Option.bind_some]
        exact h4
      · cases h1
  · exact h1
  · cases h1
theorem cvS_keep {s d : TypeId} {H X : AH} {a v : Value} (hk : ∀ b k, blk H b = some k → blk X b = some k) (h : cvS P s d H a = some v) : cvS P s d X a = some v := by
  unfold cvS at h ⊢
  split at h
  · split at h
    · rename_i he
      obtain ⟨cs, h1, h2⟩ := bind_some h
      simp only [he, sliceCells_keep hk h1, Option.bind_some]
      exact h2
    · cases h
  · cases h
theorem opRead_keep {ρ : Operand → Value} {op : Op} {f : AH → Option Value} (hf : opRead P ρ op = some f) {H X : AH} {v : Value} (hk : ∀ b k, blk H b = some k → blk X b = some k) (h : f H = some v) : f X = some v := by
  unfold opRead at hf
  split at hf
  · cases hf; exact ld_keep hk h
  · rename_i s d x
    cases hb : isBytesToString P s d with
    | true => rw [hb] at hf; cases hf; exact cvS_keep hk h
    | false => rw [hb] at hf; cases hf
  · cases hf
end
end Go.AM
set_option linter.unusedVariables false
set_option linter.unusedSimpArgs false
namespace Go.AM
open Go.RowKit

section
variable {P : Program} {call : CallF}

/-- An operation that neither reads nor acts nor makes: it tells the same wherever it comes. -/
def PureAt (P : Program) (call : CallF) (ρ : Operand → Value) (op : Op) (H H' : AH) (v : Value) : Prop := H' = H ∧ ∀ X, aRes P call ρ op X = some (v, X)
theorem PureAt.one {ρ : Operand → Value} {op : Op} {H H' : AH} {v : Value} (x : Option Value) (e : ∀ X, aRes P call ρ op X = x.bind fun v => some (v, X)) (h : aRes P call ρ op H = some (v, H')) : PureAt P call ρ op H H' v := by
  rw [e] at h
  obtain ⟨u, h1, h2⟩ := bind_some h
  cases h2
  exact ⟨rfl, fun X => by rw [e, h1]; rfl⟩
theorem pure_res {ρ : Operand → Value} {op : Op} (he : isEff op = false) (hr : opRead P ρ op = none) (ha : isAlloc op = false) {H H' : AH} {v : Value} (h : aRes P call ρ op H = some (v, H')) : PureAt P call ρ op H H' v := by
  cases op
  case move x => exact .one (some (ρ x)) (fun X => rfl) h
  case assign x => exact .one (some (ρ x)) (fun X => rfl) h
  case pick c x y => exact .one _ (fun X => rfl) h
  case build t ps => exact .one _ (fun X => rfl) h
  case nilCheck x => exact .one _ (fun X => rfl) h
  case binOp op t x y yt => exact .one _ (fun X => rfl) h
  case unOp op t x => exact .one _ (fun X => rfl) h
  case fieldAddr s x i => exact .one _ (fun X => rfl) h
  case field s x i => exact .one _ (fun X => rfl) h
  case indexAddr s x i => exact .one _ (fun X => rfl) h
  case index s x i => exact .one _ (fun X => rfl) h
  case extract x i => exact .one _ (fun X => rfl) h
  case load t x => cases hr
  case alloc t => cases ha
  case box t x => cases ha
  case buildSlice t n ps => cases ha
  case makeSlice t l c => cases ha
  case store t x y => cases he
  case convert s d x =>
    cases hb : isBytesToString P s d with
    | true => simp only [opRead, hb, cond_true] at hr; cases hr
    | false => exact .one (cv P s d (ρ x)) (fun X => by unfold aRes; simp only [aOp, hb, cond_false]) h
  case makeFunc fn first captured =>
    cases fn with
    | func f => exact .one (some (.func (.func f) (first.toList.map ρ).toArray (captured.toList.map ρ).toArray)) (fun X => rfl) h
    | _ => cases h
  case slice t x lo hi mx =>
    cases mx with
    | some _ => exact .one _ (fun X => rfl) h
    | none => exact .one _ (fun X => rfl) h
  case call c =>
    obtain ⟨callee, args, tys⟩ := c
    cases callee with
    | value f => cases he
    | invoke r m => cases h
    | builtin b =>
      cases b
      case append => cases he
      case copy => cases he
      case len =>
        refine .one (match tys.toList, args.toList with | [t], [x] => lenV P t (ρ x) | _, _ => none) (fun X => ?_) h
        show (match tys.toList, args.toList with | [t], [x] => (lenV P t (ρ x)).bind fun v => some (v, X) | _, _ => none) = _
        split <;> rfl
      case min => exact .one _ (fun X => rfl) h
      case max => exact .one _ (fun X => rfl) h
      case unsafeSliceData =>
        refine .one (match args.toList with | [x] => sdV (ρ x) | _ => none) (fun X => ?_) h
        show (match args.toList with | [x] => (sdV (ρ x)).bind fun v => some (v, X) | _ => none) = _
        split <;> rfl
      case unsafeString => cases he
      all_goals cases h
  all_goals cases h
/-- An operation that makes one block. -/
def MakesAt (P : Program) (call : CallF) (ρ : Operand → Value) (op : Op) (H H' : AH) (v : Value) : Prop := ∃ k : Blk, (k.kind = .fix ∧ (v = ptr H.length 0 ∨ ∃ a c, v = sl H.length 0 a c)) ∧ H' = H ++ [some k] ∧ ∀ X : AH, X.length = H.length → aRes P call ρ op X = some (v, X ++ [some k])
theorem MakesAt.one {ρ : Operand → Value} {op : Op} {H H' : AH} {v : Value} (x : Option (Blk × (Nat → Value))) (hx : ∀ p, x = some p → p.1.kind = .fix ∧ ∀ n, p.2 n = ptr n 0 ∨ ∃ a c, p.2 n = sl n 0 a c) (e : ∀ X, aRes P call ρ op X = x.bind fun p => some (p.2 X.length, X ++ [some p.1])) (h : aRes P call ρ op H = some (v, H')) : MakesAt P call ρ op H H' v := by
  rw [e] at h
  obtain ⟨p, h1, h2⟩ := bind_some h
  cases h2
  exact ⟨p.1, ⟨(hx p h1).1, (hx p h1).2 _⟩, rfl, fun X hX => by rw [e, h1, ← hX]; rfl⟩
theorem box_form (t : TypeId) (X : AH) (v : Value) : (box t X v).bind (fun p => some (p.1, p.2)) = (if okCells v = true then some ((⟨v.cells.toList, t, .fix⟩ : Blk), fun n => ptr n 0) else none).bind fun p => some (p.2 X.length, X ++ [some p.1]) := by
  unfold box
  split <;> rfl
theorem alloc_res {ρ : Operand → Value} {op : Op} (ha : isAlloc op = true) {H H' : AH} {v : Value} (h : aRes P call ρ op H = some (v, H')) : MakesAt P call ρ op H H' v := by
  cases op
  case alloc t =>
    refine .one ((zeroT P t).bind fun z => if okCells z = true then some ((⟨z.cells.toList, t, .fix⟩ : Blk), fun n => ptr n 0) else none) ?_ (fun X => ?_) h
    · intro p hp
      obtain ⟨z, h1, h2⟩ := bind_some hp
      split at h2
      · cases h2; exact ⟨rfl, fun n => .inl rfl⟩
      · cases h2
    · show (newV P t X).bind (fun p => some (p.1, p.2)) = _
      unfold newV
      rw [Option.bind_assoc, Option.bind_assoc]
      congr 1
      funext z
      exact box_form t X z
  case box t x =>
    refine .one (if okCells (ρ x) = true then some ((⟨(ρ x).cells.toList, t, .fix⟩ : Blk), fun n => ptr n 0) else none) ?_ (fun X => box_form t X (ρ x)) h
    intro p hp
    split at hp
    · cases hp; exact ⟨rfl, fun n => .inl rfl⟩
    · cases hp
  case buildSlice t n ps =>
    refine .one (match P.underlying t with | some (.slice e) => (zeroT P e).bind fun z => if n * szT P e ≤ 16777216 ∧ z.cells.size = szT P e then (fillB (fun i => some (i * szT P e, szT P e)) (rep z.cells.toList n) (ps.toList.map fun p => (p.1, ρ p.2))).map fun cs => ((⟨cs, e, .fix⟩ : Blk), fun q => sl q 0 n n) else none | _ => none) ?_ (fun X => ?_) h
    · intro p hp
      split at hp
      · obtain ⟨z, h1, h2⟩ := bind_some hp
        split at h2
        · cases hf : fillB (fun i => some (i * szT P _, szT P _)) (rep z.cells.toList n) (ps.toList.map fun p => (p.1, ρ p.2)) with
          | none => rw [hf] at h2; cases h2
          | some cs => rw [hf] at h2; cases h2; exact ⟨rfl, fun q => .inr ⟨_, _, rfl⟩⟩
        · cases h2
      · cases hp
    · show (buildS P t X n (ps.toList.map fun p => (p.1, ρ p.2))).bind (fun p => some (p.1, p.2)) = _
      unfold buildS
      cases P.underlying t with
      | none => rfl
      | some d =>
        cases d with
        | slice e =>
          simp only
          rw [Option.bind_assoc, Option.bind_assoc]
          congr 1
          funext z
          split
          · cases fillB (fun i => some (i * szT P e, szT P e)) (rep z.cells.toList n) (ps.toList.map fun p => (p.1, ρ p.2)) <;> rfl
          · rfl
        | _ => rfl
  case makeSlice t l c =>
    refine .one (match P.underlying t, ρ l, ρ c with | some (.slice e), .int _ n, .int _ m => (zeroT P e).bind fun z => if 0 ≤ n ∧ n ≤ m ∧ m * byT P e ≤ 281474976710656 ∧ m ≤ 9223372036854775807 ∧ z.cells.size = szT P e ∧ okCells z = true then some ((⟨rep z.cells.toList m.toNat, e, .fix⟩ : Blk), fun q => sl q 0 n.toNat m.toNat) else none | _, _, _ => none) ?_ (fun X => ?_) h
    · intro p hp
      split at hp
      · obtain ⟨z, h1, h2⟩ := bind_some hp
        split at h2
        · cases h2; exact ⟨rfl, fun q => .inr ⟨_, _, rfl⟩⟩
        · cases h2
      · cases hp
    · show (mkS P t X (ρ l) (ρ c)).bind (fun p => some (p.1, p.2)) = _
      unfold mkS
      cases P.underlying t with
      | none => rfl
      | some d =>
        cases d with
        | slice e =>
          cases ρ l with
          | int k1 n =>
            cases ρ c with
            | int k2 q =>
              simp only
              rw [Option.bind_assoc, Option.bind_assoc]
              congr 1
              funext z
              split <;> rfl
            | _ => rfl
          | _ => rfl
        | _ => rfl
  all_goals cases ha
end
end Go.AM
set_option linter.unusedVariables false
set_option linter.unusedSimpArgs false
namespace Go.AM
open Go.RowKit

section
variable {P : Program} {call : CallF}

theorem befL_take : ∀ (l : List Oper) (acc : List Nat), (befL acc l).take acc.length = acc ∧ (befL acc l).length = acc.length + l.length ∧ ∀ (j : Nat) (o : Oper), l[j]? = some o → (befL acc l)[acc.length + j]? = some (maskOf ((befL acc l).take (acc.length + j)) o)
  | [], acc => by simp [befL]
  | o :: l, acc => by
    obtain ⟨h1, h2, h3⟩ := befL_take l (acc ++ [maskOf acc o])
    simp only [befL, List.length_append, List.length_cons, List.length_nil, Nat.zero_add] at h1 h2 h3 ⊢
    have h4 : (befL (acc ++ [maskOf acc o]) l).take acc.length = acc := by
      have := congrArg (List.take acc.length) h1
      rw [List.take_take, Nat.min_eq_left (by omega), List.take_left] at this
      exact this
    refine ⟨h4, by omega, fun j p hp => ?_⟩
    cases j with
    | zero =>
      simp at hp
      subst hp
      have : (befL (acc ++ [maskOf acc o]) l)[acc.length]? = ((befL (acc ++ [maskOf acc o]) l).take (acc.length + 1))[acc.length]? := by rw [List.getElem?_take, if_pos (by omega)]
      rw [Nat.add_zero, this, h1, h4]
      simp
    | succ j =>
      have := h3 j p (by simpa using hp)
      rw [show acc.length + (j + 1) = acc.length + 1 + j by omega]
      exact this
theorem maskOf_bit {acc : List Nat} {o : Oper} {i : Nat} (h : (maskOf acc o).testBit i = true) : ∃ e ∈ o.after, Region.binds .any e = true ∧ (e.on = i ∨ (acc.getD e.on 0).testBit i = true) := by
  have key : ∀ (l : List Edge) (s : Nat), (l.foldl (fun s e => bif Region.binds .any e then s ||| (2 ^ e.on ||| acc.getD e.on 0) else s) s).testBit i = true → s.testBit i = true ∨ ∃ e ∈ l, Region.binds .any e = true ∧ (e.on = i ∨ (acc.getD e.on 0).testBit i = true) := by
    intro l
    induction l with
    | nil => intro s hs; exact .inl hs
    | cons e l ih =>
      intro s hs
      rw [List.foldl_cons] at hs
      rcases ih _ hs with h1 | ⟨e', h1, h2⟩
      · cases hb : Region.binds .any e with
        | false => rw [hb] at h1; exact .inl h1
        | true =>
          rw [hb] at h1
          simp only [cond_true, Nat.testBit_or, Bool.or_eq_true] at h1
          rcases h1 with h1 | h1 | h1
          · exact .inl h1
          · refine .inr ⟨e, by simp, hb, .inl ?_⟩
            rw [Nat.testBit_two_pow] at h1
            simpa using h1
          · exact .inr ⟨e, by simp, hb, .inr h1⟩
      · exact .inr ⟨e', by simp [h1], h2⟩
  rcases key _ _ h with h1 | ⟨e, h1, h2⟩
  · simp at h1
  · exact ⟨e, by simpa using h1, h2⟩
/-- A set of operations that holds with each what it comes behind. -/
def Down (ops : Array Oper) (D : Nat → Prop) : Prop := ∀ j o, ops[j]? = some o → D j → ∀ e ∈ o.after, Region.binds .any e = true → D e.on
theorem ordB_down {ops : Array Oper} {D : Nat → Prop} (hD : Down ops D) : ∀ (j : Nat) (o : Oper), ops[j]? = some o → (∀ e ∈ o.after, Region.binds .any e = true → D e.on) → ∀ i, ordB (befL [] ops.toList) i j = true → D i := by
  intro j
  induction j using Nat.strongRecOn with
  | _ j ih =>
    intro o ho hedges i hi
    obtain ⟨_, _, h3⟩ := befL_take ops.toList []
    have h4 := h3 j o (by simpa using ho)
    simp only [List.length_nil, Nat.zero_add] at h4
    unfold ordB at hi
    rw [List.getD_eq_getElem?_getD, h4, Option.getD_some] at hi
    obtain ⟨e, he, hb, h5⟩ := maskOf_bit hi
    have hde := hedges e he hb
    rcases h5 with h5 | h5
    · rw [← h5]; exact hde
    · rcases Nat.lt_or_ge e.on j with hlt | hge
      · rw [List.getD_eq_getElem?_getD, List.getElem?_take, if_pos hlt] at h5
        cases hoe : ops[e.on]? with
        | none =>
          exfalso
          have hlen := (befL_take ops.toList []).2.1
          have : (befL [] ops.toList)[e.on]? = none := List.getElem?_eq_none (by
            rw [hlen]
            simp
            have := Array.getElem?_eq_none_iff.1 hoe
            exact this)
          rw [this] at h5
          simp at h5
        | some oe =>
          refine ih e.on hlt oe hoe (fun e' he' hb' => hD e.on oe hoe hde e' he' hb') i ?_
          unfold ordB
          rw [List.getD_eq_getElem?_getD]
          exact h5
      · rw [List.getD_eq_getElem?_getD, List.getElem?_take, if_neg (by omega)] at h5
        simp at h5
end
end Go.AM
set_option linter.unusedVariables false
set_option linter.unusedSimpArgs false
namespace Go.AM
open Go.RowKit

section
variable {P : Program} {call : CallF}

/-- The steps from operation j0 on: slots, heap, what is passed over, what is told. -/
structure Tr (P : Program) (call : CallF) (ops : Array Oper) (bs : List Nat) (j0 : Nat) (tT : Nat → List Value) (tH : Nat → AH) (sk : Nat → Bool) (vl : Nat → Value) : Prop where
  step : ∀ j o, j0 ≤ j → ops[j]? = some o → tT (j + 1) = putT (tT j) o.dst (vl j)
  skip : ∀ j o, j0 ≤ j → ops[j]? = some o → sk j = true → (∃ g want, o.guard = some (g, want) ∧ Off (yieldV ops (tT j) g) want) ∧ vl j = undef ∧ tH (j + 1) = tH j
  go : ∀ j o, j0 ≤ j → ops[j]? = some o → sk j = false → o.guard = none ∨ ∃ g want, o.guard = some (g, want) ∧ yieldV ops (tT j) g = .bool want
  read : ∀ j o f, j0 ≤ j → ops[j]? = some o → sk j = false → opRead P (opv (tT j)) o.op = some f → f (tH j) = some (vl j) ∧ tH (j + 1) = tH j
  other : ∀ j o, j0 ≤ j → ops[j]? = some o → sk j = false → opRead P (opv (tT j)) o.op = none → aRes P call (opv (tT j)) o.op (tH j) = some (vl j, tH (j + 1))
  pastR : ∀ j o f e oe, j0 ≤ e → e < j → ops[j]? = some o → ops[e]? = some oe → sk j = false → sk e = false → isEff oe.op = true → opRead P (opv (tT j)) o.op = some f → ordB bs e j = false → f (tH e) = some (vl j)
  futR : ∀ j o f e oe, j0 ≤ j → j < e → ops[j]? = some o → ops[e]? = some oe → sk j = false → sk e = false → isEff oe.op = true → opRead P (opv (tT j)) o.op = some f → ordB bs j e = false → f (tH (e + 1)) = some (vl j)
  futA : ∀ j o e oe, j0 ≤ j → j < e → ops[j]? = some o → ops[e]? = some oe → sk j = false → sk e = false → isEff oe.op = true → opRead P (opv (tT j)) o.op = none → isAlloc o.op = true → ordB bs j e = false → blk (tH (e + 1)) (tH j).length = blk (tH (j + 1)) (tH j).length

theorem aChk_inv {R : Type} {p : Prop} {x : Option R} {r : R} (h : aChk p x = some r) : p ∧ x = some r := by
  unfold aChk at h
  split at h
  · rename_i hp; exact ⟨hp, h⟩
  · cases h
theorem chkReads_inv {R : Type} {bs : List Nat} {j : Nat} {H : AH} {x : Option R} {r : R} : ∀ (rs : List Rd), chkReads bs j H x rs = some r → x = some r ∧ ∀ rd ∈ rs, ordB bs rd.at_ j = false → rd.ok H
  | [], h => ⟨h, fun rd hr => by cases hr⟩
  | rd :: rs, h => by
    unfold chkReads at h
    cases ho : ordB bs rd.at_ j with
    | true =>
      rw [ho] at h
      obtain ⟨h1, h2⟩ := chkReads_inv rs h
      refine ⟨h1, fun rd' hr hf => ?_⟩
      cases hr with
      | head => rw [ho] at hf; cases hf
      | tail _ hr => exact h2 rd' hr hf
    | false =>
      rw [ho] at h
      obtain ⟨h0, h⟩ := aChk_inv h
      obtain ⟨h1, h2⟩ := chkReads_inv rs h
      refine ⟨h1, fun rd' hr hf => ?_⟩
      cases hr with
      | head => exact h0
      | tail _ hr => exact h2 rd' hr hf
theorem chkPast_inv {R : Type} {bs : List Nat} {j : Nat} {ok : AH → Prop} {x : Option R} {r : R} : ∀ (ps : List (Nat × AH)), chkPast bs j ok x ps = some r → x = some r ∧ ∀ p ∈ ps, ordB bs p.1 j = false → ok p.2
  | [], h => ⟨h, fun p hp => by cases hp⟩
  | p :: ps, h => by
    unfold chkPast at h
    cases ho : ordB bs p.1 j with
    | true =>
      rw [ho] at h
      obtain ⟨h1, h2⟩ := chkPast_inv ps h
      refine ⟨h1, fun p' hr hf => ?_⟩
      cases hr with
      | head => rw [ho] at hf; cases hf
      | tail _ hr => exact h2 p' hr hf
    | false =>
      rw [ho] at h
      obtain ⟨h0, h⟩ := aChk_inv h
      obtain ⟨h1, h2⟩ := chkPast_inv ps h
      refine ⟨h1, fun p' hr hf => ?_⟩
      cases hr with
      | head => exact h0
      | tail _ hr => exact h2 p' hr hf
/-- What the steps from j0 on keep of what came ahead. -/
structure TrP (P : Program) (ops : Array Oper) (bs : List Nat) (j0 : Nat) (tT : Nat → List Value) (tH : Nat → AH) (sk : Nat → Bool) (vl : Nat → Value) (past : List (Nat × AH)) (reads : List Rd) : Prop where
  past : ∀ p ∈ past, ∀ j o f, j0 ≤ j → ops[j]? = some o → sk j = false → opRead P (opv (tT j)) o.op = some f → ordB bs p.1 j = false → f p.2 = some (vl j)
  reads : ∀ rd ∈ reads, ∀ e oe, j0 ≤ e → ops[e]? = some oe → sk e = false → isEff oe.op = true → ordB bs rd.at_ e = false → rd.ok (tH (e + 1))
theorem read_not_eff {ρ : Operand → Value} {op : Op} {f : AH → Option Value} (h : opRead P ρ op = some f) : isEff op = false := by
  cases op <;> first | rfl | (simp [opRead] at h; done)
theorem alloc_not_eff {op : Op} (h : isAlloc op = true) : isEff op = false := by
  cases op <;> first | rfl | (simp [isAlloc] at h; done)
theorem tr_cons {ops : Array Oper} {bs : List Nat} {j0 : Nat} {o : Oper} (ho : ops[j0]? = some o) {T : List Value} {H H1 : AH} {v : Value} {s : Bool} {tT : Nat → List Value} {tH : Nat → AH} {sk : Nat → Bool} {vl : Nat → Value}
    (h0 : tT (j0 + 1) = putT T o.dst v) (h1 : tH (j0 + 1) = H1) (X : Tr P call ops bs (j0 + 1) tT tH sk vl)
    (hskip : s = true → (∃ g want, o.guard = some (g, want) ∧ Off (yieldV ops T g) want) ∧ v = undef ∧ H1 = H)
    (hgo : s = false → o.guard = none ∨ ∃ g want, o.guard = some (g, want) ∧ yieldV ops T g = .bool want)
    (hread : ∀ f, s = false → opRead P (opv T) o.op = some f → f H = some v ∧ H1 = H)
    (hother : s = false → opRead P (opv T) o.op = none → aRes P call (opv T) o.op H = some (v, H1))
    (hpast : s = false → isEff o.op = true → ∀ j p f, j0 + 1 ≤ j → ops[j]? = some p → sk j = false → opRead P (opv (tT j)) p.op = some f → ordB bs j0 j = false → f H = some (vl j))
    (hfutR : ∀ f, s = false → opRead P (opv T) o.op = some f → ∀ e oe, j0 + 1 ≤ e → ops[e]? = some oe → sk e = false → isEff oe.op = true → ordB bs j0 e = false → f (tH (e + 1)) = some v)
    (hfutA : s = false → opRead P (opv T) o.op = none → isAlloc o.op = true → ∀ e oe, j0 + 1 ≤ e → ops[e]? = some oe → sk e = false → isEff oe.op = true → ordB bs j0 e = false → blk (tH (e + 1)) H.length = blk H1 H.length) :
    Tr P call ops bs j0 (fun i => if i = j0 then T else tT i) (fun i => if i = j0 then H else tH i) (fun i => if i = j0 then s else sk i) (fun i => if i = j0 then v else vl i) := by
  have hne : ∀ {j}, j0 ≤ j → j ≠ j0 → j0 + 1 ≤ j := fun h1 h2 => by omega
  refine ⟨?_, ?_, ?_, ?_, ?_, ?_, ?_, ?_⟩
  · intro j p hj hp
    rw [if_neg (show j + 1 ≠ j0 by omega)]
    by_cases hjj : j = j0
    · subst hjj; rw [ho] at hp; cases hp; simp only [if_true]; exact h0
    · simp only [if_neg hjj]; exact X.step j p (hne hj hjj) hp
  · intro j p hj hp hs
    rw [if_neg (show j + 1 ≠ j0 by omega)]
    by_cases hjj : j = j0
    · subst hjj; rw [ho] at hp; cases hp; simp only [if_true] at hs ⊢; rw [h1]; exact hskip hs
    · simp only [if_neg hjj] at hs ⊢; exact X.skip j p (hne hj hjj) hp hs
  · intro j p hj hp hs
    by_cases hjj : j = j0
    · subst hjj; rw [ho] at hp; cases hp; simp only [if_true] at hs ⊢; exact hgo hs
    · simp only [if_neg hjj] at hs ⊢; exact X.go j p (hne hj hjj) hp hs
  · intro j p f hj hp hs hf
    rw [if_neg (show j + 1 ≠ j0 by omega)]
    by_cases hjj : j = j0
    · subst hjj; rw [ho] at hp; cases hp; simp only [if_true] at hs hf ⊢; rw [h1]; exact hread f hs hf
    · simp only [if_neg hjj] at hs hf ⊢; exact X.read j p f (hne hj hjj) hp hs hf
  · intro j p hj hp hs hf
    rw [if_neg (show j + 1 ≠ j0 by omega)]
    by_cases hjj : j = j0
    · subst hjj; rw [ho] at hp; cases hp; simp only [if_true] at hs hf ⊢; rw [h1]; exact hother hs hf
    · simp only [if_neg hjj] at hs hf ⊢; exact X.other j p (hne hj hjj) hp hs hf
  · intro j p f e oe he hej hp hoe hs hse hef hf hord
    rw [if_neg (show j ≠ j0 by omega)] at hs hf ⊢
    by_cases hee : e = j0
    · subst hee; rw [ho] at hoe; cases hoe; simp only [if_true] at hse ⊢; exact hpast hse hef j p f (by omega) hp hs hf hord
    · simp only [if_neg hee] at hse ⊢; exact X.pastR j p f e oe (hne he hee) hej hp hoe hs hse hef hf hord
  · intro j p f e oe hj hje hp hoe hs hse hef hf hord
    rw [if_neg (show e ≠ j0 by omega)] at hse
    rw [if_neg (show e + 1 ≠ j0 by omega)]
    by_cases hjj : j = j0
    · subst hjj; rw [ho] at hp; cases hp; simp only [if_true] at hs hf ⊢; exact hfutR f hs hf e oe (by omega) hoe hse hef hord
    · simp only [if_neg hjj] at hs hf ⊢; exact X.futR j p f e oe (hne hj hjj) hje hp hoe hs hse hef hf hord
  · intro j p e oe hj hje hp hoe hs hse hef hf ha hord
    rw [if_neg (show e ≠ j0 by omega)] at hse
    rw [if_neg (show e + 1 ≠ j0 by omega), if_neg (show j + 1 ≠ j0 by omega)]
    by_cases hjj : j = j0
    · subst hjj; rw [ho] at hp; cases hp; simp only [if_true] at hs hf ⊢; rw [h1]; exact hfutA hs hf ha e oe (by omega) hoe hse hef hord
    · simp only [if_neg hjj] at hs hf ⊢; exact X.futA j p e oe (hne hj hjj) hje hp hoe hs hse hef hf ha hord
theorem trp_cons {ops : Array Oper} {bs : List Nat} {j0 : Nat} {o : Oper} (ho : ops[j0]? = some o) {T : List Value} {H H1 : AH} {v : Value} {s : Bool} {tT : Nat → List Value} {tH : Nat → AH} {sk : Nat → Bool} {vl : Nat → Value} {past : List (Nat × AH)} {reads : List Rd}
    (h1 : tH (j0 + 1) = H1)
    (hp : ∀ p ∈ past, (∀ j o f, j0 + 1 ≤ j → ops[j]? = some o → sk j = false → opRead P (opv (tT j)) o.op = some f → ordB bs p.1 j = false → f p.2 = some (vl j)) ∧ (∀ f, s = false → opRead P (opv T) o.op = some f → ordB bs p.1 j0 = false → f p.2 = some v))
    (hr : ∀ rd ∈ reads, (∀ e oe, j0 + 1 ≤ e → ops[e]? = some oe → sk e = false → isEff oe.op = true → ordB bs rd.at_ e = false → rd.ok (tH (e + 1))) ∧ (s = false → isEff o.op = true → ordB bs rd.at_ j0 = false → rd.ok H1)) :
    TrP P ops bs j0 (fun i => if i = j0 then T else tT i) (fun i => if i = j0 then H else tH i) (fun i => if i = j0 then s else sk i) (fun i => if i = j0 then v else vl i) past reads := by
  refine ⟨fun p hpp j q f hj hq hs hf hord => ?_, fun rd hrd e oe he hoe hs hef hord => ?_⟩
  · by_cases hjj : j = j0
    · subst hjj; rw [ho] at hq; cases hq; simp only [if_true] at hs hf ⊢; exact (hp p hpp).2 f hs hf hord
    · simp only [if_neg hjj] at hs hf ⊢; exact (hp p hpp).1 j q f (by omega) hq hs hf hord
  · rw [if_neg (show e + 1 ≠ j0 by omega)]
    by_cases hee : e = j0
    · subst hee; rw [ho] at hoe; cases hoe; simp only [if_true] at hs; rw [h1]; exact (hr rd hrd).2 hs hef hord
    · simp only [if_neg hee] at hs; exact (hr rd hrd).1 e oe (by omega) hoe hs hef hord
theorem evD_inv (ops : Array Oper) (bs : List Nat) {R : Type} {K : List Value → AH → Option R} {r : R} : ∀ (l : List Oper) (j0 : Nat) (T : List Value) (H : AH) (past : List (Nat × AH)) (reads : List Rd), (∀ j, l[j]? = ops[j0 + j]?) → evD P call ops bs l j0 T H past reads K = some r →
    ∃ tT tH sk vl, tT j0 = T ∧ tH j0 = H ∧ Tr P call ops bs j0 tT tH sk vl ∧ TrP P ops bs j0 tT tH sk vl past reads ∧ K (tT (j0 + l.length)) (tH (j0 + l.length)) = some r
  | [], j0, T, H, past, reads, hl, h => by
    have none_ : ∀ j, j0 ≤ j → ops[j]? = none := fun j hj => by have := hl (j - j0); rw [show j0 + (j - j0) = j by omega] at this; rw [← this]; rfl
    have no : ∀ {j : Nat} {o : Oper}, j0 ≤ j → ops[j]? = some o → False := fun hj ho => by rw [none_ _ hj] at ho; cases ho
    exact ⟨fun _ => T, fun _ => H, fun _ => false, fun _ => undef, rfl, rfl, ⟨fun j o hj ho => (no hj ho).elim, fun j o hj ho => (no hj ho).elim, fun j o hj ho => (no hj ho).elim, fun j o f hj ho => (no hj ho).elim, fun j o hj ho => (no hj ho).elim,
      fun j o f e oe he hej ho => (no (by omega) ho).elim, fun j o f e oe hj hje ho => (no hj ho).elim, fun j o e oe hj hje ho => (no hj ho).elim⟩, ⟨fun p _ j o f hj ho => (no hj ho).elim, fun rd _ e oe he hoe => (no he hoe).elim⟩, h⟩
  | o :: l, j0, T, H, past, reads, hl, h => by
    have ho : ops[j0]? = some o := by have := hl 0; simpa using this.symm
    have hl' : ∀ j, l[j]? = ops[j0 + 1 + j]? := fun j => by have := hl (j + 1); rw [show j0 + 1 + j = j0 + (j + 1) by omega]; simpa using this
    have hlen : j0 + (o :: l).length = j0 + 1 + l.length := by simp; omega
    -- passed over
    have fin_skip : ∀ (past' : List (Nat × AH)) (reads' : List Rd), (∀ p ∈ past, p ∈ past') → (∀ rd ∈ reads, rd ∈ reads') → evD P call ops bs l (j0 + 1) (putT T o.dst undef) H past' reads' K = some r → (∃ g want, o.guard = some (g, want) ∧ Off (yieldV ops T g) want) →
        ∃ tT tH sk vl, tT j0 = T ∧ tH j0 = H ∧ Tr P call ops bs j0 tT tH sk vl ∧ TrP P ops bs j0 tT tH sk vl past reads ∧ K (tT (j0 + (o :: l).length)) (tH (j0 + (o :: l).length)) = some r := by
      intro past' reads' hp' hr' hh hg
      obtain ⟨tT, tH, sk, vl, h0, h1, X, Y, hK⟩ := evD_inv ops bs l (j0 + 1) _ _ _ _ hl' hh
      refine ⟨_, _, _, _, if_pos rfl, if_pos rfl, tr_cons (s := true) (v := undef) ho h0 h1 X (fun _ => ⟨hg, rfl, rfl⟩) (fun hx => by cases hx) (fun f hx => by cases hx) (fun hx => by cases hx) (fun hx => by cases hx) (fun f hx => by cases hx) (fun hx => by cases hx),
        trp_cons ho h1 (fun p hp => ⟨Y.past p (hp' p hp), fun f hx => by cases hx⟩) (fun rd hrd => ⟨Y.reads rd (hr' rd hrd), fun hx => by cases hx⟩), ?_⟩
      rw [hlen]
      simp only [if_neg (show j0 + 1 + l.length ≠ j0 by omega)]
      exact hK
    have fin_read : ∀ (v : Value) (ok : AH → Prop) (f : AH → Option Value), opRead P (opv T) o.op = some f → f H = some v → (∀ X, ok X → f X = some v) → (o.guard = none ∨ ∃ g want, o.guard = some (g, want) ∧ yieldV ops T g = .bool want) → evD P call ops bs l (j0 + 1) (putT T o.dst v) H past (⟨j0, ok⟩ :: reads) K = some r →
        (∀ p ∈ past, ordB bs p.1 j0 = false → f p.2 = some v) → ∃ tT tH sk vl, tT j0 = T ∧ tH j0 = H ∧ Tr P call ops bs j0 tT tH sk vl ∧ TrP P ops bs j0 tT tH sk vl past reads ∧ K (tT (j0 + (o :: l).length)) (tH (j0 + (o :: l).length)) = some r := by
      intro v ok f hf hv hok hg hh hc
      obtain ⟨tT, tH, sk, vl, h0, h1, X, Y, hK⟩ := evD_inv ops bs l (j0 + 1) _ _ _ _ hl' hh
      have hne := read_not_eff hf
      refine ⟨_, _, _, _, if_pos rfl, if_pos rfl, tr_cons (s := false) (v := v) ho h0 h1 X (fun hx => by cases hx) (fun _ => hg) (fun f' _ hf' => ?_) (fun _ hx => by rw [hf] at hx; cases hx) (fun _ hx => by rw [hne] at hx; cases hx) (fun f' _ hf' e oe he hoe hse hef hord => ?_) (fun _ hx => by rw [hf] at hx; cases hx),
        trp_cons ho h1 (fun p hp => ⟨Y.past p hp, fun f' _ hf' hord => ?_⟩) (fun rd hrd => ⟨Y.reads rd (by simp [hrd]), fun _ hx => by rw [hne] at hx; cases hx⟩), ?_⟩
      · rw [hf] at hf'; cases hf'; exact ⟨hv, rfl⟩
      · rw [hf] at hf'; cases hf'; exact hok _ (Y.reads ⟨j0, ok⟩ (by simp) e oe he hoe hse hef hord)
      · rw [hf] at hf'; cases hf'; exact hc p hp hord
      · rw [hlen]
        simp only [if_neg (show j0 + 1 + l.length ≠ j0 by omega)]
        exact hK
    have fin_eff : ∀ (v : Value) (H1 : AH), opRead P (opv T) o.op = none → aRes P call (opv T) o.op H = some (v, H1) → isEff o.op = true → (o.guard = none ∨ ∃ g want, o.guard = some (g, want) ∧ yieldV ops T g = .bool want) → evD P call ops bs l (j0 + 1) (putT T o.dst v) H1 ((j0, H) :: past) reads K = some r →
        (∀ rd ∈ reads, ordB bs rd.at_ j0 = false → rd.ok H1) → ∃ tT tH sk vl, tT j0 = T ∧ tH j0 = H ∧ Tr P call ops bs j0 tT tH sk vl ∧ TrP P ops bs j0 tT tH sk vl past reads ∧ K (tT (j0 + (o :: l).length)) (tH (j0 + (o :: l).length)) = some r := by
      intro v H1 hf hv he hg hh hc
      obtain ⟨tT, tH, sk, vl, h0, h1, X, Y, hK⟩ := evD_inv ops bs l (j0 + 1) _ _ _ _ hl' hh
      refine ⟨_, _, _, _, if_pos rfl, if_pos rfl, tr_cons (s := false) (v := v) ho h0 h1 X (fun hx => by cases hx) (fun _ => hg) (fun f' _ hf' => by rw [hf] at hf'; cases hf') (fun _ _ => hv) (fun _ _ j p f hj hp hs hf hord => Y.past (j0, H) (by simp) j p f hj hp hs hf hord) (fun f' _ hf' => by rw [hf] at hf'; cases hf') (fun _ _ hx => by rw [alloc_not_eff hx] at he; cases he),
        trp_cons ho h1 (fun p hp => ⟨Y.past p (by simp [hp]), fun f' _ hf' => by rw [hf] at hf'; cases hf'⟩) (fun rd hrd => ⟨Y.reads rd hrd, fun _ _ hord => hc rd hrd hord⟩), ?_⟩
      rw [hlen]
      simp only [if_neg (show j0 + 1 + l.length ≠ j0 by omega)]
      exact hK
    have fin_alloc : ∀ (v : Value) (H1 : AH) (ok : AH → Prop), (∀ X, ok X → blk X H.length = blk H1 H.length) → opRead P (opv T) o.op = none → aRes P call (opv T) o.op H = some (v, H1) → isEff o.op = false → (o.guard = none ∨ ∃ g want, o.guard = some (g, want) ∧ yieldV ops T g = .bool want) → evD P call ops bs l (j0 + 1) (putT T o.dst v) H1 past (⟨j0, ok⟩ :: reads) K = some r → ∃ tT tH sk vl, tT j0 = T ∧ tH j0 = H ∧ Tr P call ops bs j0 tT tH sk vl ∧ TrP P ops bs j0 tT tH sk vl past reads ∧ K (tT (j0 + (o :: l).length)) (tH (j0 + (o :: l).length)) = some r := by
      intro v H1 ok hok hf hv he hg hh
      obtain ⟨tT, tH, sk, vl, h0, h1, X, Y, hK⟩ := evD_inv ops bs l (j0 + 1) _ _ _ _ hl' hh
      refine ⟨_, _, _, _, if_pos rfl, if_pos rfl, tr_cons (s := false) (v := v) ho h0 h1 X (fun hx => by cases hx) (fun _ => hg) (fun f' _ hf' => by rw [hf] at hf'; cases hf') (fun _ _ => hv) (fun _ hx => by rw [he] at hx; cases hx) (fun f' _ hf' => by rw [hf] at hf'; cases hf') (fun _ _ _ e oe hee hoe hse hef hord => hok _ (Y.reads ⟨j0, ok⟩ (by simp) e oe hee hoe hse hef hord)),
        trp_cons ho h1 (fun p hp => ⟨Y.past p hp, fun f' _ hf' => by rw [hf] at hf'; cases hf'⟩) (fun rd hrd => ⟨Y.reads rd (by simp [hrd]), fun _ hx => by rw [he] at hx; cases hx⟩), ?_⟩
      rw [hlen]
      simp only [if_neg (show j0 + 1 + l.length ≠ j0 by omega)]
      exact hK
    have fin_pure : ∀ (v : Value) (H1 : AH), opRead P (opv T) o.op = none → aRes P call (opv T) o.op H = some (v, H1) → isEff o.op = false → isAlloc o.op = false → (o.guard = none ∨ ∃ g want, o.guard = some (g, want) ∧ yieldV ops T g = .bool want) → evD P call ops bs l (j0 + 1) (putT T o.dst v) H1 past reads K = some r → ∃ tT tH sk vl, tT j0 = T ∧ tH j0 = H ∧ Tr P call ops bs j0 tT tH sk vl ∧ TrP P ops bs j0 tT tH sk vl past reads ∧ K (tT (j0 + (o :: l).length)) (tH (j0 + (o :: l).length)) = some r := by
      intro v H1 hf hv he ha hg hh
      obtain ⟨tT, tH, sk, vl, h0, h1, X, Y, hK⟩ := evD_inv ops bs l (j0 + 1) _ _ _ _ hl' hh
      refine ⟨_, _, _, _, if_pos rfl, if_pos rfl, tr_cons (s := false) (v := v) ho h0 h1 X (fun hx => by cases hx) (fun _ => hg) (fun f' _ hf' => by rw [hf] at hf'; cases hf') (fun _ _ => hv) (fun _ hx => by rw [he] at hx; cases hx) (fun f' _ hf' => by rw [hf] at hf'; cases hf') (fun _ _ hx => by rw [ha] at hx; cases hx),
        trp_cons ho h1 (fun p hp => ⟨Y.past p hp, fun f' _ hf' => by rw [hf] at hf'; cases hf'⟩) (fun rd hrd => ⟨Y.reads rd hrd, fun _ hx => by rw [he] at hx; cases hx⟩), ?_⟩
      rw [hlen]
      simp only [if_neg (show j0 + 1 + l.length ≠ j0 by omega)]
      exact hK
    unfold evD at h
    cases hg : o.guard with
    | none =>
      rw [hg] at h
      simp only at h
      split at h
      · rename_i f hf
        obtain ⟨v, hv, hh⟩ := bind_some h
        obtain ⟨hh, hc⟩ := chkPast_inv past hh
        exact fin_read v _ f hf hv (fun X hX => hX) (.inl hg) hh hc
      · rename_i hf
        rw [aOp_res] at h
        obtain ⟨⟨v, H1⟩, hv, hh⟩ := bind_some h
        simp only at hh
        cases he : isEff o.op with
        | true =>
          rw [he] at hh
          obtain ⟨hh, hc⟩ := chkReads_inv reads hh
          exact fin_eff v H1 hf hv he (.inl hg) hh hc
        | false =>
          rw [he] at hh
          cases ha : isAlloc o.op with
          | true => rw [ha] at hh; exact fin_alloc v H1 _ (fun X hX => hX) hf hv he (.inl hg) hh
          | false => rw [ha] at hh; exact fin_pure v H1 hf hv he ha (.inl hg) hh
    | some q =>
      obtain ⟨g, want⟩ := q
      rw [hg] at h
      simp only at h
      split at h
      · rename_i f hf
        obtain ⟨p, hp, hh⟩ := bind_some h
        obtain ⟨hh, hc⟩ := chkPast_inv past hh
        rcases gOp_inv hp with ⟨hu, h5⟩ | ⟨hu, rfl⟩
        · obtain ⟨v, hv, h6⟩ := bind_some h5
          cases h6
          exact fin_read v _ f hf hv (fun X hX => hX hu) (.inr ⟨g, want, hg, hu⟩) hh (fun p hp hord => hc p hp hord hu)
        · exact fin_skip _ _ (fun p hp => hp) (fun rd hrd => by simp [hrd]) hh ⟨g, want, hg, hu⟩
      · rename_i hf
        obtain ⟨⟨v, H1⟩, hp, hh⟩ := bind_some h
        simp only at hh
        rcases gOp_inv hp with ⟨hu, h5⟩ | ⟨hu, h5⟩
        · cases he : isEff o.op with
          | true =>
            rw [he] at hh
            obtain ⟨hh, hc⟩ := chkReads_inv reads hh
            exact fin_eff v H1 hf h5 he (.inr ⟨g, want, hg, hu⟩) hh hc
          | false =>
            rw [he] at hh
            cases ha : isAlloc o.op with
            | true => rw [ha] at hh; exact fin_alloc v H1 _ (fun X hX => hX hu) hf h5 he (.inr ⟨g, want, hg, hu⟩) hh
            | false => rw [ha] at hh; exact fin_pure v H1 hf h5 he ha (.inr ⟨g, want, hg, hu⟩) hh
        · cases h5
          cases he : isEff o.op with
          | true =>
            rw [he] at hh
            obtain ⟨hh, hc⟩ := chkReads_inv reads hh
            exact fin_skip _ _ (fun p hp => by simp [hp]) (fun rd hrd => hrd) hh ⟨g, want, hg, hu⟩
          | false =>
            rw [he] at hh
            cases ha : isAlloc o.op with
            | true => rw [ha] at hh; exact fin_skip _ _ (fun p hp => hp) (fun rd hrd => by simp [hrd]) hh ⟨g, want, hg, hu⟩
            | false => rw [ha] at hh; exact fin_skip _ _ (fun p hp => hp) (fun rd hrd => hrd) hh ⟨g, want, hg, hu⟩
end
end Go.AM
set_option linter.unusedVariables false
set_option linter.unusedSimpArgs false
namespace Go.AM
open Go.RowKit

section
variable {P : Program} {call : CallF}

def cutM (m : Mp) (l : Nat) : Mp := fun b => if b < l then m b else none
theorem cutM_some {m : Mp} {l b : Nat} {L : Loc} (h : cutM m l b = some L) : b < l ∧ m b = some L := by
  unfold cutM at h
  split at h
  · rename_i hb; exact ⟨hb, h⟩
  · cases h
theorem cutM_of {m : Mp} {l b : Nat} {L : Loc} (h : b < l) (hm : m b = some L) : cutM m l b = some L := by rw [cutM, if_pos h, hm]
/-- All that a value leads to lies below l. -/
def Bel (l : Nat) (x : Value) : Prop := ∃ (mm : Mp) (y : Value), VRel mm x y ∧ ∀ b L, mm b = some L → b < l
theorem Bel.list {l : Nat} {mm : Mp} {xs ys : List Value} (h : LRel mm xs ys) (hb : ∀ b L, mm b = some L → b < l) : ∀ (i : Nat) (x : Value), xs[i]? = some x → Bel l x := by
  intro i x hx
  have hlt := (List.getElem?_eq_some_iff.1 hx).1
  have hy := List.getElem?_eq_getElem (show i < ys.length by rw [← h.1]; exact hlt)
  exact ⟨mm, _, h.2 i x _ hx hy, hb⟩
theorem VRel.cutB {m : Mp} {l : Nat} {x y : Value} (h : VRel m x y) : Bel l x → VRel (cutM m l) x y := by
  induction h with
  | unk v => intro _; exact .unk v
  | flat v hf => intro _; exact .flat v hf
  | ptr b off L hm =>
    intro hb
    obtain ⟨mm, y, hr, hl⟩ := hb
    obtain ⟨L', h1, _⟩ := hr.ptr_inv
    exact .ptr b off L (cutM_of (hl _ _ h1) hm)
  | slice b off off' len cap cap' L hm h1 h2 h3 h4 h5 h7 =>
    intro hb
    obtain ⟨mm, y, hr, hl⟩ := hb
    obtain ⟨L', _, _, h6, _⟩ := hr.slice_inv
    exact .slice b off off' len cap cap' L (cutM_of (hl _ _ h6) hm) h1 h2 h3 h4 h5 h7
  | agg xs ys hs _ ih =>
    intro hb
    obtain ⟨mm, y, hr, hl⟩ := hb
    obtain ⟨zs, rfl, hlr⟩ := hr.agg_inv
    exact .agg xs ys hs fun i x y hx hy => ih i x y hx hy (Bel.list hlr hl i x (by simpa using hx))
  | tuple xs ys hs _ ih =>
    intro hb
    obtain ⟨mm, y, hr, hl⟩ := hb
    obtain ⟨zs, rfl, hlr⟩ := hr.tuple_inv
    exact .tuple xs ys hs fun i x y hx hy => ih i x y hx hy (Bel.list hlr hl i x (by simpa using hx))
  | func f a b a' b' h1 _ h2 _ ih1 ih2 =>
    intro hb
    obtain ⟨mm, y, hr, hl⟩ := hb
    have hsp : LRel mm a.toList (match y with | .func _ u _ => u.toList | _ => []) ∧ LRel mm b.toList (match y with | .func _ _ u => u.toList | _ => []) := by
      cases hr with
      | flat v hf => simp [flat1] at hf
      | func f a b a' b' h1 h2 h3 h4 => exact ⟨⟨by simpa using h1, fun i x y hx hy => h2 i x y (by simpa using hx) (by simpa using hy)⟩, ⟨by simpa using h3, fun i x y hx hy => h4 i x y (by simpa using hx) (by simpa using hy)⟩⟩
    exact .func f a b a' b' h1 (fun i x y hx hy => ih1 i x y hx hy (Bel.list hsp.1 hl i x (by simpa using hx))) h2 (fun i x y hx hy => ih2 i x y hx hy (Bel.list hsp.2 hl i x (by simpa using hx)))
/-- What holds behind an operation whatever it comes to, holds. -/
theorem wp_const {o : Oper} {a : Act} {w : World} {C : Prop} (h : o.wp P a w (fun _ _ => C) (fun _ _ _ => C)) : C := by
  unfold Oper.wp at h
  generalize (execOp a.eval o).run P w = res at h
  cases res with
  | halt hh w' => cases hh <;> simp only [Oper.upon] at h <;> exact h
  | ok n w' =>
    cases n <;> simp only [Oper.upon] at h
    case enter f args =>
      obtain ⟨e, w'', fr, hR, _⟩ := h []
      cases e with
      | returned v => exact hR
      | panicked c => exact hR
      | outgrown => obtain ⟨_, _, hc⟩ := hR; exact hc
    case row row args =>
      obtain ⟨v, w'', hR, _⟩ := h default []
      exact hR
    all_goals exact h
theorem read_res {ρ : Operand → Value} {op : Op} {f : AH → Option Value} (hf : opRead P ρ op = some f) (H : AH) : aRes P call ρ op H = (f H).bind fun v => some (v, H) := by
  unfold opRead at hf
  split at hf
  · cases hf; rfl
  · rename_i s d x
    cases hb : isBytesToString P s d with
    | true => rw [hb] at hf; cases hf; unfold aRes; simp only [aOp, hb, cond_true]
    | false => rw [hb] at hf; cases hf
  · cases hf
section
variable {ops : Array Oper} {bs : List Nat} {tT : Nat → List Value} {tH : Nat → AH} {sk : Nat → Bool} {vl : Nat → Value}
theorem Tr.res (X : Tr P call ops bs 0 tT tH sk vl) {j : Nat} {o : Oper} (ho : ops[j]? = some o) (hs : sk j = false) : aRes P call (opv (tT j)) o.op (tH j) = some (vl j, tH (j + 1)) := by
  cases hf : opRead P (opv (tT j)) o.op with
  | none => exact X.other j o (Nat.zero_le _) ho hs hf
  | some f =>
    obtain ⟨h1, h2⟩ := X.read j o f (Nat.zero_le _) ho hs hf
    rw [read_res hf, h1, h2]
    rfl
/-- The text's own order can be walked. -/
theorem Tr.walk (hcall : CallOK P call) (X : Tr P call ops bs 0 tT tH sk vl) {B0 : Nat} {w0 : World} {m : Mp} {a : Act} {w : World} (R0 : Rel P B0 w0 m (tH 0) w) (hT : LRel m (tT 0) a.tmps.toList) :
    ∀ j, j ≤ ops.size → ∃ (m' : Mp) (a' : Act) (w' : World), Ext m (tH 0) w m' (tH j) w' ∧ Rel P B0 w0 m' (tH j) w' ∧ LRel m' (tT j) a'.tmps.toList
  | 0, _ => ⟨m, a, w, Ext.refl _ _ _, R0, hT⟩
  | j + 1, hj => by
    obtain ⟨m1, a1, w1, E1, R1, T1⟩ := Tr.walk hcall X R0 hT j (by omega)
    have ho : ops[j]? = some ops[j] := Array.getElem?_eq_getElem (by omega)
    cases hs : sk j with
    | true =>
      obtain ⟨_, h2, h3⟩ := X.skip j _ (Nat.zero_le _) ho hs
      rw [X.step j _ (Nat.zero_le _) ho, h2, h3]
      exact ⟨m1, a1.put ops[j].dst undef, w1, E1, R1, put_rel T1 _ (VRel.undef _)⟩
    | false =>
      have h1 := res_sound hcall (X.res ho hs) R1 T1
      refine wp_const (h1 (fun _ _ => _) (fun _ _ _ => _) fun m' v' w' E R' hv => ?_)
      rw [X.step j _ (Nat.zero_le _) ho]
      exact ⟨m', a1.put ops[j].dst v', w', Ext.trans (fun b L hb => (R0.dom b L hb).1) E1 E, R', put_rel (T1.mono E.mono) _ hv⟩
/-- From one step to the next. -/
theorem Tr.next (hcall : CallOK P call) (X : Tr P call ops bs 0 tT tH sk vl) {B0 : Nat} {w0 : World} {m : Mp} {a : Act} {w : World} (R0 : Rel P B0 w0 m (tH 0) w) (hT : LRel m (tT 0) a.tmps.toList) {j : Nat} (hj : j < ops.size) :
    (tH j).length ≤ (tH (j + 1)).length ∧ ∀ b k', b < (tH j).length → blk (tH (j + 1)) b = some k' → ∃ k, blk (tH j) b = some k ∧ k.kind = k'.kind := by
  obtain ⟨m1, a1, w1, E1, R1, T1⟩ := X.walk hcall R0 hT j (by omega)
  have ho : ops[j]? = some ops[j] := Array.getElem?_eq_getElem (by omega)
  cases hs : sk j with
  | true =>
    obtain ⟨_, _, h3⟩ := X.skip j _ (Nat.zero_le _) ho hs
    rw [h3]
    exact ⟨Nat.le_refl _, fun b k' _ hk => ⟨k', hk, rfl⟩⟩
  | false =>
    have h1 := res_sound hcall (X.res ho hs) R1 T1
    exact wp_const (h1 (fun _ _ => _) (fun _ _ _ => _) fun m' v' w' E R' hv => ⟨E.len, E.alive⟩)
theorem Tr.bel (hcall : CallOK P call) (X : Tr P call ops bs 0 tT tH sk vl) {B0 : Nat} {w0 : World} {m : Mp} {a : Act} {w : World} (R0 : Rel P B0 w0 m (tH 0) w) (hT : LRel m (tT 0) a.tmps.toList) {j : Nat} (hj : j ≤ ops.size) (s : Nat) (x : Value) (hx : (tT j)[s]? = some x) :
    Bel (tH j).length x := by
  obtain ⟨m1, a1, w1, E1, R1, T1⟩ := X.walk hcall R0 hT j hj
  exact Bel.list T1 (fun b L hb => (R1.dom b L hb).1) s x hx
theorem Tr.lens (hcall : CallOK P call) (X : Tr P call ops bs 0 tT tH sk vl) {B0 : Nat} {w0 : World} {m : Mp} {a : Act} {w : World} (R0 : Rel P B0 w0 m (tH 0) w) (hT : LRel m (tT 0) a.tmps.toList) (i : Nat) : ∀ d, i + d ≤ ops.size → (tH i).length ≤ (tH (i + d)).length ∧ ∀ b k', b < (tH i).length → blk (tH (i + d)) b = some k' → ∃ k, blk (tH i) b = some k ∧ k.kind = k'.kind
  | 0, _ => ⟨Nat.le_refl _, fun b k' _ hk => ⟨k', hk, rfl⟩⟩
  | d + 1, hd => by
    obtain ⟨h1, h2⟩ := Tr.lens hcall X R0 hT i d (by omega)
    obtain ⟨h3, h4⟩ := X.next hcall R0 hT (j := i + d) (by omega)
    refine ⟨Nat.le_trans h1 h3, fun b k' hb hk => ?_⟩
    obtain ⟨k1, h5, h6⟩ := h4 b k' (Nat.lt_of_lt_of_le hb h1) hk
    obtain ⟨k2, h7, h8⟩ := h2 b k1 hb h5
    exact ⟨k2, h7, h8.trans h6⟩
/-- An acting operation that is done. -/
def eE (ops : Array Oper) (sk : Nat → Bool) (j : Nat) : Bool := (ops[j]?).any (fun o => isEff o.op) && !sk j
/-- An operation that doesn't act leaves the blocks that there are; if it makes one, it is told which. -/
theorem Tr.noeff (X : Tr P call ops bs 0 tT tH sk vl) {j : Nat} (hj : j < ops.size) (he : eE ops sk j = false) : (tH (j + 1) = tH j) ∨ ∃ k : Blk, k.kind = .fix ∧ tH (j + 1) = tH j ++ [some k] := by
  have ho : ops[j]? = some ops[j] := Array.getElem?_eq_getElem (by omega)
  cases hs : sk j with
  | true => exact .inl (X.skip j _ (Nat.zero_le _) ho hs).2.2
  | false =>
    have heff : isEff ops[j].op = false := by simpa [eE, ho, hs] using he
    cases hf : opRead P (opv (tT j)) ops[j].op with
    | some f => exact .inl (X.read j _ f (Nat.zero_le _) ho hs hf).2
    | none =>
      have h1 := X.other j _ (Nat.zero_le _) ho hs hf
      cases ha : isAlloc ops[j].op with
      | true => obtain ⟨k, h2, h3, _⟩ := alloc_res ha h1; exact .inr ⟨k, h2.1, h3⟩
      | false => exact .inl (pure_res heff hf ha h1).1
theorem blk_app_old {H : AH} {b : Nat} (k : Option Blk) (h : b < H.length) : blk (H ++ [k]) b = blk H b := by
  unfold blk
  rw [List.getElem?_append_left h]
theorem Tr.same (X : Tr P call ops bs 0 tT tH sk vl) (i : Nat) : ∀ d, i + d ≤ ops.size → (∀ e, i ≤ e → e < i + d → eE ops sk e = false) → (tH i).length ≤ (tH (i + d)).length ∧ ∀ b, b < (tH i).length → blk (tH (i + d)) b = blk (tH i) b
  | 0, _, _ => ⟨Nat.le_refl _, fun b _ => rfl⟩
  | d + 1, hd, he => by
    obtain ⟨h1, h2⟩ := Tr.same X i d (by omega) fun e h1 h2 => he e h1 (by omega)
    rcases X.noeff (j := i + d) (by omega) (he (i + d) (by omega) (by omega)) with h3 | ⟨k, _, h3⟩
    · rw [show i + (d + 1) = i + d + 1 by omega, h3]; exact ⟨h1, h2⟩
    · rw [show i + (d + 1) = i + d + 1 by omega, h3]
      exact ⟨by simp; omega, fun b hb => by rw [blk_app_old _ (Nat.lt_of_lt_of_le hb h1)]; exact h2 b hb⟩
end
end
end Go.AM
