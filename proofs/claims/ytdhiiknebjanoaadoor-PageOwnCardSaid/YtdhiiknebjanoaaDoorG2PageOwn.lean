/-
  Facts of the abstract evaluator and of the functions that the law reaches, part 2. Conditions: none.
-/
import Derived.ProofKit
import Derived.Deep.Slices
import Derived.DataElems
import Derived.DataReads
import Derived.ChangeArms
import Derived.ChangeSame
import Derived.Test.YtdhiiknebjanoaaDoorG1PageOwn
set_option linter.unusedVariables false
set_option linter.unusedSimpArgs false
set_option linter.unnecessarySimpa false
set_option exponentiation.threshold 200000
set_option maxRecDepth 100000
set_option linter.unusedVariables false
set_option linter.unusedSimpArgs false
set_option maxRecDepth 100000
namespace Go.AM.O
open Go Go.AM Go.Proofs
attribute [local irreducible] run bin un ld st box newV mkS fldA fld ixA ix slc slc3 build buildS cv cvS ap cpy lenV gOp pickV b2 aIf aChk evalK resume iterD Option.bind

section
variable {H : AH}
theorem right_loop : ∀ (m : Nat) (s : List UInt8), s.length = m → s.length < 9223372036854775808 →
    Ev (fun k n => f32_L0 k (str s) (u8 0) n H) (fun o => ∃ w : List UInt8, o = (.exit 0, f32_X_L0 (str w), H) ∧ w.length ≤ s.length ∧ ((∀ c ∈ s, c = 0) ↔ ∀ c ∈ w, c = 0)) := by
  intro m
  induction m with
  | zero =>
    intro s hs hl
    refine Ev.succ (fun k n => f32_L0_succ k _ _ n H) ?_
    repeat (first | refine Ev.s ?_ | refine Ev.newC fun _ _ _ => ?_ | refine Ev.boxC fun _ _ _ => ?_ | refine Ev.stC fun _ _ => ?_ | refine Ev.sc (by omega) ?_ | refine Ev.scg (by omega) ?_)
    rw [decide_eq_false (by omega)]
    repeat (first | refine Ev.s ?_ | refine Ev.newC fun _ _ _ => ?_ | refine Ev.boxC fun _ _ _ => ?_ | refine Ev.stC fun _ _ => ?_ | refine Ev.sc (by omega) ?_ | refine Ev.scg (by omega) ?_)
    exact Ev.ret ⟨s, rfl, Nat.le_refl _, Iff.rfl⟩
  | succ m ih =>
    intro s hs hl
    refine Ev.succ (fun k n => f32_L0_succ k _ _ n H) ?_
    repeat (first | refine Ev.s ?_ | refine Ev.newC fun _ _ _ => ?_ | refine Ev.boxC fun _ _ _ => ?_ | refine Ev.stC fun _ _ => ?_ | refine Ev.sc (by omega) ?_ | refine Ev.scg (by omega) ?_)
    rw [decide_eq_true (by omega)]
    repeat (first | refine Ev.s ?_ | refine Ev.newC fun _ _ _ => ?_ | refine Ev.boxC fun _ _ _ => ?_ | refine Ev.stC fun _ _ => ?_ | refine Ev.sc (by omega) ?_ | refine Ev.scg (by omega) ?_)
    refine Ev.gPrim (ix_str (s.length - 1) rfl (by omega)) rfl ?_
    repeat (first | refine Ev.s ?_ | refine Ev.newC fun _ _ _ => ?_ | refine Ev.boxC fun _ _ _ => ?_ | refine Ev.stC fun _ _ => ?_ | refine Ev.sc (by omega) ?_ | refine Ev.scg (by omega) ?_)
    by_cases h0 : (s.getD (s.length - 1) 0).toNat = 0
    · rw [decide_eq_true h0]
      repeat (first | refine Ev.s ?_ | refine Ev.newC fun _ _ _ => ?_ | refine Ev.boxC fun _ _ _ => ?_ | refine Ev.stC fun _ _ => ?_ | refine Ev.sc (by omega) ?_ | refine Ev.scg (by omega) ?_)
      refine Ev.prim (slc_strT (l := s) (i := s.length - 1) (by omega)) ?_
      refine (ih (s.take (s.length - 1)) (by rw [List.length_take]; omega) (by rw [List.length_take]; omega)).mono ?_
      rintro o ⟨w, h1, h2, h3⟩
      refine ⟨w, h1, by rw [List.length_take] at h2; omega, Iff.trans ?_ h3⟩
      have e : s = s.take (s.length - 1) ++ [s.getD (s.length - 1) 0] := by
        conv => lhs; rw [← List.take_append_drop (s.length - 1) s]
        rw [drop_getD (by omega), List.drop_of_length_le (by omega)]
      have h00 : s.getD (s.length - 1) 0 = 0 := UInt8.toNat_inj.1 h0
      rw [h00] at e
      constructor
      · intro h c hc
        exact h c (List.mem_of_mem_take hc)
      · intro h c hc
        rw [e] at hc
        rcases List.mem_append.1 hc with hc | hc
        · exact h c hc
        · simpa using hc
    · rw [decide_eq_false h0]
      repeat (first | refine Ev.s ?_ | refine Ev.newC fun _ _ _ => ?_ | refine Ev.boxC fun _ _ _ => ?_ | refine Ev.stC fun _ _ => ?_ | refine Ev.sc (by omega) ?_ | refine Ev.scg (by omega) ?_)
      exact Ev.ret ⟨s, rfl, Nat.le_refl _, Iff.rfl⟩
theorem left_loop : ∀ (m : Nat) (s : List UInt8), s.length = m → s.length < 9223372036854775808 →
    Ev (fun k n => f31_L0 k (str s) (u8 0) n H) (fun o => ∃ w : List UInt8, o = (.exit 0, f31_X_L0 (str w), H) ∧ ((∀ c ∈ s, c = 0) ↔ w = [])) := by
  intro m
  induction m with
  | zero =>
    intro s hs hl
    refine Ev.succ (fun k n => f31_L0_succ k _ _ n H) ?_
    repeat (first | refine Ev.s ?_ | refine Ev.newC fun _ _ _ => ?_ | refine Ev.boxC fun _ _ _ => ?_ | refine Ev.stC fun _ _ => ?_ | refine Ev.sc (by omega) ?_ | refine Ev.scg (by omega) ?_)
    rw [decide_eq_false (by omega)]
    repeat (first | refine Ev.s ?_ | refine Ev.newC fun _ _ _ => ?_ | refine Ev.boxC fun _ _ _ => ?_ | refine Ev.stC fun _ _ => ?_ | refine Ev.sc (by omega) ?_ | refine Ev.scg (by omega) ?_)
    obtain rfl := List.length_eq_zero_iff.1 hs
    exact Ev.ret ⟨[], rfl, by simp⟩
  | succ m ih =>
    intro s hs hl
    refine Ev.succ (fun k n => f31_L0_succ k _ _ n H) ?_
    repeat (first | refine Ev.s ?_ | refine Ev.newC fun _ _ _ => ?_ | refine Ev.boxC fun _ _ _ => ?_ | refine Ev.stC fun _ _ => ?_ | refine Ev.sc (by omega) ?_ | refine Ev.scg (by omega) ?_)
    rw [decide_eq_true (by omega)]
    repeat (first | refine Ev.s ?_ | refine Ev.newC fun _ _ _ => ?_ | refine Ev.boxC fun _ _ _ => ?_ | refine Ev.stC fun _ _ => ?_ | refine Ev.sc (by omega) ?_ | refine Ev.scg (by omega) ?_)
    match s, hs, hl with
    | c :: r, hs, hl =>
      refine Ev.gPrim (show ix Tryd.prog 9 (str (c :: r)) (.int .i64 0) = some (u8 c.toNat) from ix_str (l := c :: r) 0 rfl (by simp)) rfl ?_
      repeat (first | refine Ev.s ?_ | refine Ev.newC fun _ _ _ => ?_ | refine Ev.boxC fun _ _ _ => ?_ | refine Ev.stC fun _ _ => ?_ | refine Ev.sc (by omega) ?_ | refine Ev.scg (by omega) ?_)
      by_cases h0 : c.toNat = 0
      · rw [decide_eq_true h0]
        repeat (first | refine Ev.s ?_ | refine Ev.newC fun _ _ _ => ?_ | refine Ev.boxC fun _ _ _ => ?_ | refine Ev.stC fun _ _ => ?_ | refine Ev.sc (by omega) ?_ | refine Ev.scg (by omega) ?_)
        refine Ev.prim (show slc Tryd.prog 9 (str (c :: r)) (some (.int .i64 1)) none = some (str r) from slc_str (l := c :: r) 1 rfl (by simp)) ?_
        simp only [List.length_cons] at hs hl
        refine (ih r (by omega) (by omega)).mono ?_
        rintro o ⟨w, h1, h3⟩
        refine ⟨w, h1, Iff.trans ?_ h3⟩
        have h00 : c = 0 := UInt8.toNat_inj.1 h0
        subst h00
        simp
      · rw [decide_eq_false h0]
        repeat (first | refine Ev.s ?_ | refine Ev.newC fun _ _ _ => ?_ | refine Ev.boxC fun _ _ _ => ?_ | refine Ev.stC fun _ _ => ?_ | refine Ev.sc (by omega) ?_ | refine Ev.scg (by omega) ?_)
        refine Ev.ret ⟨c :: r, rfl, ?_⟩
        constructor
        · intro h
          exact absurd (by rw [h c (.head _)]; rfl) h0
        · intro h; cases h
theorem Trim_spec {s : List UInt8} (hl : s.length < 9223372036854775808) : Ev (fun k _ => rn k 21 [str s, str [0]] H) (fun r => ∃ w, r = (str w, H) ∧ ((∀ c ∈ s, c = 0) ↔ w = [])) := by
  refine Ev.fn (fun k => f21_eq k _ _ H) ?_
  by_cases hs : s = []
  · subst hs
    refine Ev.prim (show bin Tryd.prog .eql 9 (str []) (.string ⟨#[]⟩) = some (.bool true) from eql_str.trans (by simp)) ?_
    repeat (first | refine Ev.s ?_ | refine Ev.newC fun _ _ _ => ?_ | refine Ev.boxC fun _ _ _ => ?_ | refine Ev.stC fun _ _ => ?_ | refine Ev.sc (by omega) ?_ | refine Ev.scg (by omega) ?_)
    exact Ev.ret ⟨[], rfl, by simp⟩
  · refine Ev.prim (show bin Tryd.prog .eql 9 (str s) (.string ⟨#[]⟩) = some (.bool false) from (eql_str (b := [])).trans (by simp [hs])) ?_
    repeat (first | refine Ev.s ?_ | refine Ev.newC fun _ _ _ => ?_ | refine Ev.boxC fun _ _ _ => ?_ | refine Ev.stC fun _ _ => ?_ | refine Ev.sc (by omega) ?_ | refine Ev.scg (by omega) ?_)
    rw [decide_eq_false (by simp)]
    repeat (first | (first | refine Ev.s ?_ | refine Ev.newC fun _ _ _ => ?_ | refine Ev.boxC fun _ _ _ => ?_ | refine Ev.stC fun _ _ => ?_ | refine Ev.sc (by omega) ?_ | refine Ev.scg (by omega) ?_) | rw [decide_eq_true (by omega)] | rw [decide_eq_false (by omega)])
    refine Ev.gPrim (show ix Tryd.prog 9 (str [0]) (.int .i64 0) = some (u8 0) from ix_str (l := [0]) 0 rfl (by decide)) rfl ?_
    repeat (first | (first | refine Ev.s ?_ | refine Ev.newC fun _ _ _ => ?_ | refine Ev.boxC fun _ _ _ => ?_ | refine Ev.stC fun _ _ => ?_ | refine Ev.sc (by omega) ?_ | refine Ev.scg (by omega) ?_) | rw [decide_eq_true (by omega)] | rw [decide_eq_false (by omega)])
    refine Ev.prim (show ix Tryd.prog 9 (str [0]) (.int .i64 0) = some (u8 0) from ix_str (l := [0]) 0 rfl (by decide)) ?_
    have h1 : Ev (fun k _ => rn k 32 [str s, u8 0] H) (fun r => ∃ w : List UInt8, r = (str w, H) ∧ w.length ≤ s.length ∧ ((∀ c ∈ s, c = 0) ↔ ∀ c ∈ w, c = 0)) := by
      refine Ev.fn (fun k => f32_eq k _ _ H) ?_
      refine Ev.bind (Ev.loop (right_loop _ s rfl hl)) ?_
      rintro _ ⟨w, rfl, h⟩
      refine Ev.eq (fun k _ => f32_A0_x0 k _ H) ?_
      exact Ev.ret ⟨w, rfl, h⟩
    refine Ev.b2 h1 ?_
    rintro _ _ ⟨w, ⟨rfl, rfl⟩, h2, h3⟩
    refine Ev.prim (show ix Tryd.prog 9 (str [0]) (.int .i64 0) = some (u8 0) from ix_str (l := [0]) 0 rfl (by decide)) ?_
    have h4 : Ev (fun k _ => rn k 31 [str w, u8 0] H) (fun r => ∃ w2 : List UInt8, r = (str w2, H) ∧ ((∀ c ∈ w, c = 0) ↔ w2 = [])) := by
      refine Ev.fn (fun k => f31_eq k _ _ H) ?_
      refine Ev.bind (Ev.loop (left_loop _ w rfl (by omega))) ?_
      rintro _ ⟨w2, rfl, h⟩
      refine Ev.eq (fun k _ => f31_A0_x0 k _ H) ?_
      exact Ev.ret ⟨w2, rfl, h⟩
    refine Ev.b2 h4 ?_
    rintro _ _ ⟨w2, ⟨rfl, rfl⟩, h5⟩
    exact Ev.ret ⟨w2, rfl, h3.trans h5⟩
theorem HasPrefix_spec {s p : List UInt8} (hl : s.length < 9223372036854775808) (hp : p.length ≤ s.length) : Ev (fun k _ => rn k 20 [str s, str p] H) (fun r => r = (.bool (decide (s.take p.length = p)), H)) := by
  refine Ev.fn (fun k => f20_eq k _ _ H) ?_
  have key : Ev (fun k _ => rn k 30 [str s, str p] H) (fun r => r = (.bool (decide (s.take p.length = p)), H)) := by
    refine Ev.fn (fun k => f30_eq k _ _ H) ?_
    repeat (first | refine Ev.s ?_ | refine Ev.newC fun _ _ _ => ?_ | refine Ev.boxC fun _ _ _ => ?_ | refine Ev.stC fun _ _ => ?_ | refine Ev.sc (by omega) ?_ | refine Ev.scg (by omega) ?_)
    rw [decide_eq_true (by omega)]
    repeat (first | refine Ev.s ?_ | refine Ev.newC fun _ _ _ => ?_ | refine Ev.boxC fun _ _ _ => ?_ | refine Ev.stC fun _ _ => ?_ | refine Ev.sc (by omega) ?_ | refine Ev.scg (by omega) ?_)
    refine Ev.gPrim (slc_strT (l := s) (i := p.length) (by omega)) rfl ?_
    repeat (first | refine Ev.s ?_ | refine Ev.newC fun _ _ _ => ?_ | refine Ev.boxC fun _ _ _ => ?_ | refine Ev.stC fun _ _ => ?_ | refine Ev.sc (by omega) ?_ | refine Ev.scg (by omega) ?_)
    exact Ev.ret rfl
  refine Ev.b2 key ?_
  rintro _ _ ⟨rfl, rfl⟩
  exact Ev.ret rfl
end
end Go.AM.O
set_option linter.unusedVariables false
set_option linter.unusedSimpArgs false
set_option maxRecDepth 100000
namespace Go.AM.O
open Go Go.AM Go.Proofs
attribute [local irreducible] run bin un ld st box newV mkS fldA fld ixA ix slc slc3 build buildS cv cvS ap cpy lenV gOp pickV b2 aIf aChk evalK resume iterD Option.bind

section
variable {B B0 H0 H : AH} {L : List (Nat × Blk)}
/-- The answer of a seal. -/
def SealV (p : List UInt8 × Int) : Value := .tuple #[str p.1, .int .i64 p.2]
theorem le4_len (n : Nat) : (le4 n).length = 4 := rfl
theorem Seal_spec {kind : Int} {t : List UInt8} (ht : t.length < 9223372036854775808) (hk : -9223372036854775808 ≤ kind ∧ kind < 9223372036854775808) (hS : St H0 B0 B L H) :
    Ev (fun k _ => rn k 8 [.int .i64 kind, str t] H) (fun r => r.1 = SealV (sealR kind t) ∧ ∃ B', MoC B B' ∧ St H0 B0 B' L r.2) := by
  refine Ev.fn (fun k => f8_eq k _ _ H) ?_
  unfold sealR
  by_cases h1 : kind < 1
  · rw [if_pos (.inl h1)]
    repeat (first | (first | refine Ev.s ?_ | refine Ev.newC fun _ _ _ => ?_ | refine Ev.boxC fun _ _ _ => ?_ | refine Ev.stC fun _ _ => ?_ | refine Ev.sc (by omega) ?_ | refine Ev.scg (by omega) ?_) | rw [decide_eq_true (by omega)] | rw [decide_eq_false (by omega)])
    exact Ev.ret ⟨rfl, B, ⟨Mo.refl B⟩, hS⟩
  by_cases h2 : kind > 9
  · rw [if_pos (.inr (.inl h2))]
    repeat (first | (first | refine Ev.s ?_ | refine Ev.newC fun _ _ _ => ?_ | refine Ev.boxC fun _ _ _ => ?_ | refine Ev.stC fun _ _ => ?_ | refine Ev.sc (by omega) ?_ | refine Ev.scg (by omega) ?_) | rw [decide_eq_true (by omega)] | rw [decide_eq_false (by omega)])
    exact Ev.ret ⟨rfl, B, ⟨Mo.refl B⟩, hS⟩
  by_cases h3 : t.length > 120
  · rw [if_pos (.inr (.inr h3))]
    repeat (first | (first | refine Ev.s ?_ | refine Ev.newC fun _ _ _ => ?_ | refine Ev.boxC fun _ _ _ => ?_ | refine Ev.stC fun _ _ => ?_ | refine Ev.sc (by omega) ?_ | refine Ev.scg (by omega) ?_) | rw [decide_eq_true (by omega)] | rw [decide_eq_false (by omega)])
    exact Ev.ret ⟨rfl, B, ⟨Mo.refl B⟩, hS⟩
  rw [if_neg (by omega)]
  obtain ⟨n, rfl⟩ : ∃ n : Nat, kind = n := ⟨kind.toNat, by omega⟩
  rw [Int.toNat_natCast]
  repeat (first | (first | refine Ev.s ?_ | refine Ev.newC fun _ _ _ => ?_ | refine Ev.boxC fun _ _ _ => ?_ | refine Ev.stC fun _ _ => ?_ | refine Ev.sc (by omega) ?_ | refine Ev.scg (by omega) ?_) | rw [decide_eq_true (by omega)] | rw [decide_eq_false (by omega)])
  rw [Nat.mod_eq_of_lt (show n < 4294967296 by omega), Nat.mod_eq_of_lt (show t.length < 4294967296 by omega)]
  refine Ev.bsC (P := Tryd.prog) (t := 54) (hS := hS) (by decide) fun b H1 hS1 => ?_
  obtain ⟨B1, hm1, hF, hS2⟩ := St.flz (l := [n, t.length]) (f := u32) (cap := 2) hS1 (Nat.le_refl _)
  clear hS hS1
  refine Ev.b2 (bytes_spec hF (by simp) (by simp) hS2) ?_
  rintro _ H2 ⟨rfl, B2, hm2, hS3⟩
  dsimp only at hS3
  clear hS2
  refine Ev.prim (add_str (a := [65, 83]) (b := [n, t.length].map UInt8.ofNat) (by simp)) ?_
  refine Ev.prim (add_str (a := [65, 83] ++ [n, t.length].map UInt8.ofNat) (b := t) (by simp; omega)) ?_
  obtain ⟨hd, hhd⟩ : ∃ hd : List UInt8, hd = [65, 83] ++ [n, t.length].map UInt8.ofNat ++ t := ⟨_, rfl⟩
  have hdl : hd.length = 4 + t.length := by rw [hhd, List.length_append]; rfl
  rw [← hhd]
  repeat (first | refine Ev.s ?_ | refine Ev.newC fun _ _ _ => ?_ | refine Ev.boxC fun _ _ _ => ?_ | refine Ev.stC fun _ _ => ?_ | refine Ev.sc (by omega) ?_ | refine Ev.scg (by omega) ?_)
  rw [hdl]
  rw [show 124 - (4 + t.length) = 120 - t.length by omega]
  refine Ev.b2 (Repeat_spec (n := 120 - t.length) (by omega) hS3) ?_
  rintro _ H3 ⟨rfl, B3, hm3, hS4⟩
  dsimp only at hS4
  clear hS3
  refine Ev.prim (add_str (a := hd) (b := List.replicate (120 - t.length) 0) (by rw [List.length_replicate]; omega)) ?_
  have hb : hd ++ List.replicate (120 - t.length) 0 = bodyL n t := by rw [hhd]; rfl
  have hbl := body_len (k := n) (t := t) (by omega)
  rw [hb]
  refine Ev.b2 (psum_spec (by rw [hbl]; decide) hS4) ?_
  rintro _ H4 ⟨rfl, B4, hm4, hS5⟩
  dsimp only at hS5
  refine Ev.prim (add_str (a := bodyL n t) (b := le4 (crc (bodyL n t))) (by rw [hbl, le4_len]; decide)) ?_
  exact Ev.ret ⟨rfl, B4, ⟨hm1.mo.trans (hm2.mo.trans (hm3.mo.trans hm4.mo))⟩, hS5⟩
def OpenV (p : Int × List UInt8 × Int) : Value := .tuple #[.int .i64 p.1, str p.2.1, .int .i64 p.2.2]
theorem Open_spec {b : List UInt8} (hl : b.length < 9223372036854775808) (hS : St H0 B0 B L H) :
    Ev (fun k _ => rn k 10 [str b] H) (fun r => r.1 = OpenV (openR b) ∧ ∃ B', MoC B B' ∧ St H0 B0 B' L r.2) := by
  refine Ev.fn (fun k => f10_eq k _ H) ?_
  unfold openR
  repeat (first | refine Ev.s ?_ | refine Ev.newC fun _ _ _ => ?_ | refine Ev.boxC fun _ _ _ => ?_ | refine Ev.stC fun _ _ => ?_ | refine Ev.sc (by omega) ?_ | refine Ev.scg (by omega) ?_)
  by_cases h1 : b.length = 128
  case neg =>
    rw [if_pos h1, decide_eq_true h1]
    repeat (first | refine Ev.s ?_ | refine Ev.newC fun _ _ _ => ?_ | refine Ev.boxC fun _ _ _ => ?_ | refine Ev.stC fun _ _ => ?_ | refine Ev.sc (by omega) ?_ | refine Ev.scg (by omega) ?_)
    exact Ev.ret ⟨rfl, B, ⟨Mo.refl B⟩, hS⟩
  rw [if_neg (by omega), decide_eq_false (by omega)]
  repeat (first | refine Ev.s ?_ | refine Ev.newC fun _ _ _ => ?_ | refine Ev.boxC fun _ _ _ => ?_ | refine Ev.stC fun _ _ => ?_ | refine Ev.sc (by omega) ?_ | refine Ev.scg (by omega) ?_)
  refine Ev.prim (show slc Tryd.prog 9 (str b) none (some (.int .i64 124)) = some (str (b.take 124)) from slc_strT (l := b) (i := 124) (by omega)) ?_
  refine Ev.prim (show ix Tryd.prog 9 (str b) (.int .i64 3) = some (u8 (b.getD 3 0).toNat) from ix_str 3 rfl (by omega)) ?_
  have hn3 := u8_lt (b.getD 3 0)
  have hn2 := u8_lt (b.getD 2 0)
  repeat (first | refine Ev.s ?_ | refine Ev.newC fun _ _ _ => ?_ | refine Ev.boxC fun _ _ _ => ?_ | refine Ev.stC fun _ _ => ?_ | refine Ev.sc (by omega) ?_ | refine Ev.scg (by omega) ?_)
  refine Ev.b2 (psum_spec (by rw [List.length_take]; omega) hS) ?_
  rintro _ H1 ⟨rfl, B1, hm1, hS1⟩
  dsimp only at hS1
  clear hS
  refine Ev.prim (show slc Tryd.prog 9 (str b) (some (.int .i64 124)) none = some (str (b.drop 124)) from slc_str (l := b) 124 rfl (by omega)) ?_
  repeat (first | refine Ev.s ?_ | refine Ev.newC fun _ _ _ => ?_ | refine Ev.boxC fun _ _ _ => ?_ | refine Ev.stC fun _ _ => ?_ | refine Ev.sc (by omega) ?_ | refine Ev.scg (by omega) ?_)
  by_cases h2 : le4 (crc (b.take 124)) = b.drop 124
  case neg =>
    rw [if_pos h2, decide_eq_true h2]
    repeat (first | refine Ev.s ?_ | refine Ev.newC fun _ _ _ => ?_ | refine Ev.boxC fun _ _ _ => ?_ | refine Ev.stC fun _ _ => ?_ | refine Ev.sc (by omega) ?_ | refine Ev.scg (by omega) ?_)
    exact Ev.ret ⟨rfl, B1, hm1, hS1⟩
  rw [if_neg (by simpa using h2), decide_eq_false (by simpa using h2)]
  repeat (first | refine Ev.s ?_ | refine Ev.newC fun _ _ _ => ?_ | refine Ev.boxC fun _ _ _ => ?_ | refine Ev.stC fun _ _ => ?_ | refine Ev.sc (by omega) ?_ | refine Ev.scg (by omega) ?_)
  refine Ev.b2 (HasPrefix_spec (s := b) (p := [65, 83]) (by omega) (by rw [h1]; decide)) ?_
  rintro _ _ ⟨rfl, rfl⟩
  rw [show ([65, 83] : List UInt8).length = 2 from rfl]
  have bad : ¬ Body b → Ev (fun _ _ => some (Value.tuple #[.int .i64 0, .string ⟨#[]⟩, .int .i64 2], H1)) (fun r => r.1 = OpenV (if Body b then (((b.getD 2 0).toNat : Int), (b.drop 4).take (b.getD 3 0).toNat, 0) else (0, [], 2)) ∧ ∃ B', MoC B B' ∧ St H0 B0 B' L r.2) := by
    intro h
    rw [if_neg h]
    exact Ev.ret ⟨rfl, B1, hm1, hS1⟩
  by_cases h3 : b.take 2 = [65, 83]
  case neg =>
    rw [decide_eq_false h3]
    repeat (first | refine Ev.s ?_ | refine Ev.newC fun _ _ _ => ?_ | refine Ev.boxC fun _ _ _ => ?_ | refine Ev.stC fun _ _ => ?_ | refine Ev.sc (by omega) ?_ | refine Ev.scg (by omega) ?_)
    exact bad fun h => h3 h.1
  rw [decide_eq_true h3]
  repeat (first | refine Ev.s ?_ | refine Ev.newC fun _ _ _ => ?_ | refine Ev.boxC fun _ _ _ => ?_ | refine Ev.stC fun _ _ => ?_ | refine Ev.sc (by omega) ?_ | refine Ev.scg (by omega) ?_)
  refine Ev.gPrim (show ix Tryd.prog 9 (str b) (.int .i64 2) = some (u8 (b.getD 2 0).toNat) from ix_str 2 rfl (by omega)) rfl ?_
  repeat (first | refine Ev.s ?_ | refine Ev.newC fun _ _ _ => ?_ | refine Ev.boxC fun _ _ _ => ?_ | refine Ev.stC fun _ _ => ?_ | refine Ev.sc (by omega) ?_ | refine Ev.scg (by omega) ?_)
  by_cases h4 : 1 ≤ (b.getD 2 0).toNat
  case neg =>
    repeat (first | (first | refine Ev.s ?_ | refine Ev.newC fun _ _ _ => ?_ | refine Ev.boxC fun _ _ _ => ?_ | refine Ev.stC fun _ _ => ?_ | refine Ev.sc (by omega) ?_ | refine Ev.scg (by omega) ?_) | rw [decide_eq_true (by omega)] | rw [decide_eq_false (by omega)])
    exact bad fun h => h4 h.2.1
  rw [decide_eq_false (by omega)]
  repeat (first | refine Ev.s ?_ | refine Ev.newC fun _ _ _ => ?_ | refine Ev.boxC fun _ _ _ => ?_ | refine Ev.stC fun _ _ => ?_ | refine Ev.sc (by omega) ?_ | refine Ev.scg (by omega) ?_)
  refine Ev.gPrim (show ix Tryd.prog 9 (str b) (.int .i64 2) = some (u8 (b.getD 2 0).toNat) from ix_str 2 rfl (by omega)) rfl ?_
  repeat (first | refine Ev.s ?_ | refine Ev.newC fun _ _ _ => ?_ | refine Ev.boxC fun _ _ _ => ?_ | refine Ev.stC fun _ _ => ?_ | refine Ev.sc (by omega) ?_ | refine Ev.scg (by omega) ?_)
  by_cases h5 : (b.getD 2 0).toNat ≤ 9
  case neg =>
    repeat (first | (first | refine Ev.s ?_ | refine Ev.newC fun _ _ _ => ?_ | refine Ev.boxC fun _ _ _ => ?_ | refine Ev.stC fun _ _ => ?_ | refine Ev.sc (by omega) ?_ | refine Ev.scg (by omega) ?_) | rw [decide_eq_true (by omega)] | rw [decide_eq_false (by omega)])
    exact bad fun h => h5 h.2.2.1
  rw [decide_eq_false (by omega)]
  repeat (first | refine Ev.s ?_ | refine Ev.newC fun _ _ _ => ?_ | refine Ev.boxC fun _ _ _ => ?_ | refine Ev.stC fun _ _ => ?_ | refine Ev.sc (by omega) ?_ | refine Ev.scg (by omega) ?_)
  by_cases h6 : (b.getD 3 0).toNat ≤ 120
  case neg =>
    repeat (first | (first | refine Ev.s ?_ | refine Ev.newC fun _ _ _ => ?_ | refine Ev.boxC fun _ _ _ => ?_ | refine Ev.stC fun _ _ => ?_ | refine Ev.sc (by omega) ?_ | refine Ev.scg (by omega) ?_) | rw [decide_eq_true (by omega)] | rw [decide_eq_false (by omega)])
    exact bad fun h => h6 h.2.2.2.1
  repeat (first | (first | refine Ev.s ?_ | refine Ev.newC fun _ _ _ => ?_ | refine Ev.boxC fun _ _ _ => ?_ | refine Ev.stC fun _ _ => ?_ | refine Ev.sc (by omega) ?_ | refine Ev.scg (by omega) ?_) | rw [decide_eq_true (by omega)] | rw [decide_eq_false (by omega)])
  generalize hn : (b.getD 3 0).toNat = n at *
  refine Ev.gPrim (slc_str (l := b.take 124) (4 + n) rfl (by rw [List.length_take]; omega)) rfl ?_
  repeat (first | (first | refine Ev.s ?_ | refine Ev.newC fun _ _ _ => ?_ | refine Ev.boxC fun _ _ _ => ?_ | refine Ev.stC fun _ _ => ?_ | refine Ev.sc (by omega) ?_ | refine Ev.scg (by omega) ?_) | rw [decide_eq_true (by omega)] | rw [decide_eq_false (by omega)])
  refine Ev.b2 (Trim_spec (s := (b.take 124).drop (4 + n)) (by rw [List.length_drop, List.length_take]; omega)) ?_
  rintro _ _ ⟨w, ⟨rfl, rfl⟩, hw⟩
  repeat (first | refine Ev.s ?_ | refine Ev.newC fun _ _ _ => ?_ | refine Ev.boxC fun _ _ _ => ?_ | refine Ev.stC fun _ _ => ?_ | refine Ev.sc (by omega) ?_ | refine Ev.scg (by omega) ?_)
  by_cases h7 : w = []
  case neg =>
    rw [decide_eq_true h7]
    repeat (first | (first | refine Ev.s ?_ | refine Ev.newC fun _ _ _ => ?_ | refine Ev.boxC fun _ _ _ => ?_ | refine Ev.stC fun _ _ => ?_ | refine Ev.sc (by omega) ?_ | refine Ev.scg (by omega) ?_) | rw [decide_eq_true (by omega)] | rw [decide_eq_false (by omega)])
    exact bad fun h => h7 (hw.1 (by have := h.2.2.2.2; rwa [hn] at this))
  rw [decide_eq_false (by simpa using h7)]
  have hB : Body b := ⟨h3, h4, h5, by rw [hn]; exact h6, by rw [hn]; exact hw.2 h7⟩
  repeat (first | refine Ev.s ?_ | refine Ev.newC fun _ _ _ => ?_ | refine Ev.boxC fun _ _ _ => ?_ | refine Ev.stC fun _ _ => ?_ | refine Ev.sc (by omega) ?_ | refine Ev.scg (by omega) ?_)
  refine Ev.prim (show ix Tryd.prog 9 (str b) (.int .i64 2) = some (u8 (b.getD 2 0).toNat) from ix_str 2 rfl (by omega)) ?_
  repeat (first | refine Ev.s ?_ | refine Ev.newC fun _ _ _ => ?_ | refine Ev.boxC fun _ _ _ => ?_ | refine Ev.stC fun _ _ => ?_ | refine Ev.sc (by omega) ?_ | refine Ev.scg (by omega) ?_)
  refine Ev.prim (slc_str2 (l := b.take 124) 4 (4 + n) rfl rfl (by omega) (by rw [List.length_take]; omega)) ?_
  rw [if_pos hB]
  refine Ev.ret ⟨?_, B1, hm1, hS1⟩
  show Value.tuple #[_, str _, _] = OpenV _
  rw [List.drop_take, List.take_take, show min (4 + n - 4) (124 - 4) = n by omega]
  rfl
end
end Go.AM.O
set_option linter.unusedVariables false
set_option linter.unusedSimpArgs false
set_option maxRecDepth 100000
namespace Go.AM.O
open Go Go.AM Go.Proofs
attribute [local irreducible] run bin un ld st box newV mkS fldA fld ixA ix slc slc3 build buildS cv cvS ap cpy lenV gOp pickV b2 aIf aChk evalK resume iterD Option.bind

section
variable {B B0 H0 H : AH} {L : List (Nat × Blk)}
theorem crc_ex : crc [49, 50, 51, 52, 53, 54, 55, 56, 57] = 3421780262 := by decide +kernel
theorem open_ex : openR (List.replicate 128 0) = (0, [], 10) := by decide +kernel
theorem examples_spec (hS : St H0 B0 B L H) : Ev (fun k _ => rn k 7 [] H) (fun r => r.1 = .bool true ∧ ∃ B', MoC B B' ∧ St H0 B0 B' L r.2) := by
  refine Ev.fn (fun k => f7_eq k H) ?_
  refine Ev.b2 (Seal_spec (kind := 3) (t := [104, 101, 108, 108, 111]) (by decide) (by decide) hS) ?_
  rintro _ H1 ⟨rfl, B1, hm1, hS1⟩
  dsimp only at hS1
  clear hS
  rw [show sealR 3 [104, 101, 108, 108, 111] = (sealL 3 [104, 101, 108, 108, 111], 0) from sealR_nat (k := 3) (by decide) (by decide) (by decide)]
  have hsl : (sealL 3 [104, 101, 108, 108, 111]).length = 128 := seal_len (by decide)
  have hso : openR (sealL 3 [104, 101, 108, 108, 111]) = (3, [104, 101, 108, 108, 111], 0) := open_seal (k := 3) (by decide) (by decide) (by decide)
  generalize sealL 3 [104, 101, 108, 108, 111] = s at hsl hso
  unfold SealV
  dsimp only
  repeat (first | refine Ev.s ?_ | refine Ev.newC fun _ _ _ => ?_ | refine Ev.boxC fun _ _ _ => ?_ | refine Ev.stC fun _ _ => ?_ | refine Ev.sc (by omega) ?_ | refine Ev.scg (by omega) ?_)
  refine Ev.b2 (Open_spec (b := s) (by omega) hS1) ?_
  rintro _ H2 ⟨rfl, B2, hm2, hS2⟩
  dsimp only at hS2
  clear hS1
  rw [hso]
  unfold OpenV
  dsimp only
  repeat (first | refine Ev.s ?_ | refine Ev.newC fun _ _ _ => ?_ | refine Ev.boxC fun _ _ _ => ?_ | refine Ev.stC fun _ _ => ?_ | refine Ev.sc (by omega) ?_ | refine Ev.scg (by omega) ?_)
  refine Ev.b2 (Open_spec (b := []) (by decide) hS2) ?_
  rintro _ H3 ⟨rfl, B3, hm3, hS3⟩
  dsimp only at hS3
  clear hS2
  rw [show openR [] = (0, [], 2) from rfl]
  unfold OpenV
  dsimp only
  repeat (first | refine Ev.s ?_ | refine Ev.newC fun _ _ _ => ?_ | refine Ev.boxC fun _ _ _ => ?_ | refine Ev.stC fun _ _ => ?_ | refine Ev.sc (by omega) ?_ | refine Ev.scg (by omega) ?_)
  have hE : Elt Tryd.prog 35 5 (.int .u8 0) 1 := inferInstance
  refine Ev.mkS (m := 128) hE hS3 (by decide) (by decide) fun b B4 H4 hm4 hS4 => ?_
  clear hS3
  refine Ev.prim (cvS_part (d := 9) (bs := List.replicate 128 0) (by rw [byts_rep]; exact hS4) (.head _) (Nat.le_refl _) (by decide)) ?_
  rw [List.drop_zero, List.take_of_length_le (by decide)]
  refine Ev.b2 (Open_spec (b := List.replicate 128 0) (by decide) hS4.drop1) ?_
  rintro _ H5 ⟨rfl, B5, hm5, hS5⟩
  dsimp only at hS5
  clear hS4
  rw [open_ex]
  unfold OpenV
  dsimp only
  repeat (first | refine Ev.s ?_ | refine Ev.newC fun _ _ _ => ?_ | refine Ev.boxC fun _ _ _ => ?_ | refine Ev.stC fun _ _ => ?_ | refine Ev.sc (by omega) ?_ | refine Ev.scg (by omega) ?_)
  refine Ev.b2 (Sum_spec (s := [49, 50, 51, 52, 53, 54, 55, 56, 57]) (by decide)) ?_
  rintro _ _ ⟨rfl, rfl⟩
  rw [crc_ex]
  repeat (first | (first | refine Ev.s ?_ | refine Ev.newC fun _ _ _ => ?_ | refine Ev.boxC fun _ _ _ => ?_ | refine Ev.stC fun _ _ => ?_ | refine Ev.sc (by omega) ?_ | refine Ev.scg (by omega) ?_) | rw [decide_eq_true (by omega)] | rw [decide_eq_false (by omega)])
  exact Ev.ret ⟨rfl, B5, ⟨hm1.mo.trans (hm2.mo.trans (hm3.mo.trans (hm4.trans hm5.mo)))⟩, hS5⟩
end
end Go.AM.O
set_option linter.unusedVariables false
set_option linter.unusedSimpArgs false
namespace Go.AM
variable {P : Program} {R α : Type} {f : α → Value} {t e : TypeId} {z : Value} {sz : Nat}
variable {B B0 H0 H : AH} {v w : Value} {ks l : List α} {X La Lb : List (Nat × Blk)} {g : Nat → Nat → Value → AH → Option R} {Q : R → Prop}
theorem permA (X La Lb : List (Nat × Blk)) : (La ++ (X ++ Lb)).Perm (X ++ (La ++ Lb)) := by
  rw [← List.append_assoc, ← List.append_assoc]
  exact List.Perm.append_right _ List.perm_append_comm
end Go.AM
set_option linter.unusedVariables false
set_option linter.unusedSimpArgs false
set_option maxRecDepth 100000
namespace Go.AM.O
open Go Go.AM Go.Proofs
attribute [local irreducible] run bin un ld st box newV mkS fldA fld ixA ix slc slc3 build buildS cv cvS ap cpy lenV gOp pickV b2 aIf aChk evalK resume iterD Option.bind

section
variable {B B0 H0 H : AH} {L : List (Nat × Blk)}
abbrev DK := IsDisk 51 5 77
/-- Behind a call that leaves a disk. -/
def DkP (H0 B0 B : AH) (L : List (Nat × Blk)) (p v : Value) (D : Dsk) (r : Value × AH) : Prop := r.1 = v ∧ ∃ Ls B', MoC B B' ∧ DK p D Ls ∧ St H0 B0 B' (Ls ++ L) r.2
theorem Sectors_spec {p : Value} {D : Dsk} {Ls Lx : List (Nat × Blk)} (hD : DK p D Ls) (hO : D.OK) (hS : St H0 B0 B Lx H) (hsub : ∀ x ∈ Ls, x ∈ Lx) :
    Ev (fun k _ => rn k 38 [p] H) (fun r => r = (i64 D.n, H)) := by
  obtain ⟨d, bb, cv, Lc, rfl, hG, rfl⟩ := hD
  have hi : InL d ⟨[sl bb 0 (64 * D.n) (64 * D.n), cv, .int .i64 D.fuse, .bool D.down], 51, .fix⟩ Lx := ⟨hsub _ (.head _)⟩
  refine Ev.fn (fun k => f38_eq k _ H) ?_
  have h1 := hO.n1
  have h2 := hO.n2
  repeat (first | refine Ev.s ?_ | refine Ev.newC fun _ _ _ => ?_ | refine Ev.boxC fun _ _ _ => ?_ | refine Ev.stC fun _ _ => ?_ | refine Ev.sc (by omega) ?_ | refine Ev.scg (by omega) ?_)
  have : 64 * D.n / 64 = D.n := by omega
  rw [this]
  exact Ev.ret rfl
theorem act_spec {d : Nat} {bv cv f : Value} {fu : Int} {dn : Bool} {Q : Value × AH → Prop} (hfu : -1 ≤ fu ∧ fu < 9223372036854775808) (hS : St H0 B0 B ((d, ⟨[bv, cv, .int .i64 fu, .bool dn], 51, .fix⟩) :: L) H)
    (h0 : fu = 0 → ∀ H', St H0 B0 B ((d, ⟨[bv, cv, .int .i64 fu, .bool true], 51, .fix⟩) :: L) H' → Q (.int .i64 7, H'))
    (h1 : fu ≠ 0 → ∀ H', St H0 B0 B ((d, ⟨[bv, cv, .int .i64 (max (fu - 1) (-1)), .bool dn], 51, .fix⟩) :: L) H' → Ev (fun k _ => callY (rn k) f [] H') (fun r => Q (.int .i64 0, r.2))) :
    Ev (fun k _ => rn k 39 [ptr d 0, f] H) Q := by
  refine Ev.fn (fun k => f39_eq k _ _ H) ?_
  repeat (first | refine Ev.s ?_ | refine Ev.newC fun _ _ _ => ?_ | refine Ev.boxC fun _ _ _ => ?_ | refine Ev.stC fun _ _ => ?_ | refine Ev.sc (by omega) ?_ | refine Ev.scg (by omega) ?_)
  by_cases hf : fu = 0
  · rw [decide_eq_true hf]
    repeat (first | refine Ev.s ?_ | refine Ev.newC fun _ _ _ => ?_ | refine Ev.boxC fun _ _ _ => ?_ | refine Ev.stC fun _ _ => ?_ | refine Ev.sc (by omega) ?_ | refine Ev.scg (by omega) ?_)
    exact Ev.ret (h0 hf _ (by assumption))
  · rw [decide_eq_false hf]
    repeat (first | refine Ev.s ?_ | refine Ev.newC fun _ _ _ => ?_ | refine Ev.boxC fun _ _ _ => ?_ | refine Ev.stC fun _ _ => ?_ | refine Ev.sc (by omega) ?_ | refine Ev.scg (by omega) ?_)
    rename_i H1 hS1
    rw [show (if -1 > fu - 1 then (-1 : Int) else fu - 1) = max (fu - 1) (-1) by omega] at hS1
    refine Ev.b2 (h1 hf _ hS1) fun v H' hq => ?_
    exact Ev.ret hq
theorem callY_fn {k : Nat} {g : FuncId} {xs ys : List Value} {args : List Value} {H : AH} (hg : g < yOff) : callY (rn k) (.func (.func g) ⟨xs⟩ ⟨ys⟩) args H = rn k g (xs ++ (args ++ ys)) H := by
  unfold callY callV
  simp only [show Nat.blt g yOff = true by rw [Nat.blt_eq]; exact hg, cond_true]
theorem front3 {x y z d : Nat × Blk} (h : St H0 B0 B (x :: y :: z :: d :: L) H) : St H0 B0 B (d :: x :: y :: z :: L) H := h.perm (List.perm_middle (l₁ := [x, y, z])).symm
theorem back3 {x y z d : Nat × Blk} (h : St H0 B0 B (d :: x :: y :: z :: L) H) : St H0 B0 B (d :: L) H := (h.perm (List.perm_middle (l₁ := [x, y, z]))).drop1.drop1.drop1
theorem toFront {X La : List (Nat × Blk)} (h : St H0 B0 B (La ++ (X ++ L)) H) : St H0 B0 B (X ++ (La ++ L)) H := h.perm (permA La X L)
theorem caCells_snoc (l : List (Nat × List UInt8)) (q : Nat) (s : List UInt8) : caCells (l ++ [(q, s)]) = caCells l ++ [i64 q, str s] := by simp [caCells]
theorem drop_3 {x y z : Nat × Blk} (h : St H0 B0 B (x :: y :: z :: L) H) : St H0 B0 B L H := h.drop1.drop1.drop1
end
end Go.AM.O
set_option linter.unusedVariables false
set_option linter.unusedSimpArgs false
set_option maxRecDepth 100000
namespace Go.AM.O
open Go Go.AM Go.Proofs
attribute [local irreducible] run bin un ld st box newV mkS fldA fld ixA ix slc slc3 build buildS cv cvS ap cpy lenV gOp pickV b2 aIf aChk evalK resume iterD Option.bind

section
variable {B B0 H0 H : AH} {L : List (Nat × Blk)}
theorem Write_spec {p : Value} {D : Dsk} {Ls : List (Nat × Blk)} {i : Int} {s : List UInt8} (hD : DK p D Ls) (hO : D.OK) (hc : D.cache.length < 1000000000000) (hS : St H0 B0 B (Ls ++ L) H) :
    Ev (fun k _ => rn k 22 [p, .int .i64 i, str s] H) (DkP H0 B0 B L p (.int .i64 (D.write i s).1) (D.write i s).2) := by
  have hD0 := hD
  obtain ⟨n, bytes, cache, fu, dn⟩ := D
  obtain ⟨d, bb, cv, Lc, rfl, hG, rfl⟩ := hD
  have h1 := hO.n1
  have h2 := hO.n2
  have hfu := hO.fu
  dsimp only at hS hc h1 h2 hfu hG hD0
  simp only [List.cons_append] at hS
  have hcell := hG.cell
  refine Ev.fn (fun k => f22_eq k _ _ _ H) ?_
  have back : ∀ H', St H0 B0 B ((d, ⟨[sl bb 0 (64 * n) (64 * n), cv, .int .i64 fu, .bool dn], 51, .fix⟩) :: (bb, ⟨byts bytes, 5, .fix⟩) :: (Lc ++ L)) H' → ∃ Ls B', MoC B B' ∧ DK (ptr d 0) ⟨n, bytes, cache, fu, dn⟩ Ls ∧ St H0 B0 B' (Ls ++ L) H' := fun H' h => ⟨_, B, ⟨Mo.refl B⟩, hD0, h⟩
  repeat (first | refine Ev.s ?_ | refine Ev.newC fun _ _ _ => ?_ | refine Ev.boxC fun _ _ _ => ?_ | refine Ev.stC fun _ _ => ?_ | refine Ev.sc (by omega) ?_ | refine Ev.scg (by omega) ?_)
  rename_i b1 H1 hS1 b2 H2 hS2 b3 H3 hS3
  unfold Dsk.write
  dsimp only
  cases dn with
  | true =>
    repeat (first | refine Ev.s ?_ | refine Ev.newC fun _ _ _ => ?_ | refine Ev.boxC fun _ _ _ => ?_ | refine Ev.stC fun _ _ => ?_ | refine Ev.sc (by omega) ?_ | refine Ev.scg (by omega) ?_)
    exact Ev.ret ⟨rfl, back _ (drop_3 hS3)⟩
  | false =>
    repeat (first | refine Ev.s ?_ | refine Ev.newC fun _ _ _ => ?_ | refine Ev.boxC fun _ _ _ => ?_ | refine Ev.stC fun _ _ => ?_ | refine Ev.sc (by omega) ?_ | refine Ev.scg (by omega) ?_)
    rw [if_neg (fun h => by cases h)]
    by_cases hi : i < 0
    · rw [decide_eq_true hi, if_pos (.inl hi)]
      repeat (first | refine Ev.s ?_ | refine Ev.newC fun _ _ _ => ?_ | refine Ev.boxC fun _ _ _ => ?_ | refine Ev.stC fun _ _ => ?_ | refine Ev.sc (by omega) ?_ | refine Ev.scg (by omega) ?_)
      exact Ev.ret ⟨rfl, back _ (drop_3 hS3)⟩
    rw [decide_eq_false hi]
    obtain ⟨q, rfl⟩ : ∃ q : Nat, i = q := ⟨i.toNat, by omega⟩
    repeat (first | refine Ev.s ?_ | refine Ev.newC fun _ _ _ => ?_ | refine Ev.boxC fun _ _ _ => ?_ | refine Ev.stC fun _ _ => ?_ | refine Ev.sc (by omega) ?_ | refine Ev.scg (by omega) ?_)
    refine Ev.b2 (Sectors_spec hD0 hO hS3 ?_) ?_
    · intro x hx
      exact .tail _ (.tail _ (.tail _ (by rw [← List.cons_append, ← List.cons_append]; exact List.mem_append_left _ hx)))
    rintro _ _ ⟨rfl, rfl⟩
    repeat (first | refine Ev.s ?_ | refine Ev.newC fun _ _ _ => ?_ | refine Ev.boxC fun _ _ _ => ?_ | refine Ev.stC fun _ _ => ?_ | refine Ev.sc (by omega) ?_ | refine Ev.scg (by omega) ?_)
    by_cases hq : n ≤ q
    · rw [decide_eq_true hq, if_pos (.inr (.inl (by omega)))]
      repeat (first | refine Ev.s ?_ | refine Ev.newC fun _ _ _ => ?_ | refine Ev.boxC fun _ _ _ => ?_ | refine Ev.stC fun _ _ => ?_ | refine Ev.sc (by omega) ?_ | refine Ev.scg (by omega) ?_)
      exact Ev.ret ⟨rfl, back _ (drop_3 hS3)⟩
    rw [decide_eq_false hq]
    repeat (first | refine Ev.s ?_ | refine Ev.newC fun _ _ _ => ?_ | refine Ev.boxC fun _ _ _ => ?_ | refine Ev.stC fun _ _ => ?_ | refine Ev.sc (by omega) ?_ | refine Ev.scg (by omega) ?_)
    by_cases hl : s.length = 64
    · rw [decide_eq_false (fun h => h hl), if_neg (by omega)]
      repeat (first | refine Ev.s ?_ | refine Ev.newC fun _ _ _ => ?_ | refine Ev.boxC fun _ _ _ => ?_ | refine Ev.stC fun _ _ => ?_ | refine Ev.sc (by omega) ?_ | refine Ev.scg (by omega) ?_)
      rw [show (fun k n : Nat => AM.b2 (rn k 39 [ptr d 0, .func (.func 40) #[] #[ptr b1 0, ptr b2 0, ptr b3 0]] H3) fun v20 h20 => some (v20, h20)) = fun k n => rn k 39 [ptr d 0, .func (.func 40) #[] #[ptr b1 0, ptr b2 0, ptr b3 0]] H3 from funext fun k => funext fun _ => b2_id _]
      refine act_spec hfu (front3 hS3) (fun h0 H' hS' => ?_) (fun h0 H' hS' => ?_)
      · unfold Dsk.act
        dsimp only
        rw [if_pos h0]
        exact ⟨rfl, _, B, ⟨Mo.refl B⟩, ⟨d, bb, cv, Lc, rfl, hG, rfl⟩, back3 hS'⟩
      · unfold Dsk.act
        dsimp only
        rw [if_neg h0]
        simp only [callY_fn (show 40 < yOff by unfold yOff; omega)]
        clear hS hS1 hS2 hS3 back
        refine Ev.fn (fun k => f40_eq k _ _ _ H') ?_
        repeat (first | refine Ev.s ?_ | refine Ev.newC fun _ _ _ => ?_ | refine Ev.boxC fun _ _ _ => ?_ | refine Ev.stC fun _ _ => ?_ | refine Ev.sc (by omega) ?_ | refine Ev.scg (by omega) ?_)
        have hS4 := toFront (X := Lc) (La := [(d, _), (b3, _), (b2, _), (b1, _), (bb, _)]) (L := L) hS'
        refine GAcc.push (ds := [i64 q, str s]) (hG.acc hS4) rfl rfl rfl rfl (by omega) (by omega) fun v' B' H5 hm hA => ?_
        obtain ⟨Lx, hG5, hS5⟩ := hA.grs
        have hS6 := toFront (X := [(d, _), (b3, _), (b2, _), (b1, _), (bb, _)]) (La := Lx) (L := L) hS5
        simp only [List.cons_append, List.nil_append] at hS6
        have hcell5 := hG5.cell
        clear hS' hS4 hS5 hA
        repeat (first | refine Ev.s ?_ | refine Ev.newC fun _ _ _ => ?_ | refine Ev.boxC fun _ _ _ => ?_ | refine Ev.stC fun _ _ => ?_ | refine Ev.sc (by omega) ?_ | refine Ev.scg (by omega) ?_)
        rename_i H6 hS7
        refine Ev.ret ⟨rfl, _, B', hm, ⟨d, bb, v', Lx, rfl, ?_, rfl⟩, back3 hS7⟩
        unfold Dsk.put
        dsimp only
        rw [caCells_snoc, List.length_append]
        exact hG5
    · rw [decide_eq_true hl, if_pos (.inr (.inr hl))]
      repeat (first | refine Ev.s ?_ | refine Ev.newC fun _ _ _ => ?_ | refine Ev.boxC fun _ _ _ => ?_ | refine Ev.stC fun _ _ => ?_ | refine Ev.sc (by omega) ?_ | refine Ev.scg (by omega) ?_)
      exact Ev.ret ⟨rfl, back _ (drop_3 hS3)⟩
end
end Go.AM.O
set_option linter.unusedVariables false
set_option linter.unusedSimpArgs false
set_option maxRecDepth 100000
namespace Go.AM.O
open Go Go.AM Go.Proofs
attribute [local irreducible] run bin un ld st box newV mkS fldA fld ixA ix slc slc3 build buildS cv cvS ap cpy lenV gOp pickV b2 aIf aChk evalK resume iterD Option.bind

section
variable {B B0 H0 H : AH} {L : List (Nat × Blk)}
theorem New_spec {n : Nat} (h1 : 1 ≤ n) (h2 : n ≤ 1024) (hS : St H0 B0 B L H) :
    Ev (fun k _ => rn k 14 [i64 n] H) (fun r => ∃ p Ls B', r.1 = .tuple #[p, .int .i64 0] ∧ MoC B B' ∧ DK p (Dsk.new n) Ls ∧ St H0 B0 B' (Ls ++ L) r.2) := by
  refine Ev.fn (fun k => f14_eq k _ H) ?_
  repeat (first | refine Ev.s ?_ | refine Ev.newC fun _ _ _ => ?_ | refine Ev.boxC fun _ _ _ => ?_ | refine Ev.stC fun _ _ => ?_ | refine Ev.sc (by omega) ?_ | refine Ev.scg (by omega) ?_)
  rw [decide_eq_false (by omega)]
  repeat (first | refine Ev.s ?_ | refine Ev.newC fun _ _ _ => ?_ | refine Ev.boxC fun _ _ _ => ?_ | refine Ev.stC fun _ _ => ?_ | refine Ev.sc (by omega) ?_ | refine Ev.scg (by omega) ?_)
  rw [decide_eq_false (by omega)]
  repeat (first | refine Ev.s ?_ | refine Ev.newC fun _ _ _ => ?_ | refine Ev.boxC fun _ _ _ => ?_ | refine Ev.stC fun _ _ => ?_ | refine Ev.sc (by omega) ?_ | refine Ev.scg (by omega) ?_)
  refine Ev.mkS (t := 35) inferInstance hS (by omega) (by omega) fun bb B' H' hm hS' => ?_
  clear hS
  repeat (first | refine Ev.s ?_ | refine Ev.newC fun _ _ _ => ?_ | refine Ev.boxC fun _ _ _ => ?_ | refine Ev.stC fun _ _ => ?_ | refine Ev.sc (by omega) ?_ | refine Ev.scg (by omega) ?_)
  rename_i d H1 hS1
  refine Ev.ret ⟨_, _, B', rfl, ⟨hm⟩, ⟨d, bb, _, [], rfl, .inl ⟨rfl, rfl, .inl rfl, rfl⟩, rfl⟩, ?_⟩
  unfold Dsk.new
  dsimp only
  rw [byts_rep, Nat.mul_comm 64 n]
  exact hS1
end
end Go.AM.O
set_option linter.unusedVariables false
set_option linter.unusedSimpArgs false
set_option maxRecDepth 100000
namespace Go.AM.O
open Go Go.AM Go.Proofs
attribute [local irreducible] run bin un ld st box newV mkS fldA fld ixA ix slc slc3 build buildS cv cvS ap cpy lenV gOp pickV b2 aIf aChk evalK resume iterD Option.bind

section
variable {B B0 H0 H : AH} {L : List (Nat × Blk)}
theorem callV_fn {k : Nat} {g : FuncId} {xs ys : List Value} {args : List Value} {H : AH} (hg : g < yOff) : callV (rn k) (.func (.func g) ⟨xs⟩ ⟨ys⟩) args H = rn k g (xs ++ (args ++ ys)) H := by
  unfold callV
  simp only [show Nat.blt g yOff = true by rw [Nat.blt_eq]; exact hg, cond_true]
abbrev RdT9 (b1 b2 b3 : Nat) : List Value := f23_T_R0 (ptr b1 0) (ptr b2 0) (ptr b3 0)
theorem read_loop {b bx b1 b2 b3 i : Nat} {cv : Value} {cache : List (Nat × List UInt8)} {Lc : List (Nat × Blk)} (hG : GRS 77 2 cv cache.length (caCells cache) Lc) (hc : cache.length < 1000000000000) :
    ∀ (m : Nat) (B H : AH), m ≤ cache.length → St H0 B0 B ((b, ⟨.int .i64 (0 : Nat) :: RdT9 b1 b2 b3, 7, .loop 23 7⟩) :: (bx, ⟨[cv], 49, .fix⟩) :: (b3, ⟨[.int .i64 0], 23, .fix⟩) :: (b2, ⟨[.string ByteArray.empty], 9, .fix⟩) :: (b1, ⟨[i64 i], 3, .fix⟩) :: (Lc ++ L)) H →
    Ev (fun k K => f50_L0 k (.func (.yield b) #[] #[]) (ptr bx 0) (.int .i64 ((m : Int) - 1)) K H) (fun o => ∃ B' H', MoC B B' ∧
      ((find (cache.take m) i = none ∧ o = (.exit 0, f50_X_L0, H') ∧ St H0 B0 B' ((b, ⟨.int .i64 (xSt .normal : Nat) :: RdT9 b1 b2 b3, 7, .loop 23 7⟩) :: (bx, ⟨[cv], 49, .fix⟩) :: (b3, ⟨[.int .i64 0], 23, .fix⟩) :: (b2, ⟨[.string ByteArray.empty], 9, .fix⟩) :: (b1, ⟨[i64 i], 3, .fix⟩) :: (Lc ++ L)) H') ∨
       ∃ s, find (cache.take m) i = some s ∧ o = (.ret, f50_X_L0, H') ∧ St H0 B0 B' ((b, ⟨.int .i64 (xSt .ret : Nat) :: RdT9 b1 b2 b3, 7, .loop 23 7⟩) :: (bx, ⟨[cv], 49, .fix⟩) :: (b3, ⟨[.int .i64 0], 23, .fix⟩) :: (b2, ⟨[str s], 9, .fix⟩) :: (b1, ⟨[i64 i], 3, .fix⟩) :: (Lc ++ L)) H')) := by
  intro m
  induction m with
  | zero =>
    intro B H hm hS
    refine Ev.succ (fun k K => f50_L0_succ k _ _ _ K H) ?_
    repeat (first | refine Ev.s ?_ | refine Ev.newC fun _ _ _ => ?_ | refine Ev.boxC fun _ _ _ => ?_ | refine Ev.stC fun _ _ => ?_ | refine Ev.sc (by omega) ?_ | refine Ev.scg (by omega) ?_)
    rw [decide_eq_false (by omega)]
    repeat (first | refine Ev.s ?_ | refine Ev.newC fun _ _ _ => ?_ | refine Ev.boxC fun _ _ _ => ?_ | refine Ev.stC fun _ _ => ?_ | refine Ev.sc (by omega) ?_ | refine Ev.scg (by omega) ?_)
    exact Ev.ret ⟨B, H, ⟨Mo.refl B⟩, .inl ⟨rfl, rfl, hS⟩⟩
  | succ m ih =>
    intro B H hm hS
    refine Ev.succ (fun k K => f50_L0_succ k _ _ _ K H) ?_
    rw [show ((m + 1 : Nat) : Int) - 1 = (m : Int) by omega]
    have hcell := hG.cell
    repeat (first | refine Ev.s ?_ | refine Ev.newC fun _ _ _ => ?_ | refine Ev.boxC fun _ _ _ => ?_ | refine Ev.stC fun _ _ => ?_ | refine Ev.sc (by omega) ?_ | refine Ev.scg (by omega) ?_)
    rw [decide_eq_true (by omega)]
    repeat (first | refine Ev.s ?_ | refine Ev.newC fun _ _ _ => ?_ | refine Ev.boxC fun _ _ _ => ?_ | refine Ev.stC fun _ _ => ?_ | refine Ev.sc (by omega) ?_ | refine Ev.scg (by omega) ?_)
    obtain ⟨⟨a, s⟩, ha, htk⟩ := take_ex (l := cache) (m := m) (by omega)
    have hN := hG.now hS (fun p hp => .tail _ (.tail _ (.tail _ (.tail _ (.tail _ (List.mem_append_left _ hp))))))
    obtain ⟨p, q1, q2⟩ := ScN.ldAt (P := Tryd.prog) (t := 49) (k := .i64) (i := m) hN (by omega) (AggOf.eq (P := Tryd.prog) (t := 77))
    rw [caCells_at ha] at q2
    refine Ev.prim q1 ?_
    refine Ev.prim q2 ?_
    rw [htk, find_snoc]
    refine Ev.b2 (Q1 := fun r => ∃ B', MoC B B' ∧ ((a ≠ i ∧ r.1 = .bool true ∧ St H0 B0 B' ((b, ⟨.int .i64 (0 : Nat) :: RdT9 b1 b2 b3, 7, .loop 23 7⟩) :: (bx, ⟨[cv], 49, .fix⟩) :: (b3, ⟨[.int .i64 0], 23, .fix⟩) :: (b2, ⟨[.string ByteArray.empty], 9, .fix⟩) :: (b1, ⟨[i64 i], 3, .fix⟩) :: (Lc ++ L)) r.2) ∨
        (a = i ∧ r.1 = .bool false ∧ St H0 B0 B' ((b, ⟨.int .i64 (xSt .ret : Nat) :: RdT9 b1 b2 b3, 7, .loop 23 7⟩) :: (bx, ⟨[cv], 49, .fix⟩) :: (b3, ⟨[.int .i64 0], 23, .fix⟩) :: (b2, ⟨[str s], 9, .fix⟩) :: (b1, ⟨[i64 i], 3, .fix⟩) :: (Lc ++ L)) r.2)))
      (Ev.fn (fun k => f23_Y0_eq k _ _ _ _ _ b H (hS.get (.head _))) ?_) ?_
    · repeat (first | refine Ev.s ?_ | refine Ev.newC fun _ _ _ => ?_ | refine Ev.boxC fun _ _ _ => ?_ | refine Ev.stC fun _ _ => ?_ | refine Ev.sc (by omega) ?_ | refine Ev.scg (by omega) ?_)
      rename_i bv H1 hS1 H2 hS2
      refine Ev.setSt (c := 0) (d := 1) hS2 (.tail _ (.head _)) (.tail _ (.head _)) fun H3 hS3 => ?_
      clear hS hS1 hS2 hN q1 q2
      repeat (first | refine Ev.s ?_ | refine Ev.newC fun _ _ _ => ?_ | refine Ev.boxC fun _ _ _ => ?_ | refine Ev.stC fun _ _ => ?_ | refine Ev.sc (by omega) ?_ | refine Ev.scg (by omega) ?_)
      by_cases hai : a = i
      · rw [decide_eq_true hai]
        repeat (first | refine Ev.s ?_ | refine Ev.newC fun _ _ _ => ?_ | refine Ev.boxC fun _ _ _ => ?_ | refine Ev.stC fun _ _ => ?_ | refine Ev.sc (by omega) ?_ | refine Ev.scg (by omega) ?_)
        rename_i H4 hS4 H5 hS5
        refine Ev.setSt (c := 1) (d := 2) hS5 (.tail _ (.head _)) (.tail _ (.head _)) fun H6 hS6 => ?_
        exact Ev.ret ⟨B, ⟨Mo.refl B⟩, .inr ⟨hai, rfl, hS6.drop1⟩⟩
      · rw [decide_eq_false hai]
        repeat (first | refine Ev.s ?_ | refine Ev.newC fun _ _ _ => ?_ | refine Ev.boxC fun _ _ _ => ?_ | refine Ev.stC fun _ _ => ?_ | refine Ev.sc (by omega) ?_ | refine Ev.scg (by omega) ?_)
        refine Ev.setSt (c := 1) (d := 0) hS3 (.tail _ (.head _)) (.tail _ (.head _)) fun H6 hS6 => ?_
        exact Ev.ret ⟨B, ⟨Mo.refl B⟩, .inl ⟨hai, rfl, hS6.drop1⟩⟩
    · rintro v H' ⟨B', hm1, ⟨hai, rfl, hS'⟩ | ⟨hai, rfl, hS'⟩⟩
      · rw [if_neg hai]
        clear hS
        repeat (first | refine Ev.s ?_ | refine Ev.newC fun _ _ _ => ?_ | refine Ev.boxC fun _ _ _ => ?_ | refine Ev.stC fun _ _ => ?_ | refine Ev.sc (by omega) ?_ | refine Ev.scg (by omega) ?_)
        refine Ev.prim (bin_sub64 (by omega)) ?_
        refine (ih B' H' (by omega) hS').mono ?_
        rintro o ⟨B2, H2, hm2, h⟩
        exact ⟨B2, H2, ⟨hm1.mo.trans hm2.mo⟩, h⟩
      · rw [if_pos hai]
        clear hS
        repeat (first | refine Ev.s ?_ | refine Ev.newC fun _ _ _ => ?_ | refine Ev.boxC fun _ _ _ => ?_ | refine Ev.stC fun _ _ => ?_ | refine Ev.sc (by omega) ?_ | refine Ev.scg (by omega) ?_)
        exact Ev.ret ⟨B', H', hm1, .inr ⟨s, rfl, rfl, hS'⟩⟩
theorem Read_spec {p : Value} {D : Dsk} {Ls : List (Nat × Blk)} {i : Int} (hD : DK p D Ls) (hO : D.OK) (hc : D.cache.length < 1000000000000) (hS : St H0 B0 B (Ls ++ L) H) :
    Ev (fun k _ => rn k 23 [p, .int .i64 i] H) (fun r => r.1 = .tuple #[str (D.read i).1, .int .i64 (D.read i).2] ∧ ∃ B', MoC B B' ∧ St H0 B0 B' (Ls ++ L) r.2) := by
  have hD0 := hD
  obtain ⟨n, bytes, cache, fu, dn⟩ := D
  obtain ⟨d, bb, cv, Lc, rfl, hG, rfl⟩ := hD
  have h1 := hO.n1
  have h2 := hO.n2
  have hlen := hO.len
  dsimp only at hS hc hG hD0 h1 h2 hlen
  simp only [List.cons_append] at hS ⊢
  have hcell := hG.cell
  refine Ev.fn (fun k => f23_eq k _ _ H) ?_
  repeat (first | refine Ev.s ?_ | refine Ev.newC fun _ _ _ => ?_ | refine Ev.boxC fun _ _ _ => ?_ | refine Ev.stC fun _ _ => ?_ | refine Ev.sc (by omega) ?_ | refine Ev.scg (by omega) ?_)
  rename_i b1 H1 hS1 b2 H2 hS2 b3 H3 hS3
  unfold Dsk.read
  dsimp only
  cases dn with
  | true =>
    clear hS hS1 hS2
    repeat (first | refine Ev.s ?_ | refine Ev.newC fun _ _ _ => ?_ | refine Ev.boxC fun _ _ _ => ?_ | refine Ev.stC fun _ _ => ?_ | refine Ev.sc (by omega) ?_ | refine Ev.scg (by omega) ?_)
    rename_i H4 hS4 H5 hS5
    exact Ev.ret ⟨rfl, B, ⟨Mo.refl B⟩, drop_3 hS5⟩
  | false =>
    clear hS hS1 hS2
    repeat (first | refine Ev.s ?_ | refine Ev.newC fun _ _ _ => ?_ | refine Ev.boxC fun _ _ _ => ?_ | refine Ev.stC fun _ _ => ?_ | refine Ev.sc (by omega) ?_ | refine Ev.scg (by omega) ?_)
    rw [if_neg (fun h => by cases h)]
    by_cases hi : i < 0
    · rw [decide_eq_true hi, if_pos (.inl hi)]
      repeat (first | refine Ev.s ?_ | refine Ev.newC fun _ _ _ => ?_ | refine Ev.boxC fun _ _ _ => ?_ | refine Ev.stC fun _ _ => ?_ | refine Ev.sc (by omega) ?_ | refine Ev.scg (by omega) ?_)
      rename_i H4 hS4 H5 hS5
      exact Ev.ret ⟨rfl, B, ⟨Mo.refl B⟩, drop_3 hS5⟩
    rw [decide_eq_false hi]
    obtain ⟨q, rfl⟩ : ∃ q : Nat, i = q := ⟨i.toNat, by omega⟩
    repeat (first | refine Ev.s ?_ | refine Ev.newC fun _ _ _ => ?_ | refine Ev.boxC fun _ _ _ => ?_ | refine Ev.stC fun _ _ => ?_ | refine Ev.sc (by omega) ?_ | refine Ev.scg (by omega) ?_)
    refine Ev.b2 (Sectors_spec hD0 hO hS3 ?_) ?_
    · intro x hx
      exact .tail _ (.tail _ (.tail _ (by rw [← List.cons_append, ← List.cons_append]; exact List.mem_append_left _ hx)))
    rintro _ _ ⟨rfl, rfl⟩
    repeat (first | refine Ev.s ?_ | refine Ev.newC fun _ _ _ => ?_ | refine Ev.boxC fun _ _ _ => ?_ | refine Ev.stC fun _ _ => ?_ | refine Ev.sc (by omega) ?_ | refine Ev.scg (by omega) ?_)
    by_cases hq : n ≤ q
    · rw [decide_eq_true hq, if_pos (.inr (by omega))]
      repeat (first | refine Ev.s ?_ | refine Ev.newC fun _ _ _ => ?_ | refine Ev.boxC fun _ _ _ => ?_ | refine Ev.stC fun _ _ => ?_ | refine Ev.sc (by omega) ?_ | refine Ev.scg (by omega) ?_)
      rename_i H4 hS4 H5 hS5
      exact Ev.ret ⟨rfl, B, ⟨Mo.refl B⟩, drop_3 hS5⟩
    rw [decide_eq_false hq, if_neg (by omega)]
    repeat (first | refine Ev.s ?_ | refine Ev.newC fun _ _ _ => ?_ | refine Ev.boxC fun _ _ _ => ?_ | refine Ev.stC fun _ _ => ?_ | refine Ev.sc (by omega) ?_ | refine Ev.scg (by omega) ?_)
    refine Ev.b2 (Q1 := fun r => ∃ bx, r.1 = .func (.func 50) #[] #[ptr bx 0] ∧ St H0 B0 B ((bx, ⟨[cv], 49, .fix⟩) :: (b3, ⟨[.int .i64 0], 23, .fix⟩) :: (b2, ⟨[.string ByteArray.empty], 9, .fix⟩) :: (b1, ⟨[i64 q], 3, .fix⟩) :: (d, ⟨[sl bb 0 (64 * n) (64 * n), cv, .int .i64 fu, .bool false], 51, .fix⟩) :: (bb, ⟨byts bytes, 5, .fix⟩) :: (Lc ++ L)) r.2)
      (Ev.fn (fun k => f41_eq k _ H3) ?_) ?_
    · repeat (first | refine Ev.s ?_ | refine Ev.newC fun _ _ _ => ?_ | refine Ev.boxC fun _ _ _ => ?_ | refine Ev.stC fun _ _ => ?_ | refine Ev.sc (by omega) ?_ | refine Ev.scg (by omega) ?_)
      rename_i bx H4 hS4
      exact Ev.ret ⟨bx, rfl, hS4⟩
    rintro _ H4 ⟨bx, rfl, hS4⟩
    simp only [callV_fn (show 50 < yOff by unfold yOff; omega), List.nil_append, List.cons_append]
    have hS5 := hS4.mkB' (.int .i64 0 :: RdT9 b1 b2 b3) 7 (.loop 23 7)
    clear hS3
    have hS6 := toFront (X := Lc) (La := [(H4.length, ⟨.int .i64 0 :: RdT9 b1 b2 b3, 7, .loop 23 7⟩), (bx, ⟨[cv], 49, .fix⟩), (b3, ⟨[.int .i64 0], 23, .fix⟩), (b2, ⟨[.string ByteArray.empty], 9, .fix⟩), (b1, ⟨[i64 q], 3, .fix⟩), (d, ⟨[sl bb 0 (64 * n) (64 * n), cv, .int .i64 fu, .bool false], 51, .fix⟩), (bb, ⟨byts bytes, 5, .fix⟩)]) (L := L) hS5
    have hS7 := toFront (X := [(H4.length, ⟨.int .i64 0 :: RdT9 b1 b2 b3, 7, .loop 23 7⟩), (bx, ⟨[cv], 49, .fix⟩), (b3, ⟨[.int .i64 0], 23, .fix⟩), (b2, ⟨[.string ByteArray.empty], 9, .fix⟩), (b1, ⟨[i64 q], 3, .fix⟩)]) (La := Lc) (L := [(d, ⟨[sl bb 0 (64 * n) (64 * n), cv, .int .i64 fu, .bool false], 51, .fix⟩), (bb, ⟨byts bytes, 5, .fix⟩)] ++ L) hS6
    simp only [List.cons_append, List.nil_append] at hS7
    clear hS4 hS5 hS6
    have key : Ev (fun k _ => rn k 50 [.func (.yield H4.length) #[] #[], ptr bx 0] (mkB H4 (.int .i64 0 :: RdT9 b1 b2 b3) 7 (.loop 23 7))) (fun r => ∃ B', MoC B B' ∧
        ((find cache q = none ∧ St H0 B0 B' ((H4.length, ⟨.int .i64 (xSt .normal : Nat) :: RdT9 b1 b2 b3, 7, .loop 23 7⟩) :: (bx, ⟨[cv], 49, .fix⟩) :: (b3, ⟨[.int .i64 0], 23, .fix⟩) :: (b2, ⟨[.string ByteArray.empty], 9, .fix⟩) :: (b1, ⟨[i64 q], 3, .fix⟩) :: (Lc ++ ([(d, ⟨[sl bb 0 (64 * n) (64 * n), cv, .int .i64 fu, .bool false], 51, .fix⟩), (bb, ⟨byts bytes, 5, .fix⟩)] ++ L))) r.2) ∨
         ∃ s, find cache q = some s ∧ St H0 B0 B' ((H4.length, ⟨.int .i64 (xSt .ret : Nat) :: RdT9 b1 b2 b3, 7, .loop 23 7⟩) :: (bx, ⟨[cv], 49, .fix⟩) :: (b3, ⟨[.int .i64 0], 23, .fix⟩) :: (b2, ⟨[str s], 9, .fix⟩) :: (b1, ⟨[i64 q], 3, .fix⟩) :: (Lc ++ ([(d, ⟨[sl bb 0 (64 * n) (64 * n), cv, .int .i64 fu, .bool false], 51, .fix⟩), (bb, ⟨byts bytes, 5, .fix⟩)] ++ L))) r.2)) := by
      refine Ev.fn (fun k => f50_eq k _ _ _) ?_
      repeat (first | refine Ev.s ?_ | refine Ev.newC fun _ _ _ => ?_ | refine Ev.boxC fun _ _ _ => ?_ | refine Ev.stC fun _ _ => ?_ | refine Ev.sc (by omega) ?_ | refine Ev.scg (by omega) ?_)
      refine Ev.prim (hG.len (Und.eq (P := Tryd.prog) (t := 49))) ?_
      refine Ev.prim (bin_sub64 (by omega)) ?_
      refine Ev.bind (Ev.loop (read_loop hG hc cache.length B _ (Nat.le_refl _) hS7)) ?_
      rw [List.take_length]
      rintro _ ⟨B', H', hm, ⟨hf, rfl, hS'⟩ | ⟨s, hf, rfl, hS'⟩⟩
      · refine Ev.eq (fun k _ => f50_A0_x0 k _) ?_
        exact Ev.ret ⟨B', hm, .inl ⟨hf, hS'⟩⟩
      · refine Ev.eq (fun k _ => f50_A0_ret k _) ?_
        exact Ev.ret ⟨B', hm, .inr ⟨s, hf, hS'⟩⟩
    refine Ev.b2 key ?_
    clear hS7
    rintro _ H5 ⟨B', hm, ⟨hf, hS'⟩ | ⟨s, hf, hS'⟩⟩
    · refine Ev.rgBack hS' fun H6 hS6 => ?_
      refine Ev.eq (fun k _ => f23_B0_normal k _ _ _ _ H6) ?_
      clear hS'
      have hS7 := hS6.perm (show ([(bx, _), (b3, _), (b2, _), (b1, _)] ++ ([(d, _), (bb, _)] ++ (Lc ++ L))).Perm _ from List.Perm.append_left _ (permA [(d, _), (bb, _)] Lc L).symm)
      simp only [List.cons_append, List.nil_append] at hS7
      clear hS6
      repeat (first | refine Ev.s ?_ | refine Ev.newC fun _ _ _ => ?_ | refine Ev.boxC fun _ _ _ => ?_ | refine Ev.stC fun _ _ => ?_ | refine Ev.sc (by omega) ?_ | refine Ev.scg (by omega) ?_)
      refine Ev.prim (slc_own2 (t := 35) (by omega)) ?_
      rw [if_neg (by omega)]
      refine Ev.prim (cvS_part (d := 9) (bs := bytes) hS7 (.tail _ (.tail _ (.tail _ (.tail _ (.tail _ (.head _)))))) (by omega) (by omega)) ?_
      repeat (first | refine Ev.s ?_ | refine Ev.newC fun _ _ _ => ?_ | refine Ev.boxC fun _ _ _ => ?_ | refine Ev.stC fun _ _ => ?_ | refine Ev.sc (by omega) ?_ | refine Ev.scg (by omega) ?_)
      rename_i H8 hS8 H9 hS9
      refine Ev.ret ⟨?_, B', hm, hS9.drop1.drop1.drop1.drop1⟩
      unfold Dsk.look Dsk.sector
      dsimp only
      rw [Int.toNat_natCast, hf]
      simp only [Option.getD_none, Nat.mul_comm 64 q, show (q + 1) * 64 - q * 64 = 64 by omega]
      rfl
    · refine Ev.rgBack hS' fun H6 hS6 => ?_
      refine Ev.eq (fun k _ => f23_B0_ret k _ _ _ _ H6) ?_
      clear hS'
      have hS7 := hS6.perm (show ([(bx, _), (b3, _), (b2, _), (b1, _)] ++ ([(d, _), (bb, _)] ++ (Lc ++ L))).Perm _ from List.Perm.append_left _ (permA [(d, _), (bb, _)] Lc L).symm)
      simp only [List.cons_append, List.nil_append] at hS7
      clear hS6
      repeat (first | refine Ev.s ?_ | refine Ev.newC fun _ _ _ => ?_ | refine Ev.boxC fun _ _ _ => ?_ | refine Ev.stC fun _ _ => ?_ | refine Ev.sc (by omega) ?_ | refine Ev.scg (by omega) ?_)
      refine Ev.ret ⟨?_, B', hm, hS7.drop1.drop1.drop1.drop1⟩
      unfold Dsk.look
      dsimp only
      rw [Int.toNat_natCast, hf]
      rfl
end
end Go.AM.O
set_option linter.unusedVariables false
set_option linter.unusedSimpArgs false
namespace Go.AM
def sec (bs : List UInt8) (j : Nat) : List UInt8 := (bs.drop (64 * j)).take 64
theorem sec_len {bs : List UInt8} {j n : Nat} (h : bs.length = 64 * n) (hj : j < n) : (sec bs j).length = 64 := by
  unfold sec; rw [List.length_take, List.length_drop]; omega
theorem sec_lay {bs s : List UInt8} {a j n : Nat} (h : bs.length = 64 * n) (ha : a < n) (hs : s.length ≤ 64) : sec (layB bs a s) j = if a = j then s ++ (sec bs j).drop s.length else sec bs j := by
  unfold sec layB
  apply List.ext_getElem?
  intro i
  split
  · rename_i he
    subst he
    simp only [List.getElem?_take, List.getElem?_drop, List.getElem?_append, List.length_take, List.length_drop]
    by_cases h1 : i < 64
    · rw [if_pos h1, if_neg (by omega)]
      by_cases h2 : i < s.length
      · rw [if_pos (by omega), if_pos h2]
        congr 1
        omega
      · rw [if_neg (by omega), if_neg h2, if_pos (by omega)]
        congr 1
        omega
    · rw [if_neg h1, if_neg (by omega), if_neg (by omega)]
  · rename_i he
    simp only [List.getElem?_take, List.getElem?_drop, List.getElem?_append, List.length_take, List.length_drop]
    by_cases h1 : i < 64
    · rw [if_pos h1, if_pos h1]
      by_cases h2 : j < a
      · rw [if_pos (by omega), if_pos (by omega)]
      · rw [if_neg (by omega), if_neg (by omega)]
        congr 1
        omega
    · rw [if_neg h1, if_neg h1]
theorem sec_lay64 {bs s : List UInt8} {a j n : Nat} (h : bs.length = 64 * n) (ha : a < n) (hs : s.length = 64) (hj : j < n) : sec (layB bs a s) j = if a = j then s else sec bs j := by
  rw [sec_lay h ha (by omega)]
  split
  · rw [List.drop_of_length_le (by rw [sec_len h hj]; omega), List.append_nil]
  · rfl
theorem layAll_snoc (l : List (Nat × List UInt8)) (p : Nat × List UInt8) (bs : List UInt8) : layAll (l ++ [p]) bs = layB (layAll l bs) p.1 p.2 := by
  unfold layAll; simp
theorem sec_layAll {n j : Nat} (hj : j < n) : ∀ (m : Nat) (l : List (Nat × List UInt8)) (bs : List UInt8), l.length = m → bs.length = 64 * n → (∀ p ∈ l, p.1 < n ∧ p.2.length = 64) → sec (layAll l bs) j = (find l j).getD (sec bs j)
  | 0, l, bs, hm, h, _ => by
    have : l = [] := List.length_eq_zero_iff.1 hm
    subst this
    rfl
  | m + 1, l, bs, hm, h, hp => by
    obtain ⟨⟨a, s⟩, hx, htk⟩ := take_ex (l := l) (m := m) (by omega)
    rw [List.take_of_length_le (by omega)] at htk
    have h1 := hp (a, s) (List.mem_of_getElem? hx)
    have ih := sec_layAll hj m (l.take m) bs (by rw [List.length_take]; omega) h fun p hp' => hp p (List.mem_of_mem_take hp')
    rw [htk, layAll_snoc, find_snoc]
    dsimp only at h1 ⊢
    rw [sec_lay64 (layAll_len _ _ n h fun p hp' => hp p (List.mem_of_mem_take hp')) h1.1 h1.2 hj, ih]
    split <;> rfl
theorem look_flush {D : Dsk} (h : D.OK) {j : Nat} (hj : j < D.n) : D.flush.look j = D.look j := sec_layAll hj _ D.cache D.bytes rfl h.len h.ca
theorem look_put {D : Dsk} {a j : Nat} {s : List UInt8} : (D.put a s).look j = if a = j then s else D.look j := by
  unfold Dsk.look Dsk.put Dsk.sector
  dsimp only
  rw [find_snoc]
  split <;> rfl
theorem look_len {D : Dsk} (h : D.OK) {j : Nat} (hj : j < D.n) : (D.look j).length = 64 := by
  rw [← look_flush h hj]
  exact sec_len (layAll_len _ _ _ h.len h.ca) hj
/-- A disk whose power is there, and whose fuse is none. -/
structure Dsk.Up (D : Dsk) (n : Nat) : Prop where
  ok : D.OK
  n : D.n = n
  fu : D.fuse = -1
  dn : D.down = false
theorem Dsk.up_new {n : Nat} (h1 : 1 ≤ n) (h2 : n ≤ 1024) : (Dsk.new n).Up n := ⟨Dsk.ok_new h1 h2, rfl, rfl, rfl⟩
theorem Dsk.Up.write {D : Dsk} {n i : Nat} {s : List UInt8} (h : D.Up n) (hi : i < n) (hs : s.length = 64) : D.write (i : Int) s = (0, D.put i s) := by
  obtain ⟨n', bytes, cache, fu, dn⟩ := D
  obtain ⟨h1, h2, h3, h4⟩ := h
  dsimp only at h2 h3 h4
  subst h2 h3 h4
  unfold Dsk.write Dsk.act Dsk.put
  dsimp only
  rw [if_neg (by decide), if_neg (by omega), if_neg (by decide)]
  simp
  rfl
theorem Dsk.Up.put {D : Dsk} {n i : Nat} {s : List UInt8} (h : D.Up n) (hi : i < n) (hs : s.length = 64) : (D.put i s).Up n := ⟨h.ok.put (by rw [h.n]; exact hi) hs, h.n, h.fu, h.dn⟩
theorem Dsk.Up.flush {D : Dsk} {n : Nat} (h : D.Up n) : D.flush.Up n := ⟨h.ok.flush, h.n, h.fu, h.dn⟩
theorem Dsk.Up.read {D : Dsk} {n i : Nat} (h : D.Up n) (hi : i < n) : D.read (i : Int) = (D.look i, 0) := by
  unfold Dsk.read
  rw [if_neg (by rw [h.dn]; decide), if_neg (by rw [h.n]; omega), Int.toNat_natCast]
end Go.AM
set_option linter.unusedVariables false
set_option linter.unusedSimpArgs false
namespace Go.AM
def Dsk.pwrite (D : Dsk) (n kind : Int) (t : List UInt8) : Int × Dsk :=
  if (sealR kind t).2 ≠ 0 ∨ n < 0 ∨ n > 1048576 then (1, D)
  else if (D.write (2 * n) ((sealR kind t).1.take 64)).1 ≠ 0 then D.write (2 * n) ((sealR kind t).1.take 64)
  else (D.write (2 * n) ((sealR kind t).1.take 64)).2.write (2 * n + 1) ((sealR kind t).1.drop 64)
def Dsk.pread (D : Dsk) (n : Int) : Int × List UInt8 × Int :=
  if n < 0 ∨ n > 1048576 then (0, [], 1) else if (D.read (2 * n)).2 ≠ 0 then (0, [], (D.read (2 * n)).2)
  else if (D.read (2 * n + 1)).2 ≠ 0 then (0, [], (D.read (2 * n + 1)).2) else openR ((D.read (2 * n)).1 ++ (D.read (2 * n + 1)).1)
theorem read_len {D : Dsk} (h : D.OK) (i : Int) : (D.read i).1.length ≤ 64 := by
  unfold Dsk.read
  split
  · exact Nat.zero_le _
  · split
    · exact Nat.zero_le _
    · exact Nat.le_of_eq (look_len h (by omega))
theorem write_cache (D : Dsk) (i : Int) (s : List UInt8) : (D.write i s).2.cache.length ≤ D.cache.length + 1 := by
  unfold Dsk.write
  split
  · exact Nat.le_succ _
  · split
    · exact Nat.le_succ _
    · unfold Dsk.act
      split
      · exact Nat.le_succ _
      · show (D.cache ++ [_]).length ≤ _
        rw [List.length_append]; exact Nat.le_refl _
/-- On a disk whose power is there. -/
theorem Dsk.Up.pwrite {D : Dsk} {m n k : Nat} {t : List UInt8} (h : D.Up (2 * m)) (hn : n < m) (hm : m ≤ 1048576) (hk : 1 ≤ k) (hk9 : k ≤ 9) (ht : t.length ≤ 120) :
    D.pwrite (n : Int) (k : Int) t = (0, (D.put (2 * n) ((sealL k t).take 64)).put (2 * n + 1) ((sealL k t).drop 64)) := by
  have h1 : ((sealL k t).take 64).length = 64 := by rw [List.length_take, seal_len ht]; rfl
  have h2 : ((sealL k t).drop 64).length = 64 := by rw [List.length_drop, seal_len ht]
  unfold Dsk.pwrite
  rw [sealR_nat hk hk9 ht, if_neg (by dsimp only; omega)]
  dsimp only
  rw [show (2 : Int) * (n : Int) = ((2 * n : Nat) : Int) by omega, h.write (by omega) h1, if_neg (by simp)]
  rw [show ((2 * n : Nat) : Int) + 1 = ((2 * n + 1 : Nat) : Int) by omega]
  exact (h.put (by omega) h1).write (by omega) h2
theorem Dsk.Up.pput {D : Dsk} {m n k : Nat} {t : List UInt8} (h : D.Up (2 * m)) (hn : n < m) (ht : t.length ≤ 120) : ((D.put (2 * n) ((sealL k t).take 64)).put (2 * n + 1) ((sealL k t).drop 64)).Up (2 * m) :=
  (h.put (by omega) (by rw [List.length_take, seal_len ht]; rfl)).put (by omega) (by rw [List.length_drop, seal_len ht])
theorem Dsk.Up.pread {D : Dsk} {m n : Nat} (h : D.Up (2 * m)) (hn : n < m) (hm : m ≤ 1048576) : D.pread (n : Int) = openR (D.look (2 * n) ++ D.look (2 * n + 1)) := by
  unfold Dsk.pread
  rw [if_neg (by omega), show (2 : Int) * (n : Int) = ((2 * n : Nat) : Int) by omega, h.read (by omega), if_neg (by simp),
    show ((2 * n : Nat) : Int) + 1 = ((2 * n + 1 : Nat) : Int) by omega, h.read (by omega), if_neg (by simp)]
end Go.AM
set_option linter.unusedVariables false
set_option linter.unusedSimpArgs false
set_option maxRecDepth 100000
namespace Go.AM.O
open Go Go.AM Go.Proofs
attribute [local irreducible] run bin un ld st box newV mkS fldA fld ixA ix slc slc3 build buildS cv cvS ap cpy lenV gOp pickV b2 aIf aChk evalK resume iterD Option.bind

section
variable {B B0 H0 H : AH} {L : List (Nat × Blk)}
theorem pWrite_spec {p : Value} {D : Dsk} {Ls : List (Nat × Blk)} {n kind : Int} {t : List UInt8} (hD : DK p D Ls) (hO : D.OK) (hc : D.cache.length + 1 < 1000000000000) (ht : t.length < 9223372036854775808) (hk : -9223372036854775808 ≤ kind ∧ kind < 9223372036854775808) (hS : St H0 B0 B (Ls ++ L) H) :
    Ev (fun k _ => rn k 15 [p, .int .i64 n, .int .i64 kind, str t] H) (DkP H0 B0 B L p (.int .i64 (D.pwrite n kind t).1) (D.pwrite n kind t).2) := by
  refine Ev.fn (fun k => f15_eq k _ _ _ _ H) ?_
  refine Ev.b2 (Seal_spec ht hk hS) ?_
  rintro _ H1 ⟨rfl, B1, hm1, hS1⟩
  dsimp only at hS1
  clear hS
  unfold SealV Dsk.pwrite
  have hso := @sealR_ok kind t
  generalize sealR kind t = sr at hso
  obtain ⟨s, e⟩ := sr
  dsimp only at hso ⊢
  by_cases h0 : e = 0
  case neg =>
    rw [if_pos (.inl h0)]
    repeat (first | refine Ev.s ?_ | refine Ev.newC fun _ _ _ => ?_ | refine Ev.boxC fun _ _ _ => ?_ | refine Ev.stC fun _ _ => ?_ | refine Ev.sc (by omega) ?_ | refine Ev.scg (by omega) ?_)
    rw [decide_eq_true h0]
    repeat (first | refine Ev.s ?_ | refine Ev.newC fun _ _ _ => ?_ | refine Ev.boxC fun _ _ _ => ?_ | refine Ev.stC fun _ _ => ?_ | refine Ev.sc (by omega) ?_ | refine Ev.scg (by omega) ?_)
    exact Ev.ret ⟨rfl, Ls, B1, hm1, hD, hS1⟩
  by_cases h1 : n < 0
  · rw [if_pos (.inr (.inl h1))]
    repeat (first | (first | refine Ev.s ?_ | refine Ev.newC fun _ _ _ => ?_ | refine Ev.boxC fun _ _ _ => ?_ | refine Ev.stC fun _ _ => ?_ | refine Ev.sc (by omega) ?_ | refine Ev.scg (by omega) ?_) | rw [decide_eq_true (by omega)] | rw [decide_eq_false (by omega)])
    exact Ev.ret ⟨rfl, Ls, B1, hm1, hD, hS1⟩
  by_cases h2 : n > 1048576
  · rw [if_pos (.inr (.inr h2))]
    repeat (first | (first | refine Ev.s ?_ | refine Ev.newC fun _ _ _ => ?_ | refine Ev.boxC fun _ _ _ => ?_ | refine Ev.stC fun _ _ => ?_ | refine Ev.sc (by omega) ?_ | refine Ev.scg (by omega) ?_) | rw [decide_eq_true (by omega)] | rw [decide_eq_false (by omega)])
    exact Ev.ret ⟨rfl, Ls, B1, hm1, hD, hS1⟩
  rw [if_neg (by omega)]
  obtain ⟨m, rfl⟩ : ∃ m : Nat, n = m := ⟨n.toNat, by omega⟩
  have hsl : s.length = 128 := by
    obtain ⟨_, _, _, _, h5, h6⟩ := hso h0
    rw [h6, seal_len h5]
  rw [show (2 : Int) * (m : Int) = ((2 * m : Nat) : Int) by omega, show ((2 * m : Nat) : Int) + 1 = ((2 * m + 1 : Nat) : Int) by omega]
  repeat (first | (first | refine Ev.s ?_ | refine Ev.newC fun _ _ _ => ?_ | refine Ev.boxC fun _ _ _ => ?_ | refine Ev.stC fun _ _ => ?_ | refine Ev.sc (by omega) ?_ | refine Ev.scg (by omega) ?_) | rw [decide_eq_true (by omega)] | rw [decide_eq_false (by omega)])
  refine Ev.prim (show slc Tryd.prog 9 (str s) none (some (.int .i64 64)) = some (str (s.take 64)) from slc_strT (l := s) (i := 64) (by omega)) ?_
  refine Ev.b2 (Write_spec (i := ((2 * m : Nat) : Int)) hD hO (by omega) hS1) ?_
  have hwo := hO.write ((2 * m : Nat) : Int) (s.take 64)
  have hwc := write_cache D ((2 * m : Nat) : Int) (s.take 64)
  generalize D.write ((2 * m : Nat) : Int) (s.take 64) = w at hwo hwc
  obtain ⟨w1, w2⟩ := w
  dsimp only at hwo hwc ⊢
  rintro _ H2 ⟨rfl, Ls2, B2, hm2, hD2, hS2⟩
  dsimp only at hS2
  clear hS1
  by_cases hw : w1 = 0
  case neg =>
    rw [if_pos hw]
    repeat (first | refine Ev.s ?_ | refine Ev.newC fun _ _ _ => ?_ | refine Ev.boxC fun _ _ _ => ?_ | refine Ev.stC fun _ _ => ?_ | refine Ev.sc (by omega) ?_ | refine Ev.scg (by omega) ?_)
    rw [decide_eq_true hw]
    repeat (first | refine Ev.s ?_ | refine Ev.newC fun _ _ _ => ?_ | refine Ev.boxC fun _ _ _ => ?_ | refine Ev.stC fun _ _ => ?_ | refine Ev.sc (by omega) ?_ | refine Ev.scg (by omega) ?_)
    exact Ev.ret ⟨rfl, Ls2, B2, ⟨hm1.mo.trans hm2.mo⟩, hD2, hS2⟩
  rw [if_neg (by simpa using hw)]
  repeat (first | refine Ev.s ?_ | refine Ev.newC fun _ _ _ => ?_ | refine Ev.boxC fun _ _ _ => ?_ | refine Ev.stC fun _ _ => ?_ | refine Ev.sc (by omega) ?_ | refine Ev.scg (by omega) ?_)
  rw [decide_eq_false (by simpa using hw)]
  repeat (first | (first | refine Ev.s ?_ | refine Ev.newC fun _ _ _ => ?_ | refine Ev.boxC fun _ _ _ => ?_ | refine Ev.stC fun _ _ => ?_ | refine Ev.sc (by omega) ?_ | refine Ev.scg (by omega) ?_) | rw [decide_eq_true (by omega)] | rw [decide_eq_false (by omega)])
  refine Ev.prim (show slc Tryd.prog 9 (str s) (some (.int .i64 64)) none = some (str (s.drop 64)) from slc_str (l := s) 64 rfl (by omega)) ?_
  refine Ev.b2 (Write_spec (i := ((2 * m + 1 : Nat) : Int)) hD2 hwo (by omega) hS2) ?_
  rintro _ H3 ⟨rfl, Ls3, B3, hm3, hD3, hS3⟩
  exact Ev.ret ⟨rfl, Ls3, B3, ⟨hm1.mo.trans (hm2.mo.trans hm3.mo)⟩, hD3, hS3⟩
theorem pRead_spec {p : Value} {D : Dsk} {Ls : List (Nat × Blk)} {n : Int} (hD : DK p D Ls) (hO : D.OK) (hc : D.cache.length < 1000000000000) (hS : St H0 B0 B (Ls ++ L) H) :
    Ev (fun k _ => rn k 16 [p, .int .i64 n] H) (fun r => r.1 = OpenV (D.pread n) ∧ ∃ B', MoC B B' ∧ St H0 B0 B' (Ls ++ L) r.2) := by
  refine Ev.fn (fun k => f16_eq k _ _ H) ?_
  unfold Dsk.pread
  by_cases h1 : n < 0
  · rw [if_pos (.inl h1)]
    repeat (first | (first | refine Ev.s ?_ | refine Ev.newC fun _ _ _ => ?_ | refine Ev.boxC fun _ _ _ => ?_ | refine Ev.stC fun _ _ => ?_ | refine Ev.sc (by omega) ?_ | refine Ev.scg (by omega) ?_) | rw [decide_eq_true (by omega)] | rw [decide_eq_false (by omega)])
    exact Ev.ret ⟨rfl, B, ⟨Mo.refl B⟩, hS⟩
  by_cases h2 : n > 1048576
  · rw [if_pos (.inr h2)]
    repeat (first | (first | refine Ev.s ?_ | refine Ev.newC fun _ _ _ => ?_ | refine Ev.boxC fun _ _ _ => ?_ | refine Ev.stC fun _ _ => ?_ | refine Ev.sc (by omega) ?_ | refine Ev.scg (by omega) ?_) | rw [decide_eq_true (by omega)] | rw [decide_eq_false (by omega)])
    exact Ev.ret ⟨rfl, B, ⟨Mo.refl B⟩, hS⟩
  rw [if_neg (by omega)]
  obtain ⟨m, rfl⟩ : ∃ m : Nat, n = m := ⟨n.toNat, by omega⟩
  rw [show (2 : Int) * (m : Int) = ((2 * m : Nat) : Int) by omega, show ((2 * m : Nat) : Int) + 1 = ((2 * m + 1 : Nat) : Int) by omega]
  repeat (first | (first | refine Ev.s ?_ | refine Ev.newC fun _ _ _ => ?_ | refine Ev.boxC fun _ _ _ => ?_ | refine Ev.stC fun _ _ => ?_ | refine Ev.sc (by omega) ?_ | refine Ev.scg (by omega) ?_) | rw [decide_eq_true (by omega)] | rw [decide_eq_false (by omega)])
  have h64a := read_len hO ((2 * m : Nat) : Int)
  have h64b := read_len hO ((2 * m + 1 : Nat) : Int)
  have key : Ev (fun k K => f16_L0 k p (i64 m) (str []) (i64 0) K H) (fun o => ∃ B' H', MoC B B' ∧ St H0 B0 B' (Ls ++ L) H' ∧
      (((D.read ((2 * m : Nat) : Int)).2 ≠ 0 ∧ o = (.ret, f16_X_L0 (.int .i64 0) (str []) (.int .i64 (D.read ((2 * m : Nat) : Int)).2) (str []), H'))
        ∨ ((D.read ((2 * m : Nat) : Int)).2 = 0 ∧ (D.read ((2 * m + 1 : Nat) : Int)).2 ≠ 0 ∧ o = (.ret, f16_X_L0 (.int .i64 0) (str []) (.int .i64 (D.read ((2 * m + 1 : Nat) : Int)).2) (str (D.read ((2 * m : Nat) : Int)).1), H'))
        ∨ ((D.read ((2 * m : Nat) : Int)).2 = 0 ∧ (D.read ((2 * m + 1 : Nat) : Int)).2 = 0 ∧ o = (.exit 0, f16_X_L0 unk unk unk (str ((D.read ((2 * m : Nat) : Int)).1 ++ (D.read ((2 * m + 1 : Nat) : Int)).1)), H')))) := by
    refine Ev.succ (fun k K => f16_L0_succ k _ _ _ _ K H) ?_
    repeat (first | (first | refine Ev.s ?_ | refine Ev.newC fun _ _ _ => ?_ | refine Ev.boxC fun _ _ _ => ?_ | refine Ev.stC fun _ _ => ?_ | refine Ev.sc (by omega) ?_ | refine Ev.scg (by omega) ?_) | rw [decide_eq_true (by omega)] | rw [decide_eq_false (by omega)])
    refine Ev.b2 (Read_spec (i := ((2 * m : Nat) : Int)) hD hO hc (by exact hS)) ?_
    generalize D.read ((2 * m : Nat) : Int) = ra at h64a
    generalize hrb : D.read ((2 * m + 1 : Nat) : Int) = rb at h64b
    obtain ⟨a, ea⟩ := ra
    obtain ⟨b, eb⟩ := rb
    try dsimp only at h64a h64b ⊢
    rintro _ H1 ⟨rfl, B1, hm1, hS1⟩
    try dsimp only at hS1
    clear hS
    repeat (first | refine Ev.s ?_ | refine Ev.newC fun _ _ _ => ?_ | refine Ev.boxC fun _ _ _ => ?_ | refine Ev.stC fun _ _ => ?_ | refine Ev.sc (by omega) ?_ | refine Ev.scg (by omega) ?_)
    by_cases he : ea = 0
    case neg =>
      rw [decide_eq_true he]
      repeat (first | refine Ev.s ?_ | refine Ev.newC fun _ _ _ => ?_ | refine Ev.boxC fun _ _ _ => ?_ | refine Ev.stC fun _ _ => ?_ | refine Ev.sc (by omega) ?_ | refine Ev.scg (by omega) ?_)
      exact Ev.ret ⟨B1, H1, hm1, hS1, .inl ⟨he, rfl⟩⟩
    rw [decide_eq_false (by simpa using he)]
    repeat (first | refine Ev.s ?_ | refine Ev.newC fun _ _ _ => ?_ | refine Ev.boxC fun _ _ _ => ?_ | refine Ev.stC fun _ _ => ?_ | refine Ev.sc (by omega) ?_ | refine Ev.scg (by omega) ?_)
    refine Ev.prim (show bin Tryd.prog .add 9 (str []) (str a) = some (str a) from add_str (a := []) (b := a) (by simp; omega)) ?_
    repeat (first | refine Ev.s ?_ | refine Ev.newC fun _ _ _ => ?_ | refine Ev.boxC fun _ _ _ => ?_ | refine Ev.stC fun _ _ => ?_ | refine Ev.sc (by omega) ?_ | refine Ev.scg (by omega) ?_)
    refine Ev.succ (fun k K => f16_L0_succ k _ _ _ _ K H1) ?_
    repeat (first | (first | refine Ev.s ?_ | refine Ev.newC fun _ _ _ => ?_ | refine Ev.boxC fun _ _ _ => ?_ | refine Ev.stC fun _ _ => ?_ | refine Ev.sc (by omega) ?_ | refine Ev.scg (by omega) ?_) | rw [decide_eq_true (by omega)] | rw [decide_eq_false (by omega)])
    refine Ev.b2 (Read_spec (i := ((2 * m + 1 : Nat) : Int)) hD hO hc (by exact hS1)) ?_
    rw [hrb]
    rintro _ H2 ⟨rfl, B2, hm2, hS2⟩
    dsimp only at hS2
    clear hS1
    repeat (first | refine Ev.s ?_ | refine Ev.newC fun _ _ _ => ?_ | refine Ev.boxC fun _ _ _ => ?_ | refine Ev.stC fun _ _ => ?_ | refine Ev.sc (by omega) ?_ | refine Ev.scg (by omega) ?_)
    by_cases he2 : eb = 0
    case neg =>
      rw [decide_eq_true he2]
      repeat (first | refine Ev.s ?_ | refine Ev.newC fun _ _ _ => ?_ | refine Ev.boxC fun _ _ _ => ?_ | refine Ev.stC fun _ _ => ?_ | refine Ev.sc (by omega) ?_ | refine Ev.scg (by omega) ?_)
      exact Ev.ret ⟨B2, H2, ⟨hm1.mo.trans hm2.mo⟩, hS2, .inr (.inl ⟨he, he2, rfl⟩)⟩
    rw [decide_eq_false (by simpa using he2)]
    repeat (first | refine Ev.s ?_ | refine Ev.newC fun _ _ _ => ?_ | refine Ev.boxC fun _ _ _ => ?_ | refine Ev.stC fun _ _ => ?_ | refine Ev.sc (by omega) ?_ | refine Ev.scg (by omega) ?_)
    refine Ev.prim (add_str (a := a) (b := b) (by omega)) ?_
    repeat (first | refine Ev.s ?_ | refine Ev.newC fun _ _ _ => ?_ | refine Ev.boxC fun _ _ _ => ?_ | refine Ev.stC fun _ _ => ?_ | refine Ev.sc (by omega) ?_ | refine Ev.scg (by omega) ?_)
    refine Ev.succ (fun k K => f16_L0_succ k _ _ _ _ K H2) ?_
    repeat (first | (first | refine Ev.s ?_ | refine Ev.newC fun _ _ _ => ?_ | refine Ev.boxC fun _ _ _ => ?_ | refine Ev.stC fun _ _ => ?_ | refine Ev.sc (by omega) ?_ | refine Ev.scg (by omega) ?_) | rw [decide_eq_true (by omega)] | rw [decide_eq_false (by omega)])
    exact Ev.ret ⟨B2, H2, ⟨hm1.mo.trans hm2.mo⟩, hS2, .inr (.inr ⟨he, he2, rfl⟩)⟩
  refine Ev.bind (Ev.loop key) ?_
  generalize D.read ((2 * m : Nat) : Int) = ra at h64a
  generalize D.read ((2 * m + 1 : Nat) : Int) = rb at h64b
  obtain ⟨a, ea⟩ := ra
  obtain ⟨b, eb⟩ := rb
  try dsimp only at h64a h64b ⊢
  rintro o ⟨B1, H1, hm1, hS1, ⟨he, rfl⟩ | ⟨he, he2, rfl⟩ | ⟨he, he2, rfl⟩⟩
  · rw [if_pos he]
    refine Ev.eq (fun k _ => f16_A0_ret k _ _ _ _ H1) ?_
    exact Ev.ret ⟨rfl, B1, hm1, hS1⟩
  · rw [if_neg (by simpa using he), if_pos he2]
    refine Ev.eq (fun k _ => f16_A0_ret k _ _ _ _ H1) ?_
    exact Ev.ret ⟨rfl, B1, hm1, hS1⟩
  rw [if_neg (by simpa using he), if_neg (by simpa using he2)]
  refine Ev.eq (fun k _ => f16_A0_x0 k _ _ _ _ H1) ?_
  refine Ev.b2 (Open_spec (b := a ++ b) (by rw [List.length_append]; omega) hS1) ?_
  rintro _ H2 ⟨rfl, B2, hm2, hS2⟩
  dsimp only at hS2
  unfold OpenV
  repeat (first | refine Ev.s ?_ | refine Ev.newC fun _ _ _ => ?_ | refine Ev.boxC fun _ _ _ => ?_ | refine Ev.stC fun _ _ => ?_ | refine Ev.sc (by omega) ?_ | refine Ev.scg (by omega) ?_)
  exact Ev.ret ⟨rfl, B2, ⟨hm1.mo.trans hm2.mo⟩, hS2⟩
end
end Go.AM.O
set_option linter.unusedVariables false
set_option linter.unusedSimpArgs false
namespace Go.AM
open Go.RowKit

section
variable {P : Program} {call : CallF}

theorem aCall_congr {R : Type} {ρ ρ' : Operand → Value} (c : Call) (h : ∀ x ∈ c.operands, ρ x = ρ' x) (H : AH) (K : Value → AH → Option R) : aCall P call ρ c H K = aCall P call ρ' c H K := by
  have h1 : ∀ x ∈ c.args.toList, ρ x = ρ' x := fun x hx => h x (by unfold Call.operands; exact Array.mem_append.2 (.inr (by simpa using hx)))
  have hargs : c.args.toList.map ρ = c.args.toList.map ρ' := List.map_congr_left h1
  unfold aCall
  split
  · rename_i f hc
    have hf : ρ f = ρ' f := h f (by unfold Call.operands; rw [hc]; simp)
    rw [hf, hargs]
  · split
    · rename_i t u s x ht ha
      rw [h1 s (by rw [ha]; simp), h1 x (by rw [ha]; simp)]
    · rfl
  · split
    · rename_i t u s x ht ha
      rw [h1 s (by rw [ha]; simp), h1 x (by rw [ha]; simp)]
    · rfl
  · split
    · rename_i t x ht ha
      rw [h1 x (by rw [ha]; simp)]
    · rfl
  · split
    · rename_i t x ht ha
      rw [h1 x (by rw [ha]; simp)]
    · rfl
  · rw [hargs]
  · rw [hargs]
  · split
    · rename_i x ha
      rw [h1 x (by rw [ha]; simp)]
    · rfl
  · split
    · rename_i t u s x ht ha
      rw [h1 s (by rw [ha]; simp), h1 x (by rw [ha]; simp)]
    · rfl
  · rfl
theorem aRes_congr {ρ ρ' : Operand → Value} (op : Op) (h : ∀ x ∈ op.operands, ρ x = ρ' x) (H : AH) : aRes P call ρ op H = aRes P call ρ' op H := by
  have pairs : ∀ ps : Array (Nat × Operand), (∀ x ∈ ps.map (·.2), ρ x = ρ' x) → (ps.toList.map fun p => (p.1, ρ p.2)) = (ps.toList.map fun p => (p.1, ρ' p.2)) := fun ps hp =>
    List.map_congr_left fun p hm => by rw [hp p.2 (Array.mem_map.2 ⟨p, by simpa using hm, rfl⟩)]
  unfold aRes
  cases op <;> simp only [Op.operands] at h <;> simp only [aOp]
  case build t ps => rw [pairs ps fun x hx => h x (by simpa using hx)]
  case buildSlice t n ps => rw [pairs ps fun x hx => h x (by simpa using hx)]
  case makeFunc fn first captured =>
    cases fn <;> simp only [aOp]
    rw [List.map_congr_left (l := first.toList) fun x hx => h x (by simp at hx; simp [hx]), List.map_congr_left (l := captured.toList) fun x hx => h x (by simp at hx; simp [hx])]
  case makeMap t r => cases r <;> simp [aOp]
  case call c => exact aCall_congr c h H _
  case slice t x lo hi mx =>
    cases mx with
    | some mx => cases lo <;> cases hi <;> simp_all [aOp]
    | none => cases lo <;> cases hi <;> simp_all [aOp]
  all_goals (first | rfl | (simp_all; done))
theorem opRead_congr {ρ ρ' : Operand → Value} (op : Op) (h : ∀ x ∈ op.operands, ρ x = ρ' x) : opRead P ρ op = opRead P ρ' op := by
  cases op <;> simp only [Op.operands] at h <;> simp only [opRead]
  case load t x => rw [h x (by simp)]
  case convert s d x => rw [h x (by simp)]
  case lookup t m k two => rw [h m (by simp), h k (by simp)]
  case call c =>
    obtain ⟨callee, args, ts⟩ := c
    cases callee with
    | builtin b =>
      cases b <;> simp only [opRead]
      split
      · rename_i t x ht ha
        rw [h x (by have : x ∈ args.toList := by rw [ha]; simp
                    simp [Call.operands]; simpa using this)]
      · rfl
    | _ => simp only [opRead]
/-- What reads, reads the same where the blocks are the same. -/
theorem ld_keep {t : TypeId} {H X : AH} {a v : Value} (hk : ∀ b k, blk H b = some k → blk X b = some k) (h : ld P t H a = some v) : ld P t X a = some v := by
  unfold ld at h ⊢
  split at h
  · unfold ldA at h ⊢
    split at h
    · obtain ⟨k, h1, h2⟩ := bind_some h
      simp only [hk _ _ h1, Option.bind_some]
      exact h2
    · cases h
  · unfold ldC at h ⊢
    split at h
    · obtain ⟨k, h1, h2⟩ := bind_some h
      simp only [hk _ _ h1, Option.bind_some]
      exact h2
    · cases h
  · cases h
theorem sliceCells_keep {sz n : Nat} {H X : AH} {x : Value} {cs : List Value} (hk : ∀ b k, blk H b = some k → blk X b = some k) (h1 : sliceCells sz H x n = some cs) : sliceCells sz X x n = some cs := by
  unfold sliceCells at h1 ⊢
  split at h1
  · exact h1
  · split at h1
    · rename_i hn0; simp only [hn0, if_true]; exact h1
    · split at h1
      · obtain ⟨k, h3, h4⟩ := bind_some h1
        rename_i hn0 hle
        simp only [hn0, hle, if_true, if_false, hk _ _ h3, Option.bind_some]
        exact h4
      · cases h1
  · exact h1
  · cases h1
theorem cvS_keep {s d : TypeId} {H X : AH} {a v : Value} (hk : ∀ b k, blk H b = some k → blk X b = some k) (h : cvS P s d H a = some v) : cvS P s d X a = some v := by
  unfold cvS at h ⊢
  split at h
  · split at h
    · rename_i he
      obtain ⟨cs, h1, h2⟩ := bind_some h
      simp only [he, sliceCells_keep hk h1, Option.bind_some]
      exact h2
    · cases h
  · cases h
theorem mapCells_keep {H X : AH} {x : Value} {cs : List Value} (hk : ∀ b k, blk H b = some k → blk X b = some k) (h : mapCells H x = some cs) : mapCells X x = some cs := by
  unfold mapCells at h ⊢
  split at h
  · exact h
  · rename_i b
    unfold mapB at h ⊢
    cases hb : blk H b with
    | none => rw [hb] at h; cases h
    | some k => rw [hb] at h; rw [hk _ _ hb]; exact h
  · cases h
theorem lkU_keep {t : TypeId} {H X : AH} {x key v : Value} {two : Bool} (hk : ∀ b k, blk H b = some k → blk X b = some k) (h : lkU P t H x key two = some v) : lkU P t X x key two = some v := by
  unfold lkU at h ⊢
  split at h
  · rename_i kt et hd
    obtain ⟨D, h1, h2⟩ := bind_some h
    obtain ⟨cs, h3, h4⟩ := bind_some h2
    simp only [h1, Option.bind_some, mapCells_keep hk h3]
    exact h4
  · cases h
theorem lenM_keep {t : TypeId} {H X : AH} {x v : Value} (hk : ∀ b k, blk H b = some k → blk X b = some k) (h : lenM P t H x = some v) : lenM P t X x = some v := by
  unfold lenM at h ⊢
  split at h
  · cases hc : mapCells H x with
    | none => rw [hc] at h; cases h
    | some cs => rw [hc] at h; rw [mapCells_keep hk hc]; exact h
  · cases h
theorem opRead_keep {ρ : Operand → Value} {op : Op} {f : AH → Option Value} (hf : opRead P ρ op = some f) {H X : AH} {v : Value} (hk : ∀ b k, blk H b = some k → blk X b = some k) (h : f H = some v) : f X = some v := by
  unfold opRead at hf
  split at hf
  · cases hf; exact ld_keep hk h
  · rename_i s d x
    cases hb : isBytesToString P s d with
    | true => rw [hb] at hf; cases hf; exact cvS_keep hk h
    | false => rw [hb] at hf; cases hf
  · cases hf; exact lkU_keep hk h
  · split at hf
    · rename_i t x _ _
      cases hb : isMapT P t with
      | true => rw [hb] at hf; cases hf; exact lenM_keep hk h
      | false => rw [hb] at hf; cases hf
    · cases hf
  · cases hf
end
end Go.AM
set_option linter.unusedVariables false
set_option linter.unusedSimpArgs false
namespace Go.AM
open Go.RowKit

section
variable {P : Program} {call : CallF}

/-- An operation that neither reads nor acts nor makes: it tells the same wherever it comes. -/
def PureAt (P : Program) (call : CallF) (ρ : Operand → Value) (op : Op) (H H' : AH) (v : Value) : Prop := H' = H ∧ ∀ X, aRes P call ρ op X = some (v, X)
theorem PureAt.one {ρ : Operand → Value} {op : Op} {H H' : AH} {v : Value} (x : Option Value) (e : ∀ X, aRes P call ρ op X = x.bind fun v => some (v, X)) (h : aRes P call ρ op H = some (v, H')) : PureAt P call ρ op H H' v := by
  rw [e] at h
  obtain ⟨u, h1, h2⟩ := bind_some h
  cases h2
  exact ⟨rfl, fun X => by rw [e, h1]; rfl⟩
theorem pure_res {ρ : Operand → Value} {op : Op} (he : isEff op = false) (hr : opRead P ρ op = none) (ha : isAlloc op = false) {H H' : AH} {v : Value} (h : aRes P call ρ op H = some (v, H')) : PureAt P call ρ op H H' v := by
  cases op
  case move x => exact .one (some (ρ x)) (fun X => rfl) h
  case assign x => exact .one (some (ρ x)) (fun X => rfl) h
  case pick c x y => exact .one _ (fun X => rfl) h
  case build t ps => exact .one _ (fun X => rfl) h
  case nilCheck x => exact .one _ (fun X => rfl) h
  case binOp op t x y yt => exact .one _ (fun X => rfl) h
  case unOp op t x => exact .one _ (fun X => rfl) h
  case fieldAddr s x i => exact .one _ (fun X => rfl) h
  case field s x i => exact .one _ (fun X => rfl) h
  case indexAddr s x i => exact .one _ (fun X => rfl) h
  case index s x i => exact .one _ (fun X => rfl) h
  case extract x i => exact .one _ (fun X => rfl) h
  case load t x => cases hr
  case lookup t m k two => cases hr
  case makeMap t r => cases ha
  case mapUpdate t m k x => cases he
  case alloc t => cases ha
  case box t x => cases ha
  case buildSlice t n ps => cases ha
  case makeSlice t l c => cases ha
  case store t x y => cases he
  case convert s d x =>
    cases hb : isBytesToString P s d with
    | true => simp only [opRead, hb, cond_true] at hr; cases hr
    | false => exact .one (cv P s d (ρ x)) (fun X => by unfold aRes; simp only [aOp, hb, cond_false]) h
  case makeFunc fn first captured =>
    cases fn with
    | func f => exact .one (some (.func (.func f) (first.toList.map ρ).toArray (captured.toList.map ρ).toArray)) (fun X => rfl) h
    | _ => cases h
  case slice t x lo hi mx =>
    cases mx with
    | some _ => exact .one _ (fun X => rfl) h
    | none => exact .one _ (fun X => rfl) h
  case call c =>
    obtain ⟨callee, args, tys⟩ := c
    cases callee with
    | value f => cases he
    | invoke r m => cases h
    | builtin b =>
      cases b
      case append => cases he
      case copy => cases he
      case len =>
        have hm : ∀ t x, tys.toList = [t] → args.toList = [x] → isMapT P t = false := by
          intro t x ht hx
          simp only [opRead, ht, hx] at hr
          cases hb : isMapT P t with
          | false => rfl
          | true => rw [hb] at hr; cases hr
        refine .one (match tys.toList, args.toList with | [t], [x] => lenV P t (ρ x) | _, _ => none) (fun X => ?_) h
        show (match tys.toList, args.toList with | [t], [x] => (bif isMapT P t then (lenM P t X (ρ x)).bind fun v => some (v, X) else (lenV P t (ρ x)).bind fun v => some (v, X)) | _, _ => none) = _
        split
        · rename_i t x ht hx
          rw [hm t x ht hx]
          rfl
        · rfl
      case cap =>
        refine .one (match tys.toList, args.toList with | [t], [x] => capV P t (ρ x) | _, _ => none) (fun X => ?_) h
        show (match tys.toList, args.toList with | [t], [x] => (capV P t (ρ x)).bind fun v => some (v, X) | _, _ => none) = _
        split <;> rfl
      case min => exact .one _ (fun X => rfl) h
      case max => exact .one _ (fun X => rfl) h
      case unsafeSliceData =>
        refine .one (match args.toList with | [x] => sdV (ρ x) | _ => none) (fun X => ?_) h
        show (match args.toList with | [x] => (sdV (ρ x)).bind fun v => some (v, X) | _ => none) = _
        split <;> rfl
      case unsafeString => cases he
      all_goals cases h
  all_goals cases h
/-- An operation that makes one block. -/
def MakesAt (P : Program) (call : CallF) (ρ : Operand → Value) (op : Op) (H H' : AH) (v : Value) : Prop := ∃ k : Blk, (v = ptr H.length 0 ∨ (∃ a c, v = sl H.length 0 a c) ∨ v = .map (some H.length)) ∧ H' = H ++ [some k] ∧ ∀ X : AH, X.length = H.length → aRes P call ρ op X = some (v, X ++ [some k])
theorem MakesAt.one {ρ : Operand → Value} {op : Op} {H H' : AH} {v : Value} (x : Option (Blk × (Nat → Value))) (hx : ∀ p, x = some p → ∀ n, p.2 n = ptr n 0 ∨ (∃ a c, p.2 n = sl n 0 a c) ∨ p.2 n = .map (some n)) (e : ∀ X, aRes P call ρ op X = x.bind fun p => some (p.2 X.length, X ++ [some p.1])) (h : aRes P call ρ op H = some (v, H')) : MakesAt P call ρ op H H' v := by
  rw [e] at h
  obtain ⟨p, h1, h2⟩ := bind_some h
  cases h2
  exact ⟨p.1, hx p h1 _, rfl, fun X hX => by rw [e, h1, ← hX]; rfl⟩
theorem box_form (t : TypeId) (X : AH) (v : Value) : (box t X v).bind (fun p => some (p.1, p.2)) = (if okCells v = true then some ((⟨v.cells.toList, t, .fix⟩ : Blk), fun n => ptr n 0) else none).bind fun p => some (p.2 X.length, X ++ [some p.1]) := by
  unfold box
  split <;> rfl
theorem alloc_res {ρ : Operand → Value} {op : Op} (ha : isAlloc op = true) {H H' : AH} {v : Value} (h : aRes P call ρ op H = some (v, H')) : MakesAt P call ρ op H H' v := by
  cases op
  case alloc t =>
    refine .one ((zeroT P t).bind fun z => if okCells z = true then some ((⟨z.cells.toList, t, .fix⟩ : Blk), fun n => ptr n 0) else none) ?_ (fun X => ?_) h
    · intro p hp
      obtain ⟨z, h1, h2⟩ := bind_some hp
      split at h2
      · cases h2; exact fun n => .inl rfl
      · cases h2
    · show (newV P t X).bind (fun p => some (p.1, p.2)) = _
      unfold newV
      rw [Option.bind_assoc, Option.bind_assoc]
      congr 1
      funext z
      exact box_form t X z
  case box t x =>
    refine .one (if okCells (ρ x) = true then some ((⟨(ρ x).cells.toList, t, .fix⟩ : Blk), fun n => ptr n 0) else none) ?_ (fun X => box_form t X (ρ x)) h
    intro p hp
    split at hp
    · cases hp; exact fun n => .inl rfl
    · cases hp
  case buildSlice t n ps =>
    refine .one (match P.underlying t with | some (.slice e) => (zeroT P e).bind fun z => if n * szT P e ≤ 16777216 ∧ z.cells.size = szT P e then (fillB (fun i => some (i * szT P e, szT P e)) (rep z.cells.toList n) (ps.toList.map fun p => (p.1, ρ p.2))).map fun cs => ((⟨cs, e, .fix⟩ : Blk), fun q => sl q 0 n n) else none | _ => none) ?_ (fun X => ?_) h
    · intro p hp
      split at hp
      · obtain ⟨z, h1, h2⟩ := bind_some hp
        split at h2
        · cases hf : fillB (fun i => some (i * szT P _, szT P _)) (rep z.cells.toList n) (ps.toList.map fun p => (p.1, ρ p.2)) with
          | none => rw [hf] at h2; cases h2
          | some cs => rw [hf] at h2; cases h2; exact fun q => .inr (.inl ⟨_, _, rfl⟩)
        · cases h2
      · cases hp
    · show (buildS P t X n (ps.toList.map fun p => (p.1, ρ p.2))).bind (fun p => some (p.1, p.2)) = _
      unfold buildS
      cases P.underlying t with
      | none => rfl
      | some d =>
        cases d with
        | slice e =>
          simp only
          rw [Option.bind_assoc, Option.bind_assoc]
          congr 1
          funext z
          split
          · cases fillB (fun i => some (i * szT P e, szT P e)) (rep z.cells.toList n) (ps.toList.map fun p => (p.1, ρ p.2)) <;> rfl
          · rfl
        | _ => rfl
  case makeSlice t l c =>
    refine .one (match P.underlying t, ρ l, ρ c with | some (.slice e), .int _ n, .int _ m => (zeroT P e).bind fun z => if 0 ≤ n ∧ n ≤ m ∧ m * byT P e ≤ 281474976710656 ∧ m ≤ 9223372036854775807 ∧ z.cells.size = szT P e ∧ okCells z = true then some ((⟨rep z.cells.toList m.toNat, e, .fix⟩ : Blk), fun q => sl q 0 n.toNat m.toNat) else none | _, _, _ => none) ?_ (fun X => ?_) h
    · intro p hp
      split at hp
      · obtain ⟨z, h1, h2⟩ := bind_some hp
        split at h2
        · cases h2; exact fun q => .inr (.inl ⟨_, _, rfl⟩)
        · cases h2
      · cases hp
    · show (mkS P t X (ρ l) (ρ c)).bind (fun p => some (p.1, p.2)) = _
      unfold mkS
      cases P.underlying t with
      | none => rfl
      | some d =>
        cases d with
        | slice e =>
          cases ρ l with
          | int k1 n =>
            cases ρ c with
            | int k2 q =>
              simp only
              rw [Option.bind_assoc, Option.bind_assoc]
              congr 1
              funext z
              split <;> rfl
            | _ => rfl
          | _ => rfl
        | _ => rfl
  case makeMap t r =>
    cases r with
    | some r => cases h
    | none =>
      refine .one (some ((⟨[], t, .map⟩ : Blk), fun n => .map (some n))) ?_ (fun X => rfl) h
      intro p hp
      cases hp
      exact fun n => .inr (.inr rfl)
  all_goals cases ha
end
end Go.AM
set_option linter.unusedVariables false
set_option linter.unusedSimpArgs false
namespace Go.AM
open Go.RowKit

section
variable {P : Program} {call : CallF}

theorem befL_take : ∀ (l : List Oper) (acc : List Nat), (befL acc l).take acc.length = acc ∧ (befL acc l).length = acc.length + l.length ∧ ∀ (j : Nat) (o : Oper), l[j]? = some o → (befL acc l)[acc.length + j]? = some (maskOf ((befL acc l).take (acc.length + j)) o)
  | [], acc => by simp [befL]
  | o :: l, acc => by
    obtain ⟨h1, h2, h3⟩ := befL_take l (acc ++ [maskOf acc o])
    simp only [befL, List.length_append, List.length_cons, List.length_nil, Nat.zero_add] at h1 h2 h3 ⊢
    have h4 : (befL (acc ++ [maskOf acc o]) l).take acc.length = acc := by
      have := congrArg (List.take acc.length) h1
      rw [List.take_take, Nat.min_eq_left (by omega), List.take_left] at this
      exact this
    refine ⟨h4, by omega, fun j p hp => ?_⟩
    cases j with
    | zero =>
      simp at hp
      subst hp
      have : (befL (acc ++ [maskOf acc o]) l)[acc.length]? = ((befL (acc ++ [maskOf acc o]) l).take (acc.length + 1))[acc.length]? := by rw [List.getElem?_take, if_pos (by omega)]
      rw [Nat.add_zero, this, h1, h4]
      simp
    | succ j =>
      have := h3 j p (by simpa using hp)
      rw [show acc.length + (j + 1) = acc.length + 1 + j by omega]
      exact this
theorem maskOf_bit {acc : List Nat} {o : Oper} {i : Nat} (h : (maskOf acc o).testBit i = true) : ∃ e ∈ o.after, Region.binds .any e = true ∧ (e.on = i ∨ (acc.getD e.on 0).testBit i = true) := by
  have key : ∀ (l : List Edge) (s : Nat), (l.foldl (fun s e => bif Region.binds .any e then s ||| (2 ^ e.on ||| acc.getD e.on 0) else s) s).testBit i = true → s.testBit i = true ∨ ∃ e ∈ l, Region.binds .any e = true ∧ (e.on = i ∨ (acc.getD e.on 0).testBit i = true) := by
    intro l
    induction l with
    | nil => intro s hs; exact .inl hs
    | cons e l ih =>
      intro s hs
      rw [List.foldl_cons] at hs
      rcases ih _ hs with h1 | ⟨e', h1, h2⟩
      · cases hb : Region.binds .any e with
        | false => rw [hb] at h1; exact .inl h1
        | true =>
          rw [hb] at h1
          simp only [cond_true, Nat.testBit_or, Bool.or_eq_true] at h1
          rcases h1 with h1 | h1 | h1
          · exact .inl h1
          · refine .inr ⟨e, by simp, hb, .inl ?_⟩
            rw [Nat.testBit_two_pow] at h1
            simpa using h1
          · exact .inr ⟨e, by simp, hb, .inr h1⟩
      · exact .inr ⟨e', by simp [h1], h2⟩
  rcases key _ _ h with h1 | ⟨e, h1, h2⟩
  · simp at h1
  · exact ⟨e, by simpa using h1, h2⟩
/-- A set of operations that holds with each what it comes behind. -/
def Down (ops : Array Oper) (D : Nat → Prop) : Prop := ∀ j o, ops[j]? = some o → D j → ∀ e ∈ o.after, Region.binds .any e = true → D e.on
theorem ordB_down {ops : Array Oper} {D : Nat → Prop} (hD : Down ops D) : ∀ (j : Nat) (o : Oper), ops[j]? = some o → (∀ e ∈ o.after, Region.binds .any e = true → D e.on) → ∀ i, ordB (befL [] ops.toList) i j = true → D i := by
  intro j
  induction j using Nat.strongRecOn with
  | _ j ih =>
    intro o ho hedges i hi
    obtain ⟨_, _, h3⟩ := befL_take ops.toList []
    have h4 := h3 j o (by simpa using ho)
    simp only [List.length_nil, Nat.zero_add] at h4
    unfold ordB at hi
    rw [List.getD_eq_getElem?_getD, h4, Option.getD_some] at hi
    obtain ⟨e, he, hb, h5⟩ := maskOf_bit hi
    have hde := hedges e he hb
    rcases h5 with h5 | h5
    · rw [← h5]; exact hde
    · rcases Nat.lt_or_ge e.on j with hlt | hge
      · rw [List.getD_eq_getElem?_getD, List.getElem?_take, if_pos hlt] at h5
        cases hoe : ops[e.on]? with
        | none =>
          exfalso
          have hlen := (befL_take ops.toList []).2.1
          have : (befL [] ops.toList)[e.on]? = none := List.getElem?_eq_none (by
            rw [hlen]
            simp
            have := Array.getElem?_eq_none_iff.1 hoe
            exact this)
          rw [this] at h5
          simp at h5
        | some oe =>
          refine ih e.on hlt oe hoe (fun e' he' hb' => hD e.on oe hoe hde e' he' hb') i ?_
          unfold ordB
          rw [List.getD_eq_getElem?_getD]
          exact h5
      · rw [List.getD_eq_getElem?_getD, List.getElem?_take, if_neg (by omega)] at h5
        simp at h5
end
end Go.AM
set_option linter.unusedVariables false
set_option linter.unusedSimpArgs false
namespace Go.AM
open Go.RowKit

section
variable {P : Program} {call : CallF}

/-- The steps from operation j0 on: slots, heap, what is passed over, what is told. -/
structure Tr (P : Program) (call : CallF) (ops : Array Oper) (bs : List Nat) (j0 : Nat) (tT : Nat → List Value) (tH : Nat → AH) (sk : Nat → Bool) (vl : Nat → Value) : Prop where
  step : ∀ j o, j0 ≤ j → ops[j]? = some o → tT (j + 1) = putT (tT j) o.dst (vl j)
  skip : ∀ j o, j0 ≤ j → ops[j]? = some o → sk j = true → (∃ g want, o.guard = some (g, want) ∧ Off (yieldV ops (tT j) g) want) ∧ vl j = undef ∧ tH (j + 1) = tH j
  go : ∀ j o, j0 ≤ j → ops[j]? = some o → sk j = false → o.guard = none ∨ ∃ g want, o.guard = some (g, want) ∧ yieldV ops (tT j) g = .bool want
  read : ∀ j o f, j0 ≤ j → ops[j]? = some o → sk j = false → opRead P (opv (tT j)) o.op = some f → f (tH j) = some (vl j) ∧ tH (j + 1) = tH j
  other : ∀ j o, j0 ≤ j → ops[j]? = some o → sk j = false → opRead P (opv (tT j)) o.op = none → aRes P call (opv (tT j)) o.op (tH j) = some (vl j, tH (j + 1))
  pastR : ∀ j o f e oe, j0 ≤ e → e < j → ops[j]? = some o → ops[e]? = some oe → sk j = false → sk e = false → isEff oe.op = true → opRead P (opv (tT j)) o.op = some f → ordB bs e j = false → f (tH e) = some (vl j)
  futR : ∀ j o f e oe, j0 ≤ j → j < e → ops[j]? = some o → ops[e]? = some oe → sk j = false → sk e = false → isEff oe.op = true → opRead P (opv (tT j)) o.op = some f → ordB bs j e = false → f (tH (e + 1)) = some (vl j)
  futA : ∀ j o e oe, j0 ≤ j → j < e → ops[j]? = some o → ops[e]? = some oe → sk j = false → sk e = false → isEff oe.op = true → opRead P (opv (tT j)) o.op = none → isAlloc o.op = true → ordB bs j e = false → blk (tH (e + 1)) (tH j).length = blk (tH (j + 1)) (tH j).length

theorem aChk_inv {R : Type} {p : Prop} {x : Option R} {r : R} (h : aChk p x = some r) : p ∧ x = some r := by
  unfold aChk at h
  split at h
  · rename_i hp; exact ⟨hp, h⟩
  · cases h
theorem chkReads_inv {R : Type} {bs : List Nat} {j : Nat} {H : AH} {x : Option R} {r : R} : ∀ (rs : List Rd), chkReads bs j H x rs = some r → x = some r ∧ ∀ rd ∈ rs, ordB bs rd.at_ j = false → rd.ok H
  | [], h => ⟨h, fun rd hr => by cases hr⟩
  | rd :: rs, h => by
    unfold chkReads at h
    cases ho : ordB bs rd.at_ j with
    | true =>
      rw [ho] at h
      obtain ⟨h1, h2⟩ := chkReads_inv rs h
      refine ⟨h1, fun rd' hr hf => ?_⟩
      cases hr with
      | head => rw [ho] at hf; cases hf
      | tail _ hr => exact h2 rd' hr hf
    | false =>
      rw [ho] at h
      obtain ⟨h0, h⟩ := aChk_inv h
      obtain ⟨h1, h2⟩ := chkReads_inv rs h
      refine ⟨h1, fun rd' hr hf => ?_⟩
      cases hr with
      | head => exact h0
      | tail _ hr => exact h2 rd' hr hf
theorem chkPast_inv {R : Type} {bs : List Nat} {j : Nat} {ok : AH → Prop} {x : Option R} {r : R} : ∀ (ps : List (Nat × AH)), chkPast bs j ok x ps = some r → x = some r ∧ ∀ p ∈ ps, ordB bs p.1 j = false → ok p.2
  | [], h => ⟨h, fun p hp => by cases hp⟩
  | p :: ps, h => by
    unfold chkPast at h
    cases ho : ordB bs p.1 j with
    | true =>
      rw [ho] at h
      obtain ⟨h1, h2⟩ := chkPast_inv ps h
      refine ⟨h1, fun p' hr hf => ?_⟩
      cases hr with
      | head => rw [ho] at hf; cases hf
      | tail _ hr => exact h2 p' hr hf
    | false =>
      rw [ho] at h
      obtain ⟨h0, h⟩ := aChk_inv h
      obtain ⟨h1, h2⟩ := chkPast_inv ps h
      refine ⟨h1, fun p' hr hf => ?_⟩
      cases hr with
      | head => exact h0
      | tail _ hr => exact h2 p' hr hf
/-- What the steps from j0 on keep of what came ahead. -/
structure TrP (P : Program) (ops : Array Oper) (bs : List Nat) (j0 : Nat) (tT : Nat → List Value) (tH : Nat → AH) (sk : Nat → Bool) (vl : Nat → Value) (past : List (Nat × AH)) (reads : List Rd) : Prop where
  past : ∀ p ∈ past, ∀ j o f, j0 ≤ j → ops[j]? = some o → sk j = false → opRead P (opv (tT j)) o.op = some f → ordB bs p.1 j = false → f p.2 = some (vl j)
  reads : ∀ rd ∈ reads, ∀ e oe, j0 ≤ e → ops[e]? = some oe → sk e = false → isEff oe.op = true → ordB bs rd.at_ e = false → rd.ok (tH (e + 1))
theorem read_not_eff {ρ : Operand → Value} {op : Op} {f : AH → Option Value} (h : opRead P ρ op = some f) : isEff op = false := by
  cases op
  case call c =>
    obtain ⟨callee, args, ts⟩ := c
    cases callee with
    | builtin b => cases b <;> first | rfl | (simp [opRead] at h; done)
    | _ => simp [opRead] at h
  all_goals first | rfl | (simp [opRead] at h; done)
theorem alloc_not_eff {op : Op} (h : isAlloc op = true) : isEff op = false := by
  cases op <;> first | rfl | (simp [isAlloc] at h; done)
theorem tr_cons {ops : Array Oper} {bs : List Nat} {j0 : Nat} {o : Oper} (ho : ops[j0]? = some o) {T : List Value} {H H1 : AH} {v : Value} {s : Bool} {tT : Nat → List Value} {tH : Nat → AH} {sk : Nat → Bool} {vl : Nat → Value}
    (h0 : tT (j0 + 1) = putT T o.dst v) (h1 : tH (j0 + 1) = H1) (X : Tr P call ops bs (j0 + 1) tT tH sk vl)
    (hskip : s = true → (∃ g want, o.guard = some (g, want) ∧ Off (yieldV ops T g) want) ∧ v = undef ∧ H1 = H)
    (hgo : s = false → o.guard = none ∨ ∃ g want, o.guard = some (g, want) ∧ yieldV ops T g = .bool want)
    (hread : ∀ f, s = false → opRead P (opv T) o.op = some f → f H = some v ∧ H1 = H)
    (hother : s = false → opRead P (opv T) o.op = none → aRes P call (opv T) o.op H = some (v, H1))
    (hpast : s = false → isEff o.op = true → ∀ j p f, j0 + 1 ≤ j → ops[j]? = some p → sk j = false → opRead P (opv (tT j)) p.op = some f → ordB bs j0 j = false → f H = some (vl j))
    (hfutR : ∀ f, s = false → opRead P (opv T) o.op = some f → ∀ e oe, j0 + 1 ≤ e → ops[e]? = some oe → sk e = false → isEff oe.op = true → ordB bs j0 e = false → f (tH (e + 1)) = some v)
    (hfutA : s = false → opRead P (opv T) o.op = none → isAlloc o.op = true → ∀ e oe, j0 + 1 ≤ e → ops[e]? = some oe → sk e = false → isEff oe.op = true → ordB bs j0 e = false → blk (tH (e + 1)) H.length = blk H1 H.length) :
    Tr P call ops bs j0 (fun i => if i = j0 then T else tT i) (fun i => if i = j0 then H else tH i) (fun i => if i = j0 then s else sk i) (fun i => if i = j0 then v else vl i) := by
  have hne : ∀ {j}, j0 ≤ j → j ≠ j0 → j0 + 1 ≤ j := fun h1 h2 => by omega
  refine ⟨?_, ?_, ?_, ?_, ?_, ?_, ?_, ?_⟩
  · intro j p hj hp
    rw [if_neg (show j + 1 ≠ j0 by omega)]
    by_cases hjj : j = j0
    · subst hjj; rw [ho] at hp; cases hp; simp only [if_true]; exact h0
    · simp only [if_neg hjj]; exact X.step j p (hne hj hjj) hp
  · intro j p hj hp hs
    rw [if_neg (show j + 1 ≠ j0 by omega)]
    by_cases hjj : j = j0
    · subst hjj; rw [ho] at hp; cases hp; simp only [if_true] at hs ⊢; rw [h1]; exact hskip hs
    · simp only [if_neg hjj] at hs ⊢; exact X.skip j p (hne hj hjj) hp hs
  · intro j p hj hp hs
    by_cases hjj : j = j0
    · subst hjj; rw [ho] at hp; cases hp; simp only [if_true] at hs ⊢; exact hgo hs
    · simp only [if_neg hjj] at hs ⊢; exact X.go j p (hne hj hjj) hp hs
  · intro j p f hj hp hs hf
    rw [if_neg (show j + 1 ≠ j0 by omega)]
    by_cases hjj : j = j0
    · subst hjj; rw [ho] at hp; cases hp; simp only [if_true] at hs hf ⊢; rw [h1]; exact hread f hs hf
    · simp only [if_neg hjj] at hs hf ⊢; exact X.read j p f (hne hj hjj) hp hs hf
  · intro j p hj hp hs hf
    rw [if_neg (show j + 1 ≠ j0 by omega)]
    by_cases hjj : j = j0
    · subst hjj; rw [ho] at hp; cases hp; simp only [if_true] at hs hf ⊢; rw [h1]; exact hother hs hf
    · simp only [if_neg hjj] at hs hf ⊢; exact X.other j p (hne hj hjj) hp hs hf
  · intro j p f e oe he hej hp hoe hs hse hef hf hord
    rw [if_neg (show j ≠ j0 by omega)] at hs hf ⊢
    by_cases hee : e = j0
    · subst hee; rw [ho] at hoe; cases hoe; simp only [if_true] at hse ⊢; exact hpast hse hef j p f (by omega) hp hs hf hord
    · simp only [if_neg hee] at hse ⊢; exact X.pastR j p f e oe (hne he hee) hej hp hoe hs hse hef hf hord
  · intro j p f e oe hj hje hp hoe hs hse hef hf hord
    rw [if_neg (show e ≠ j0 by omega)] at hse
    rw [if_neg (show e + 1 ≠ j0 by omega)]
    by_cases hjj : j = j0
    · subst hjj; rw [ho] at hp; cases hp; simp only [if_true] at hs hf ⊢; exact hfutR f hs hf e oe (by omega) hoe hse hef hord
    · simp only [if_neg hjj] at hs hf ⊢; exact X.futR j p f e oe (hne hj hjj) hje hp hoe hs hse hef hf hord
  · intro j p e oe hj hje hp hoe hs hse hef hf ha hord
    rw [if_neg (show e ≠ j0 by omega)] at hse
    rw [if_neg (show e + 1 ≠ j0 by omega), if_neg (show j + 1 ≠ j0 by omega)]
    by_cases hjj : j = j0
    · subst hjj; rw [ho] at hp; cases hp; simp only [if_true] at hs hf ⊢; rw [h1]; exact hfutA hs hf ha e oe (by omega) hoe hse hef hord
    · simp only [if_neg hjj] at hs hf ⊢; exact X.futA j p e oe (hne hj hjj) hje hp hoe hs hse hef hf ha hord
theorem trp_cons {ops : Array Oper} {bs : List Nat} {j0 : Nat} {o : Oper} (ho : ops[j0]? = some o) {T : List Value} {H H1 : AH} {v : Value} {s : Bool} {tT : Nat → List Value} {tH : Nat → AH} {sk : Nat → Bool} {vl : Nat → Value} {past : List (Nat × AH)} {reads : List Rd}
    (h1 : tH (j0 + 1) = H1)
    (hp : ∀ p ∈ past, (∀ j o f, j0 + 1 ≤ j → ops[j]? = some o → sk j = false → opRead P (opv (tT j)) o.op = some f → ordB bs p.1 j = false → f p.2 = some (vl j)) ∧ (∀ f, s = false → opRead P (opv T) o.op = some f → ordB bs p.1 j0 = false → f p.2 = some v))
    (hr : ∀ rd ∈ reads, (∀ e oe, j0 + 1 ≤ e → ops[e]? = some oe → sk e = false → isEff oe.op = true → ordB bs rd.at_ e = false → rd.ok (tH (e + 1))) ∧ (s = false → isEff o.op = true → ordB bs rd.at_ j0 = false → rd.ok H1)) :
    TrP P ops bs j0 (fun i => if i = j0 then T else tT i) (fun i => if i = j0 then H else tH i) (fun i => if i = j0 then s else sk i) (fun i => if i = j0 then v else vl i) past reads := by
  refine ⟨fun p hpp j q f hj hq hs hf hord => ?_, fun rd hrd e oe he hoe hs hef hord => ?_⟩
  · by_cases hjj : j = j0
    · subst hjj; rw [ho] at hq; cases hq; simp only [if_true] at hs hf ⊢; exact (hp p hpp).2 f hs hf hord
    · simp only [if_neg hjj] at hs hf ⊢; exact (hp p hpp).1 j q f (by omega) hq hs hf hord
  · rw [if_neg (show e + 1 ≠ j0 by omega)]
    by_cases hee : e = j0
    · subst hee; rw [ho] at hoe; cases hoe; simp only [if_true] at hs; rw [h1]; exact (hr rd hrd).2 hs hef hord
    · simp only [if_neg hee] at hs; exact (hr rd hrd).1 e oe (by omega) hoe hs hef hord
theorem evD_inv (ops : Array Oper) (bs : List Nat) {R : Type} {K : List Value → AH → Option R} {r : R} : ∀ (l : List Oper) (j0 : Nat) (T : List Value) (H : AH) (past : List (Nat × AH)) (reads : List Rd), (∀ j, l[j]? = ops[j0 + j]?) → evD P call ops bs l j0 T H past reads K = some r →
    ∃ tT tH sk vl, tT j0 = T ∧ tH j0 = H ∧ Tr P call ops bs j0 tT tH sk vl ∧ TrP P ops bs j0 tT tH sk vl past reads ∧ K (tT (j0 + l.length)) (tH (j0 + l.length)) = some r
  | [], j0, T, H, past, reads, hl, h => by
    have none_ : ∀ j, j0 ≤ j → ops[j]? = none := fun j hj => by have := hl (j - j0); rw [show j0 + (j - j0) = j by omega] at this; rw [← this]; rfl
    have no : ∀ {j : Nat} {o : Oper}, j0 ≤ j → ops[j]? = some o → False := fun hj ho => by rw [none_ _ hj] at ho; cases ho
    exact ⟨fun _ => T, fun _ => H, fun _ => false, fun _ => undef, rfl, rfl, ⟨fun j o hj ho => (no hj ho).elim, fun j o hj ho => (no hj ho).elim, fun j o hj ho => (no hj ho).elim, fun j o f hj ho => (no hj ho).elim, fun j o hj ho => (no hj ho).elim,
      fun j o f e oe he hej ho => (no (by omega) ho).elim, fun j o f e oe hj hje ho => (no hj ho).elim, fun j o e oe hj hje ho => (no hj ho).elim⟩, ⟨fun p _ j o f hj ho => (no hj ho).elim, fun rd _ e oe he hoe => (no he hoe).elim⟩, h⟩
  | o :: l, j0, T, H, past, reads, hl, h => by
    have ho : ops[j0]? = some o := by have := hl 0; simpa using this.symm
    have hl' : ∀ j, l[j]? = ops[j0 + 1 + j]? := fun j => by have := hl (j + 1); rw [show j0 + 1 + j = j0 + (j + 1) by omega]; simpa using this
    have hlen : j0 + (o :: l).length = j0 + 1 + l.length := by simp; omega
    -- passed over
    have fin_skip : ∀ (past' : List (Nat × AH)) (reads' : List Rd), (∀ p ∈ past, p ∈ past') → (∀ rd ∈ reads, rd ∈ reads') → evD P call ops bs l (j0 + 1) (putT T o.dst undef) H past' reads' K = some r → (∃ g want, o.guard = some (g, want) ∧ Off (yieldV ops T g) want) →
        ∃ tT tH sk vl, tT j0 = T ∧ tH j0 = H ∧ Tr P call ops bs j0 tT tH sk vl ∧ TrP P ops bs j0 tT tH sk vl past reads ∧ K (tT (j0 + (o :: l).length)) (tH (j0 + (o :: l).length)) = some r := by
      intro past' reads' hp' hr' hh hg
      obtain ⟨tT, tH, sk, vl, h0, h1, X, Y, hK⟩ := evD_inv ops bs l (j0 + 1) _ _ _ _ hl' hh
      refine ⟨_, _, _, _, if_pos rfl, if_pos rfl, tr_cons (s := true) (v := undef) ho h0 h1 X (fun _ => ⟨hg, rfl, rfl⟩) (fun hx => by cases hx) (fun f hx => by cases hx) (fun hx => by cases hx) (fun hx => by cases hx) (fun f hx => by cases hx) (fun hx => by cases hx),
        trp_cons ho h1 (fun p hp => ⟨Y.past p (hp' p hp), fun f hx => by cases hx⟩) (fun rd hrd => ⟨Y.reads rd (hr' rd hrd), fun hx => by cases hx⟩), ?_⟩
      rw [hlen]
      simp only [if_neg (show j0 + 1 + l.length ≠ j0 by omega)]
      exact hK
    have fin_read : ∀ (v : Value) (ok : AH → Prop) (f : AH → Option Value), opRead P (opv T) o.op = some f → f H = some v → (∀ X, ok X → f X = some v) → (o.guard = none ∨ ∃ g want, o.guard = some (g, want) ∧ yieldV ops T g = .bool want) → evD P call ops bs l (j0 + 1) (putT T o.dst v) H past (⟨j0, ok⟩ :: reads) K = some r →
        (∀ p ∈ past, ordB bs p.1 j0 = false → f p.2 = some v) → ∃ tT tH sk vl, tT j0 = T ∧ tH j0 = H ∧ Tr P call ops bs j0 tT tH sk vl ∧ TrP P ops bs j0 tT tH sk vl past reads ∧ K (tT (j0 + (o :: l).length)) (tH (j0 + (o :: l).length)) = some r := by
      intro v ok f hf hv hok hg hh hc
      obtain ⟨tT, tH, sk, vl, h0, h1, X, Y, hK⟩ := evD_inv ops bs l (j0 + 1) _ _ _ _ hl' hh
      have hne := read_not_eff hf
      refine ⟨_, _, _, _, if_pos rfl, if_pos rfl, tr_cons (s := false) (v := v) ho h0 h1 X (fun hx => by cases hx) (fun _ => hg) (fun f' _ hf' => ?_) (fun _ hx => by rw [hf] at hx; cases hx) (fun _ hx => by rw [hne] at hx; cases hx) (fun f' _ hf' e oe he hoe hse hef hord => ?_) (fun _ hx => by rw [hf] at hx; cases hx),
        trp_cons ho h1 (fun p hp => ⟨Y.past p hp, fun f' _ hf' hord => ?_⟩) (fun rd hrd => ⟨Y.reads rd (by simp [hrd]), fun _ hx => by rw [hne] at hx; cases hx⟩), ?_⟩
      · rw [hf] at hf'; cases hf'; exact ⟨hv, rfl⟩
      · rw [hf] at hf'; cases hf'; exact hok _ (Y.reads ⟨j0, ok⟩ (by simp) e oe he hoe hse hef hord)
      · rw [hf] at hf'; cases hf'; exact hc p hp hord
      · rw [hlen]
        simp only [if_neg (show j0 + 1 + l.length ≠ j0 by omega)]
        exact hK
    have fin_eff : ∀ (v : Value) (H1 : AH), opRead P (opv T) o.op = none → aRes P call (opv T) o.op H = some (v, H1) → isEff o.op = true → (o.guard = none ∨ ∃ g want, o.guard = some (g, want) ∧ yieldV ops T g = .bool want) → evD P call ops bs l (j0 + 1) (putT T o.dst v) H1 ((j0, H) :: past) reads K = some r →
        (∀ rd ∈ reads, ordB bs rd.at_ j0 = false → rd.ok H1) → ∃ tT tH sk vl, tT j0 = T ∧ tH j0 = H ∧ Tr P call ops bs j0 tT tH sk vl ∧ TrP P ops bs j0 tT tH sk vl past reads ∧ K (tT (j0 + (o :: l).length)) (tH (j0 + (o :: l).length)) = some r := by
      intro v H1 hf hv he hg hh hc
      obtain ⟨tT, tH, sk, vl, h0, h1, X, Y, hK⟩ := evD_inv ops bs l (j0 + 1) _ _ _ _ hl' hh
      refine ⟨_, _, _, _, if_pos rfl, if_pos rfl, tr_cons (s := false) (v := v) ho h0 h1 X (fun hx => by cases hx) (fun _ => hg) (fun f' _ hf' => by rw [hf] at hf'; cases hf') (fun _ _ => hv) (fun _ _ j p f hj hp hs hf hord => Y.past (j0, H) (by simp) j p f hj hp hs hf hord) (fun f' _ hf' => by rw [hf] at hf'; cases hf') (fun _ _ hx => by rw [alloc_not_eff hx] at he; cases he),
        trp_cons ho h1 (fun p hp => ⟨Y.past p (by simp [hp]), fun f' _ hf' => by rw [hf] at hf'; cases hf'⟩) (fun rd hrd => ⟨Y.reads rd hrd, fun _ _ hord => hc rd hrd hord⟩), ?_⟩
      rw [hlen]
      simp only [if_neg (show j0 + 1 + l.length ≠ j0 by omega)]
      exact hK
    have fin_alloc : ∀ (v : Value) (H1 : AH) (ok : AH → Prop), (∀ X, ok X → blk X H.length = blk H1 H.length) → opRead P (opv T) o.op = none → aRes P call (opv T) o.op H = some (v, H1) → isEff o.op = false → (o.guard = none ∨ ∃ g want, o.guard = some (g, want) ∧ yieldV ops T g = .bool want) → evD P call ops bs l (j0 + 1) (putT T o.dst v) H1 past (⟨j0, ok⟩ :: reads) K = some r → ∃ tT tH sk vl, tT j0 = T ∧ tH j0 = H ∧ Tr P call ops bs j0 tT tH sk vl ∧ TrP P ops bs j0 tT tH sk vl past reads ∧ K (tT (j0 + (o :: l).length)) (tH (j0 + (o :: l).length)) = some r := by
      intro v H1 ok hok hf hv he hg hh
      obtain ⟨tT, tH, sk, vl, h0, h1, X, Y, hK⟩ := evD_inv ops bs l (j0 + 1) _ _ _ _ hl' hh
      refine ⟨_, _, _, _, if_pos rfl, if_pos rfl, tr_cons (s := false) (v := v) ho h0 h1 X (fun hx => by cases hx) (fun _ => hg) (fun f' _ hf' => by rw [hf] at hf'; cases hf') (fun _ _ => hv) (fun _ hx => by rw [he] at hx; cases hx) (fun f' _ hf' => by rw [hf] at hf'; cases hf') (fun _ _ _ e oe hee hoe hse hef hord => hok _ (Y.reads ⟨j0, ok⟩ (by simp) e oe hee hoe hse hef hord)),
        trp_cons ho h1 (fun p hp => ⟨Y.past p hp, fun f' _ hf' => by rw [hf] at hf'; cases hf'⟩) (fun rd hrd => ⟨Y.reads rd (by simp [hrd]), fun _ hx => by rw [he] at hx; cases hx⟩), ?_⟩
      rw [hlen]
      simp only [if_neg (show j0 + 1 + l.length ≠ j0 by omega)]
      exact hK
    have fin_pure : ∀ (v : Value) (H1 : AH), opRead P (opv T) o.op = none → aRes P call (opv T) o.op H = some (v, H1) → isEff o.op = false → isAlloc o.op = false → (o.guard = none ∨ ∃ g want, o.guard = some (g, want) ∧ yieldV ops T g = .bool want) → evD P call ops bs l (j0 + 1) (putT T o.dst v) H1 past reads K = some r → ∃ tT tH sk vl, tT j0 = T ∧ tH j0 = H ∧ Tr P call ops bs j0 tT tH sk vl ∧ TrP P ops bs j0 tT tH sk vl past reads ∧ K (tT (j0 + (o :: l).length)) (tH (j0 + (o :: l).length)) = some r := by
      intro v H1 hf hv he ha hg hh
      obtain ⟨tT, tH, sk, vl, h0, h1, X, Y, hK⟩ := evD_inv ops bs l (j0 + 1) _ _ _ _ hl' hh
      refine ⟨_, _, _, _, if_pos rfl, if_pos rfl, tr_cons (s := false) (v := v) ho h0 h1 X (fun hx => by cases hx) (fun _ => hg) (fun f' _ hf' => by rw [hf] at hf'; cases hf') (fun _ _ => hv) (fun _ hx => by rw [he] at hx; cases hx) (fun f' _ hf' => by rw [hf] at hf'; cases hf') (fun _ _ hx => by rw [ha] at hx; cases hx),
        trp_cons ho h1 (fun p hp => ⟨Y.past p hp, fun f' _ hf' => by rw [hf] at hf'; cases hf'⟩) (fun rd hrd => ⟨Y.reads rd hrd, fun _ hx => by rw [he] at hx; cases hx⟩), ?_⟩
      rw [hlen]
      simp only [if_neg (show j0 + 1 + l.length ≠ j0 by omega)]
      exact hK
    unfold evD at h
    cases hg : o.guard with
    | none =>
      rw [hg] at h
      simp only at h
      split at h
      · rename_i f hf
        obtain ⟨v, hv, hh⟩ := bind_some h
        obtain ⟨hh, hc⟩ := chkPast_inv past hh
        exact fin_read v _ f hf hv (fun X hX => hX) (.inl hg) hh hc
      · rename_i hf
        rw [aOp_res] at h
        obtain ⟨⟨v, H1⟩, hv, hh⟩ := bind_some h
        simp only at hh
        cases he : isEff o.op with
        | true =>
          rw [he] at hh
          obtain ⟨hh, hc⟩ := chkReads_inv reads hh
          exact fin_eff v H1 hf hv he (.inl hg) hh hc
        | false =>
          rw [he] at hh
          cases ha : isAlloc o.op with
          | true => rw [ha] at hh; exact fin_alloc v H1 _ (fun X hX => hX) hf hv he (.inl hg) hh
          | false => rw [ha] at hh; exact fin_pure v H1 hf hv he ha (.inl hg) hh
    | some q =>
      obtain ⟨g, want⟩ := q
      rw [hg] at h
      simp only at h
      split at h
      · rename_i f hf
        obtain ⟨p, hp, hh⟩ := bind_some h
        obtain ⟨hh, hc⟩ := chkPast_inv past hh
        rcases gOp_inv hp with ⟨hu, h5⟩ | ⟨hu, rfl⟩
        · obtain ⟨v, hv, h6⟩ := bind_some h5
          cases h6
          exact fin_read v _ f hf hv (fun X hX => hX hu) (.inr ⟨g, want, hg, hu⟩) hh (fun p hp hord => hc p hp hord hu)
        · exact fin_skip _ _ (fun p hp => hp) (fun rd hrd => by simp [hrd]) hh ⟨g, want, hg, hu⟩
      · rename_i hf
        obtain ⟨⟨v, H1⟩, hp, hh⟩ := bind_some h
        simp only at hh
        rcases gOp_inv hp with ⟨hu, h5⟩ | ⟨hu, h5⟩
        · cases he : isEff o.op with
          | true =>
            rw [he] at hh
            obtain ⟨hh, hc⟩ := chkReads_inv reads hh
            exact fin_eff v H1 hf h5 he (.inr ⟨g, want, hg, hu⟩) hh hc
          | false =>
            rw [he] at hh
            cases ha : isAlloc o.op with
            | true => rw [ha] at hh; exact fin_alloc v H1 _ (fun X hX => hX hu) hf h5 he (.inr ⟨g, want, hg, hu⟩) hh
            | false => rw [ha] at hh; exact fin_pure v H1 hf h5 he ha (.inr ⟨g, want, hg, hu⟩) hh
        · cases h5
          cases he : isEff o.op with
          | true =>
            rw [he] at hh
            obtain ⟨hh, hc⟩ := chkReads_inv reads hh
            exact fin_skip _ _ (fun p hp => by simp [hp]) (fun rd hrd => hrd) hh ⟨g, want, hg, hu⟩
          | false =>
            rw [he] at hh
            cases ha : isAlloc o.op with
            | true => rw [ha] at hh; exact fin_skip _ _ (fun p hp => hp) (fun rd hrd => by simp [hrd]) hh ⟨g, want, hg, hu⟩
            | false => rw [ha] at hh; exact fin_skip _ _ (fun p hp => hp) (fun rd hrd => hrd) hh ⟨g, want, hg, hu⟩
end
end Go.AM
set_option linter.unusedVariables false
set_option linter.unusedSimpArgs false
namespace Go.AM
open Go.RowKit

section
variable {P : Program} {call : CallF}

def cutM (m : Mp) (l : Nat) : Mp := fun b => if b < l then m b else none
theorem cutM_some {m : Mp} {l b : Nat} {L : Loc} (h : cutM m l b = some L) : b < l ∧ m b = some L := by
  unfold cutM at h
  split at h
  · rename_i hb; exact ⟨hb, h⟩
  · cases h
theorem cutM_of {m : Mp} {l b : Nat} {L : Loc} (h : b < l) (hm : m b = some L) : cutM m l b = some L := by rw [cutM, if_pos h, hm]
/-- All that a value leads to lies below l. -/
def Bel (l : Nat) (x : Value) : Prop := ∃ (mm : Mp) (y : Value), VRel mm x y ∧ ∀ b L, mm b = some L → b < l
theorem Bel.list {l : Nat} {mm : Mp} {xs ys : List Value} (h : LRel mm xs ys) (hb : ∀ b L, mm b = some L → b < l) : ∀ (i : Nat) (x : Value), xs[i]? = some x → Bel l x := by
  intro i x hx
  have hlt := (List.getElem?_eq_some_iff.1 hx).1
  have hy := List.getElem?_eq_getElem (show i < ys.length by rw [← h.1]; exact hlt)
  exact ⟨mm, _, h.2 i x _ hx hy, hb⟩
theorem VRel.cutB {m : Mp} {l : Nat} {x y : Value} (h : VRel m x y) : Bel l x → VRel (cutM m l) x y := by
  induction h with
  | unk v => intro _; exact .unk v
  | flat v hf => intro _; exact .flat v hf
  | ptr b off L hm h0 =>
    intro hb
    obtain ⟨mm, y, hr, hl⟩ := hb
    obtain ⟨L', h1, _⟩ := hr.ptr_inv
    exact .ptr b off L (cutM_of (hl _ _ h1) hm) h0
  | map b L hm h0 =>
    intro hb
    obtain ⟨mm, y, hr, hl⟩ := hb
    obtain ⟨L', h1, _⟩ := hr.map_inv
    exact .map b L (cutM_of (hl _ _ h1) hm) h0
  | yld b L hm h0 =>
    intro hb
    obtain ⟨mm, y, hr, hl⟩ := hb
    obtain ⟨L', h1, _⟩ := hr.yld_inv
    exact .yld b L (cutM_of (hl _ _ h1) hm) h0
  | slice b off off' len cap cap' L hm h0 h1 h2 h3 h4 h5 h7 =>
    intro hb
    obtain ⟨mm, y, hr, hl⟩ := hb
    obtain ⟨L', _, _, h6, _⟩ := hr.slice_inv
    exact .slice b off off' len cap cap' L (cutM_of (hl _ _ h6) hm) h0 h1 h2 h3 h4 h5 h7
  | agg xs ys hs _ ih =>
    intro hb
    obtain ⟨mm, y, hr, hl⟩ := hb
    obtain ⟨zs, rfl, hlr⟩ := hr.agg_inv
    exact .agg xs ys hs fun i x y hx hy => ih i x y hx hy (Bel.list hlr hl i x (by simpa using hx))
  | tuple xs ys hs _ ih =>
    intro hb
    obtain ⟨mm, y, hr, hl⟩ := hb
    obtain ⟨zs, rfl, hlr⟩ := hr.tuple_inv
    exact .tuple xs ys hs fun i x y hx hy => ih i x y hx hy (Bel.list hlr hl i x (by simpa using hx))
  | func f a b a' b' h1 _ h2 _ ih1 ih2 =>
    intro hb
    obtain ⟨mm, y, hr, hl⟩ := hb
    have hsp : LRel mm a.toList (match y with | .func _ u _ => u.toList | _ => []) ∧ LRel mm b.toList (match y with | .func _ _ u => u.toList | _ => []) := by
      cases hr with
      | flat v hf => simp [flat1] at hf
      | func f a b a' b' h1 h2 h3 h4 => exact ⟨⟨by simpa using h1, fun i x y hx hy => h2 i x y (by simpa using hx) (by simpa using hy)⟩, ⟨by simpa using h3, fun i x y hx hy => h4 i x y (by simpa using hx) (by simpa using hy)⟩⟩
    exact .func f a b a' b' h1 (fun i x y hx hy => ih1 i x y hx hy (Bel.list hsp.1 hl i x (by simpa using hx))) h2 (fun i x y hx hy => ih2 i x y hx hy (Bel.list hsp.2 hl i x (by simpa using hx)))
/-- What holds behind an operation whatever it comes to, holds. -/
theorem wp_const {o : Oper} {a : Act} {w : World} {C : Prop} (h : o.wp P a w (fun _ _ => C) (fun _ _ _ => C)) : C := by
  unfold Oper.wp at h
  generalize (execOp a.eval o).run P w = res at h
  cases res with
  | halt hh w' => cases hh <;> simp only [Oper.upon] at h <;> exact h
  | ok n w' =>
    cases n <;> simp only [Oper.upon] at h
    case enter f args =>
      obtain ⟨e, w'', fr, hR, _⟩ := h []
      cases e with
      | returned v => exact hR
      | panicked c => exact hR
      | outgrown => obtain ⟨_, _, hc⟩ := hR; exact hc
    case row row args =>
      obtain ⟨v, w'', hR, _⟩ := h default []
      exact hR
    all_goals exact h
theorem read_res {ρ : Operand → Value} {op : Op} {f : AH → Option Value} (hf : opRead P ρ op = some f) (H : AH) : aRes P call ρ op H = (f H).bind fun v => some (v, H) := by
  unfold opRead at hf
  split at hf
  · cases hf; rfl
  · rename_i s d x
    cases hb : isBytesToString P s d with
    | true => rw [hb] at hf; cases hf; unfold aRes; simp only [aOp, hb, cond_true]
    | false => rw [hb] at hf; cases hf
  · cases hf; rfl
  · split at hf
    · rename_i args ts t x ht hx
      cases hb : isMapT P t with
      | true =>
        rw [hb] at hf
        cases hf
        unfold aRes
        simp only [aOp, aCall, ht, hx, hb, cond_true]
      | false => rw [hb] at hf; cases hf
    · cases hf
  · cases hf
section
variable {ops : Array Oper} {bs : List Nat} {tT : Nat → List Value} {tH : Nat → AH} {sk : Nat → Bool} {vl : Nat → Value}
theorem Tr.res (X : Tr P call ops bs 0 tT tH sk vl) {j : Nat} {o : Oper} (ho : ops[j]? = some o) (hs : sk j = false) : aRes P call (opv (tT j)) o.op (tH j) = some (vl j, tH (j + 1)) := by
  cases hf : opRead P (opv (tT j)) o.op with
  | none => exact X.other j o (Nat.zero_le _) ho hs hf
  | some f =>
    obtain ⟨h1, h2⟩ := X.read j o f (Nat.zero_le _) ho hs hf
    rw [read_res hf, h1, h2]
    rfl
/-- The text's own order can be walked. -/
theorem Tr.walk (hcall : CallOK P call) (X : Tr P call ops bs 0 tT tH sk vl) {B0 : Nat} {w0 : World} {m : Mp} {a : Act} {w : World} (R0 : Rel P B0 w0 m (tH 0) w) (hT : LRel m (tT 0) a.tmps.toList) :
    ∀ j, j ≤ ops.size → ∃ (m' : Mp) (a' : Act) (w' : World), Ext m (tH 0) w m' (tH j) w' ∧ Rel P B0 w0 m' (tH j) w' ∧ LRel m' (tT j) a'.tmps.toList
  | 0, _ => ⟨m, a, w, Ext.refl _ _ _, R0, hT⟩
  | j + 1, hj => by
    obtain ⟨m1, a1, w1, E1, R1, T1⟩ := Tr.walk hcall X R0 hT j (by omega)
    have ho : ops[j]? = some ops[j] := Array.getElem?_eq_getElem (by omega)
    cases hs : sk j with
    | true =>
      obtain ⟨_, h2, h3⟩ := X.skip j _ (Nat.zero_le _) ho hs
      rw [X.step j _ (Nat.zero_le _) ho, h2, h3]
      exact ⟨m1, a1.put ops[j].dst undef, w1, E1, R1, put_rel T1 _ (VRel.undef _)⟩
    | false =>
      have h1 := res_sound hcall (X.res ho hs) R1 T1
      refine wp_const (h1 (fun _ _ => _) (fun _ _ _ => _) fun m' v' w' E R' hv => ?_)
      rw [X.step j _ (Nat.zero_le _) ho]
      exact ⟨m', a1.put ops[j].dst v', w', Ext.trans (fun b L hb => (R0.dom b L hb).1) E1 E, R', put_rel (T1.mono E.mono) _ hv⟩
/-- From one step to the next. -/
theorem Tr.next (hcall : CallOK P call) (X : Tr P call ops bs 0 tT tH sk vl) {B0 : Nat} {w0 : World} {m : Mp} {a : Act} {w : World} (R0 : Rel P B0 w0 m (tH 0) w) (hT : LRel m (tT 0) a.tmps.toList) {j : Nat} (hj : j < ops.size) :
    (tH j).length ≤ (tH (j + 1)).length ∧ ∀ b k', b < (tH j).length → blk (tH (j + 1)) b = some k' → ∃ k, blk (tH j) b = some k ∧ k.kind = k'.kind := by
  obtain ⟨m1, a1, w1, E1, R1, T1⟩ := X.walk hcall R0 hT j (by omega)
  have ho : ops[j]? = some ops[j] := Array.getElem?_eq_getElem (by omega)
  cases hs : sk j with
  | true =>
    obtain ⟨_, _, h3⟩ := X.skip j _ (Nat.zero_le _) ho hs
    rw [h3]
    exact ⟨Nat.le_refl _, fun b k' _ hk => ⟨k', hk, rfl⟩⟩
  | false =>
    have h1 := res_sound hcall (X.res ho hs) R1 T1
    exact wp_const (h1 (fun _ _ => _) (fun _ _ _ => _) fun m' v' w' E R' hv => ⟨E.len, E.alive⟩)
theorem Tr.bel (hcall : CallOK P call) (X : Tr P call ops bs 0 tT tH sk vl) {B0 : Nat} {w0 : World} {m : Mp} {a : Act} {w : World} (R0 : Rel P B0 w0 m (tH 0) w) (hT : LRel m (tT 0) a.tmps.toList) {j : Nat} (hj : j ≤ ops.size) (s : Nat) (x : Value) (hx : (tT j)[s]? = some x) :
    Bel (tH j).length x := by
  obtain ⟨m1, a1, w1, E1, R1, T1⟩ := X.walk hcall R0 hT j hj
  exact Bel.list T1 (fun b L hb => (R1.dom b L hb).1) s x hx
theorem Tr.lens (hcall : CallOK P call) (X : Tr P call ops bs 0 tT tH sk vl) {B0 : Nat} {w0 : World} {m : Mp} {a : Act} {w : World} (R0 : Rel P B0 w0 m (tH 0) w) (hT : LRel m (tT 0) a.tmps.toList) (i : Nat) : ∀ d, i + d ≤ ops.size → (tH i).length ≤ (tH (i + d)).length ∧ ∀ b k', b < (tH i).length → blk (tH (i + d)) b = some k' → ∃ k, blk (tH i) b = some k ∧ k.kind = k'.kind
  | 0, _ => ⟨Nat.le_refl _, fun b k' _ hk => ⟨k', hk, rfl⟩⟩
  | d + 1, hd => by
    obtain ⟨h1, h2⟩ := Tr.lens hcall X R0 hT i d (by omega)
    obtain ⟨h3, h4⟩ := X.next hcall R0 hT (j := i + d) (by omega)
    refine ⟨Nat.le_trans h1 h3, fun b k' hb hk => ?_⟩
    obtain ⟨k1, h5, h6⟩ := h4 b k' (Nat.lt_of_lt_of_le hb h1) hk
    obtain ⟨k2, h7, h8⟩ := h2 b k1 hb h5
    exact ⟨k2, h7, h8.trans h6⟩
/-- An acting operation that is done. -/
def eE (ops : Array Oper) (sk : Nat → Bool) (j : Nat) : Bool := (ops[j]?).any (fun o => isEff o.op) && !sk j
/-- An operation that doesn't act leaves the blocks that there are; if it makes one, it is told which. -/
theorem Tr.noeff (X : Tr P call ops bs 0 tT tH sk vl) {j : Nat} (hj : j < ops.size) (he : eE ops sk j = false) : (tH (j + 1) = tH j) ∨ ∃ k : Blk, tH (j + 1) = tH j ++ [some k] := by
  have ho : ops[j]? = some ops[j] := Array.getElem?_eq_getElem (by omega)
  cases hs : sk j with
  | true => exact .inl (X.skip j _ (Nat.zero_le _) ho hs).2.2
  | false =>
    have heff : isEff ops[j].op = false := by simpa [eE, ho, hs] using he
    cases hf : opRead P (opv (tT j)) ops[j].op with
    | some f => exact .inl (X.read j _ f (Nat.zero_le _) ho hs hf).2
    | none =>
      have h1 := X.other j _ (Nat.zero_le _) ho hs hf
      cases ha : isAlloc ops[j].op with
      | true => obtain ⟨k, h2, h3, _⟩ := alloc_res ha h1; exact .inr ⟨k, h3⟩
      | false => exact .inl (pure_res heff hf ha h1).1
theorem blk_app_old {H : AH} {b : Nat} (k : Option Blk) (h : b < H.length) : blk (H ++ [k]) b = blk H b := by
  unfold blk
  rw [List.getElem?_append_left h]
theorem Tr.same (X : Tr P call ops bs 0 tT tH sk vl) (i : Nat) : ∀ d, i + d ≤ ops.size → (∀ e, i ≤ e → e < i + d → eE ops sk e = false) → (tH i).length ≤ (tH (i + d)).length ∧ ∀ b, b < (tH i).length → blk (tH (i + d)) b = blk (tH i) b
  | 0, _, _ => ⟨Nat.le_refl _, fun b _ => rfl⟩
  | d + 1, hd, he => by
    obtain ⟨h1, h2⟩ := Tr.same X i d (by omega) fun e h1 h2 => he e h1 (by omega)
    rcases X.noeff (j := i + d) (by omega) (he (i + d) (by omega) (by omega)) with h3 | ⟨k, h3⟩
    · rw [show i + (d + 1) = i + d + 1 by omega, h3]; exact ⟨h1, h2⟩
    · rw [show i + (d + 1) = i + d + 1 by omega, h3]
      exact ⟨by simp; omega, fun b hb => by rw [blk_app_old _ (Nat.lt_of_lt_of_le hb h1)]; exact h2 b hb⟩
end
end
end Go.AM
set_option linter.unusedVariables false
set_option linter.unusedSimpArgs false
namespace Go.AM
open Go.RowKit

theorem BRel.world {P : Program} {B0 : Nat} {m : Mp} {L : Loc} {k : Blk} {w w1 : World} (h : BRel P B0 m L k w) (e : w1.heap[L.blk]? = w.heap[L.blk]?) : BRel P B0 m L k w1 := by
  exact h.at (fun _ _ h => h) e
theorem BRel.mono {P : Program} {B0 : Nat} {m m' : Mp} {L : Loc} {k : Blk} {w : World} (hm : ∀ b L, m b = some L → m' b = some L) (h : BRel P B0 m L k w) : BRel P B0 m' L k w := by
  exact h.at hm rfl
section
variable (tH : Nat → AH) (n : Nat)
open Classical in
/-- A block's content where it is made. -/
noncomputable def ini (b : Nat) : Option Blk := if h : ∃ j, j < n ∧ (tH j).length ≤ b ∧ b < (tH (j + 1)).length then blk (tH (Classical.choose h + 1)) b else none
noncomputable def kb (q b : Nat) : Option Blk := if b < (tH q).length then blk (tH q) b else ini tH n b
variable {tH n}
theorem ini_eq (hmono : ∀ i d, i + d ≤ n → (tH i).length ≤ (tH (i + d)).length) {j b : Nat} (hj : j < n) (h1 : (tH j).length ≤ b) (h2 : b < (tH (j + 1)).length) : ini tH n b = blk (tH (j + 1)) b := by
  have h : ∃ j, j < n ∧ (tH j).length ≤ b ∧ b < (tH (j + 1)).length := ⟨j, hj, h1, h2⟩
  unfold ini
  rw [dif_pos h]
  obtain ⟨g1, g2, g3⟩ := Classical.choose_spec h
  have : Classical.choose h = j := by
    rcases Nat.lt_trichotomy (Classical.choose h) j with hlt | heq | hgt
    · have := hmono (Classical.choose h + 1) (j - (Classical.choose h + 1)) (by omega)
      rw [show Classical.choose h + 1 + (j - (Classical.choose h + 1)) = j by omega] at this
      omega
    · exact heq
    · have := hmono (j + 1) (Classical.choose h - (j + 1)) (by omega)
      rw [show j + 1 + (Classical.choose h - (j + 1)) = Classical.choose h by omega] at this
      omega
  rw [this]
end
structure VR (P : Program) (B0 : Nat) (w0 : World) (tH : Nat → AH) (n q : Nat) (m : Mp) (w : World) : Prop where
  below : Below B0 w0 w
  hB : B0 ≤ w.heap.size
  dom : ∀ b L, m b = some L → b < (tH n).length ∧ L.blk < w.heap.size
  blks : ∀ b L k, m b = some L → kb tH n q b = some k → BRel P B0 (cutM m (max (tH q).length (b + 1))) L k w
  inj : ∀ b1 b2 L1 L2 k1 k2, m b1 = some L1 → m b2 = some L2 → kb tH n q b1 = some k1 → kb tH n q b2 = some k2 → k1.kind ≠ .ro → b1 ≠ b2 → L1.blk ≠ L2.blk
section
variable {P : Program} {B0 : Nat} {w0 : World} {tH : Nat → AH} {n q : Nat} {m : Mp} {w : World}
theorem kb_lt {b : Nat} (h : b < (tH q).length) : kb tH n q b = blk (tH q) b := if_pos h
theorem kb_ge {b : Nat} (h : (tH q).length ≤ b) : kb tH n q b = ini tH n b := if_neg (by omega)
theorem VR.rel (h : VR P B0 w0 tH n q m w) : Rel P B0 w0 (cutM m (tH q).length) (tH q) w := by
  refine ⟨h.below, h.hB, fun b L hm => ?_, fun b L k hm hk => ?_, fun b1 b2 L1 L2 k1 k2 hm1 hm2 hk1 hk2 hne hbb => ?_⟩
  · obtain ⟨h1, h2⟩ := cutM_some hm
    exact ⟨h1, (h.dom b L h2).2⟩
  · obtain ⟨h1, h2⟩ := cutM_some hm
    have := h.blks b L k h2 (by rw [kb_lt h1]; exact hk)
    rwa [Nat.max_eq_left (by omega)] at this
  · obtain ⟨h1, h2⟩ := cutM_some hm1
    obtain ⟨h3, h4⟩ := cutM_some hm2
    exact h.inj b1 b2 L1 L2 k1 k2 h2 h4 (by rw [kb_lt h1]; exact hk1) (by rw [kb_lt h3]; exact hk2) hne hbb
def padH (tH : Nat → AH) (n q : Nat) : AH := tH q ++ List.replicate ((tH n).length - (tH q).length) none
theorem blk_pad {b : Nat} {k : Blk} (h : blk (padH tH n q) b = some k) : b < (tH q).length ∧ blk (tH q) b = some k := by
  unfold padH at h
  rcases Nat.lt_or_ge b (tH q).length with h1 | h1
  · refine ⟨h1, ?_⟩
    unfold blk at h ⊢
    rwa [List.getElem?_append_left h1] at h
  · unfold blk at h
    rw [List.getElem?_append_right h1] at h
    rw [List.getElem?_replicate] at h
    split at h <;> cases h
theorem VR.pad (h : VR P B0 w0 tH n q m w) (hl : (tH q).length ≤ (tH n).length) : Rel P B0 w0 m (padH tH n q) w := by
  refine ⟨h.below, h.hB, fun b L hm => ?_, fun b L k hm hk => ?_, fun b1 b2 L1 L2 k1 k2 hm1 hm2 hk1 hk2 hne hbb => ?_⟩
  · have := h.dom b L hm
    refine ⟨?_, this.2⟩
    unfold padH
    rw [List.length_append, List.length_replicate]
    omega
  · obtain ⟨h1, h2⟩ := blk_pad hk
    exact (h.blks b L k hm (by rw [kb_lt h1]; exact h2)).mono fun b L hb => (cutM_some hb).2
  · obtain ⟨h1, h2⟩ := blk_pad hk1
    obtain ⟨h3, h4⟩ := blk_pad hk2
    exact h.inj b1 b2 L1 L2 k1 k2 hm1 hm2 (by rw [kb_lt h1]; exact h2) (by rw [kb_lt h3]; exact h4) hne hbb
theorem blk_dead (l b : Nat) : blk (List.replicate l none) b = none := by
  unfold blk
  rw [List.getElem?_replicate]
  split <;> rfl
theorem VR.dead (h : VR P B0 w0 tH n q m w) (l : Nat) : Rel P B0 w0 (cutM m l) (List.replicate l none) w := by
  refine ⟨h.below, h.hB, fun b L hm => ?_, fun b L k hm hk => (by rw [blk_dead] at hk; cases hk), fun b1 b2 L1 L2 k1 k2 hm1 hm2 hk1 hk2 hne hbb => (by rw [blk_dead] at hk1; cases hk1)⟩
  obtain ⟨h1, h2⟩ := cutM_some hm
  exact ⟨by rw [List.length_replicate]; exact h1, (h.dom b L h2).2⟩
/-- The world has moved on, its blocks are as they were. -/
theorem VR.still (h : VR P B0 w0 tH n q m w) {w1 : World} (hb : Below B0 w0 w1) (hs : w.heap.size ≤ w1.heap.size) (hw : ∀ B, B < w.heap.size → w1.heap[B]? = w.heap[B]?) : VR P B0 w0 tH n q m w1 :=
  ⟨hb, Nat.le_trans h.hB hs, fun b L hm => ⟨(h.dom b L hm).1, Nat.lt_of_lt_of_le (h.dom b L hm).2 hs⟩, fun b L k hm hk => (h.blks b L k hm hk).world (hw _ (h.dom b L hm).2), h.inj⟩
/-- A block more. -/
theorem VR.alloc (h : VR P B0 w0 tH n q m w) {w1 : World} (hb : Below B0 w0 w1) (hs : w.heap.size ≤ w1.heap.size) (hw : ∀ B, B < w.heap.size → w1.heap[B]? = w.heap[B]?) {l : Nat} {L : Loc} {k : Blk} (hl : l < (tH n).length) (hm : m l = none) (hk : kb tH n q l = some k)
    (hL : w.heap.size ≤ L.blk) (hL1 : L.blk < w1.heap.size) (hB : BRel P B0 (cutM (upd m l L) (l + 1)) L k w1) : VR P B0 w0 tH n q (upd m l L) w1 := by
  have hmono : ∀ b L', m b = some L' → upd m l L b = some L' := fun b L' h1 => by
    unfold upd
    split
    · rename_i he; subst he; rw [hm] at h1; cases h1
    · exact h1
  have old : ∀ b2 L2, upd m l L b2 = some L2 → (b2 = l ∧ L2 = L) ∨ (b2 ≠ l ∧ m b2 = some L2) := by
    intro b2 L2 h2
    unfold upd at h2
    split at h2
    · rename_i hb; cases h2; exact .inl ⟨hb, rfl⟩
    · rename_i hb; exact .inr ⟨hb, h2⟩
  have h1 := h.still hb hs hw
  refine ⟨hb, h1.hB, fun b L' hb' => ?_, fun b L' k' hb' hk' => ?_, fun b1 b2 L1 L2 k1 k2 hm1 hm2 hk1 hk2 hne hbb => ?_⟩
  · rcases old b L' hb' with ⟨rfl, rfl⟩ | ⟨_, h2⟩
    · exact ⟨hl, hL1⟩
    · exact h1.dom b L' h2
  · rcases old b L' hb' with ⟨rfl, rfl⟩ | ⟨_, h2⟩
    · rw [hk] at hk'
      cases hk'
      exact hB.mono fun b' L'' h3 => by obtain ⟨h4, h5⟩ := cutM_some h3; exact cutM_of (by omega) h5
    · exact (h1.blks b L' k' h2 hk').mono fun b' L'' h3 => by obtain ⟨h4, h5⟩ := cutM_some h3; exact cutM_of h4 (hmono _ _ h5)
  · rcases old b1 L1 hm1 with ⟨rfl, rfl⟩ | ⟨_, h2⟩
    · rcases old b2 L2 hm2 with ⟨rfl, rfl⟩ | ⟨_, h3⟩
      · exact (hbb rfl).elim
      · have := (h.dom b2 L2 h3).2; omega
    · rcases old b2 L2 hm2 with ⟨rfl, rfl⟩ | ⟨_, h3⟩
      · have := (h.dom b1 L1 h2).2; omega
      · exact h.inj b1 b2 L1 L2 k1 k2 h2 h3 hk1 hk2 hne hbb
/-- What acts is done. -/
def mrg (m1 m : Mp) (l1 : Nat) : Mp := fun b => if b < l1 then m1 b else m b
theorem VR.eff (h : VR P B0 w0 tH n q m w) {q' : Nat} {m1 : Mp} {w1 : World} (hq : q < q') (hq' : q' ≤ n) (hlen : (tH q).length ≤ (tH (q + 1)).length) (hsame : (tH (q + 1)).length ≤ (tH q').length ∧ ∀ b, b < (tH (q + 1)).length → blk (tH q') b = blk (tH (q + 1)) b)
    (hini : ∀ b, (tH (q + 1)).length ≤ b → b < (tH q').length → blk (tH q') b = ini tH n b) (hle : (tH q').length ≤ (tH n).length)
    (R1 : Rel P B0 w0 m1 (tH (q + 1)) w1) (E : Ext (cutM m (tH q).length) (tH q) w m1 (tH (q + 1)) w1) (hnew : ∀ b, (tH q).length ≤ b → b < (tH (q + 1)).length → m b = none) :
    VR P B0 w0 tH n q' (mrg m1 m (tH (q + 1)).length) w1 ∧ (∀ b L, m b = some L → mrg m1 m (tH (q + 1)).length b = some L) := by
  have hmono : ∀ b L, m b = some L → mrg m1 m (tH (q + 1)).length b = some L := by
    intro b L hb
    unfold mrg
    split
    · rename_i hlt
      rcases Nat.lt_or_ge b (tH q).length with h1 | h1
      · exact E.mono b L (cutM_of h1 hb)
      · rw [hnew b h1 hlt] at hb; cases hb
    · exact hb
  have hmono1 : ∀ b L, m1 b = some L → mrg m1 m (tH (q + 1)).length b = some L := by
    intro b L hb
    unfold mrg
    rw [if_pos (R1.dom b L hb).1]
    exact hb
  have old : ∀ b L, mrg m1 m (tH (q + 1)).length b = some L → (b < (tH (q + 1)).length ∧ m1 b = some L) ∨ ((tH (q + 1)).length ≤ b ∧ m b = some L) := by
    intro b L hb
    unfold mrg at hb
    split at hb
    · rename_i h1; exact .inl ⟨h1, hb⟩
    · rename_i h1; exact .inr ⟨by omega, hb⟩
  -- what lies beyond is as it was
  have kbeyond : ∀ b, (tH (q + 1)).length ≤ b → kb tH n q' b = kb tH n q b := by
    intro b hb
    rw [kb_ge (q := q) (by omega)]
    rcases Nat.lt_or_ge b (tH q').length with h1 | h1
    · rw [kb_lt h1]; exact hini b hb h1
    · exact kb_ge h1
  have wbeyond : ∀ b L k, (tH (q + 1)).length ≤ b → m b = some L → kb tH n q b = some k → w1.heap[L.blk]? = w.heap[L.blk]? := by
    intro b L k hb hm hk
    refine E.frame _ (h.dom b L hm).2 fun b2 L2 k2 hm2 hk2 hne => ?_
    obtain ⟨h1, h2⟩ := cutM_some hm2
    exact h.inj b2 b L2 L k2 k h2 hm (by rw [kb_lt h1]; exact hk2) hk hne (by omega)
  -- where a block of the lesser heap may lie
  have place : ∀ b L k, m1 b = some L → blk (tH (q + 1)) b = some k → ∀ b2 L2 k2, (tH (q + 1)).length ≤ b2 → m b2 = some L2 → kb tH n q b2 = some k2 → (k.kind ≠ .ro ∨ k2.kind ≠ .ro) → L.blk ≠ L2.blk := by
    intro b L k hm hk b2 L2 k2 hb2 hm2 hk2 hor
    rcases E.new b L hm with h1 | ⟨h1, h3 | ⟨b0, L0, k0, h3, h4, h5, h6⟩⟩
    · obtain ⟨h3, h4⟩ := cutM_some h1
      obtain ⟨k', h5, h6⟩ := E.alive b k h3 hk
      rcases hor with hor | hor
      · exact h.inj b b2 L L2 k' k2 h4 hm2 (by rw [kb_lt h3]; exact h5) hk2 (by rw [h6]; exact hor) (by omega)
      · exact Ne.symm (h.inj b2 b L2 L k2 k' hm2 h4 hk2 (by rw [kb_lt h3]; exact h5) hor (by omega))
    · have := (h.dom b2 L2 hm2).2; omega
    · obtain ⟨h7, h8⟩ := cutM_some h3
      rw [← h6]
      exact h.inj b0 b2 L0 L2 k0 k2 h8 hm2 (by rw [kb_lt h7]; exact h4) hk2 h5 (by omega)
  refine ⟨⟨R1.below, R1.hB, fun b L hb => ?_, fun b L k hb hk => ?_, fun b1 b2 L1 L2 k1 k2 hm1 hm2 hk1 hk2 hne hbb => ?_⟩, hmono⟩
  · rcases old b L hb with ⟨h1, h2⟩ | ⟨h1, h2⟩
    · exact ⟨by omega, (R1.dom b L h2).2⟩
    · exact ⟨(h.dom b L h2).1, Nat.lt_of_lt_of_le (h.dom b L h2).2 E.size⟩
  · rcases old b L hb with ⟨h1, h2⟩ | ⟨h1, h2⟩
    · rw [kb_lt (by omega), hsame.2 b h1] at hk
      exact (R1.blks b L k h2 hk).mono fun b' L' h3 => cutM_of (by have := (R1.dom b' L' h3).1; omega) (hmono1 b' L' h3)
    · rw [kbeyond b h1] at hk
      refine ((h.blks b L k h2 hk).world (wbeyond b L k h1 h2 hk)).mono fun b' L' h3 => ?_
      obtain ⟨h4, h5⟩ := cutM_some h3
      exact cutM_of (by omega) (hmono b' L' h5)
  · rcases old b1 L1 hm1 with ⟨h1, h2⟩ | ⟨h1, h2⟩
    · rw [kb_lt (by omega), hsame.2 b1 h1] at hk1
      rcases old b2 L2 hm2 with ⟨h3, h4⟩ | ⟨h3, h4⟩
      · rw [kb_lt (by omega), hsame.2 b2 h3] at hk2
        exact R1.inj b1 b2 L1 L2 k1 k2 h2 h4 hk1 hk2 hne hbb
      · rw [kbeyond b2 h3] at hk2
        exact place b1 L1 k1 h2 hk1 b2 L2 k2 h3 h4 hk2 (.inl hne)
    · rw [kbeyond b1 h1] at hk1
      rcases old b2 L2 hm2 with ⟨h3, h4⟩ | ⟨h3, h4⟩
      · rw [kb_lt (by omega), hsame.2 b2 h3] at hk2
        exact Ne.symm (place b2 L2 k2 h4 hk2 b1 L1 k1 h1 h2 hk1 (.inr hne))
      · rw [kbeyond b2 h3] at hk2
        exact h.inj b1 b2 L1 L2 k1 k2 h2 h4 hk1 hk2 hne hbb
end
end Go.AM
set_option linter.unusedVariables false
set_option linter.unusedSimpArgs false
namespace Go.AM
open Go.RowKit

section
variable {P : Program} {call : CallF} {ops : Array Oper}
def dstAt (ops : Array Oper) (i : Nat) : Option Tmp := (ops[i]?).bind (·.dst)
def sv (ops : Array Oper) (vl : Nat → Value) (T0 : List Value) (D : Nat → Bool) : Nat → Nat → Value
  | 0, s => T0.getD s undef
  | i + 1, s => if D i = true ∧ dstAt ops i = some s then vl i else sv ops vl T0 D i s
def svL (ops : Array Oper) (vl : Nat → Value) (T0 : List Value) (D : Nat → Bool) : List Value := (List.range T0.length).map (sv ops vl T0 D ops.size)
variable {vl : Nat → Value} {T0 : List Value}
theorem svL_length (D : Nat → Bool) : (svL ops vl T0 D).length = T0.length := by simp [svL]
theorem svL_getD (D : Nat → Bool) {s : Nat} (hs : s < T0.length) : (svL ops vl T0 D).getD s undef = sv ops vl T0 D ops.size s := by
  unfold svL
  rw [List.getD_eq_getElem?_getD, List.getElem?_map, List.getElem?_range hs]
  rfl
theorem sv_congr {D D' : Nat → Bool} {s : Nat} : ∀ i, (∀ j, j < i → dstAt ops j = some s → D j = D' j) → sv ops vl T0 D i s = sv ops vl T0 D' i s
  | 0, _ => rfl
  | i + 1, h => by
    have ih := sv_congr (D := D) (D' := D') i fun j hj => h j (by omega)
    unfold sv
    rw [ih]
    by_cases hd : dstAt ops i = some s
    · rw [h i (by omega) hd]
    · rw [if_neg (fun hh => hd hh.2), if_neg (fun hh => hd hh.2)]
theorem sv_cut {D : Nat → Bool} {s i : Nat} : ∀ d, (∀ j, i ≤ j → j < i + d → dstAt ops j = some s → D j = false) → sv ops vl T0 D (i + d) s = sv ops vl T0 D i s
  | 0, _ => rfl
  | d + 1, h => by
    have ih := sv_cut (D := D) (s := s) (i := i) d fun j h1 h2 => h j h1 (by omega)
    have e : sv ops vl T0 D (i + (d + 1)) s = if D (i + d) = true ∧ dstAt ops (i + d) = some s then vl (i + d) else sv ops vl T0 D (i + d) s := rfl
    rw [e, if_neg]
    · exact ih
    · intro hh
      have := h (i + d) (by omega) (by omega) hh.2
      rw [hh.1] at this
      cases this
theorem tT_sv {tT : Nat → List Value} (h0 : tT 0 = T0) (hstep : ∀ j o, ops[j]? = some o → tT (j + 1) = putT (tT j) o.dst (vl j)) : ∀ j, j ≤ ops.size → (tT j).length = T0.length ∧ ∀ s, s < T0.length → (tT j).getD s undef = sv ops vl T0 (fun _ => true) j s
  | 0, _ => by rw [h0]; exact ⟨rfl, fun s _ => rfl⟩
  | j + 1, hj => by
    obtain ⟨h1, h2⟩ := tT_sv h0 hstep j (by omega)
    have ho : ops[j]? = some ops[j] := Array.getElem?_eq_getElem (by omega)
    rw [hstep j _ ho]
    have hd : dstAt ops j = ops[j].dst := by simp [dstAt, ho]
    cases hdst : ops[j].dst with
    | none =>
      refine ⟨h1, fun s hs => ?_⟩
      unfold sv
      rw [if_neg (by rw [hd, hdst]; simp)]
      exact h2 s hs
    | some d =>
      refine ⟨by simp [putT, h1], fun s hs => ?_⟩
      unfold sv
      rw [hd, hdst]
      by_cases he : d = s
      · subst he
        rw [if_pos ⟨rfl, rfl⟩]
        simp only [putT]
        rw [List.getD_eq_getElem?_getD, List.getElem?_set_self (by omega)]
        rfl
      · rw [if_neg (by simp [he])]
        simp only [putT]
        rw [List.getD_eq_getElem?_getD, List.getElem?_set_ne he, ← List.getD_eq_getElem?_getD]
        exact h2 s hs
/-- What the region's own test says of two operations. -/
theorem regOK_pair (hreg : regOK ops = true) {i j : Nat} (hij : i < j) {oi oj : Oper} (hi : ops[i]? = some oi) (hj : ops[j]? = some oj) : ordB (befL [] ops.toList) i j = true ∨ ((isEff oi.op = true → isEff oj.op = true → False) ∧ oi.apart ops oj = true ∧ oj.apart ops oi = true) := by
  unfold regOK at hreg
  rw [Bool.and_eq_true] at hreg
  have h1 := List.all_eq_true.1 hreg.2 j (List.mem_range.2 (Array.getElem?_eq_some_iff.1 hj).1)
  have h2 := List.all_eq_true.1 h1 i (List.mem_range.2 hij)
  rw [Bool.or_eq_true] at h2
  rcases h2 with h2 | h2
  · exact .inl h2
  · right
    simp only [hi, hj, Option.any_some, Bool.and_eq_true, Bool.not_eq_true', Bool.and_eq_false_iff] at h2
    refine ⟨fun h3 h4 => ?_, h2.1.2, h2.2⟩
    rcases h2.1.1 with h5 | h5
    · rw [h3] at h5; cases h5
    · rw [h4] at h5; cases h5
theorem regOK_edge (hreg : regOK ops = true) {j : Nat} {o : Oper} (ho : ops[j]? = some o) {e : Edge} (he : e ∈ o.after) (hb : Region.binds .any e = true) : e.on < j := by
  unfold regOK at hreg
  rw [Bool.and_eq_true] at hreg
  have h1 := List.all_eq_true.1 hreg.1 j (List.mem_range.2 (Array.getElem?_eq_some_iff.1 ho).1)
  simp only [ho, Option.any_some] at h1
  have h2 := Array.all_eq_true'.1 h1 e he
  simpa [hb] using h2
/-- The operation is ready: what it comes behind is done, it is not. -/
structure Ready (ops : Array Oper) (D : Nat → Bool) (j : Nat) (o : Oper) : Prop where
  op : ops[j]? = some o
  down : Down ops (fun i => D i = true)
  edges : ∀ e ∈ o.after, Region.binds .any e = true → D e.on = true
  not : D j = false
variable {D : Nat → Bool} {j : Nat} {o : Oper}
theorem Ready.before (h : Ready ops D j o) {i : Nat} (ho : ordB (befL [] ops.toList) i j = true) : D i = true := ordB_down h.down j o h.op h.edges i ho
theorem Ready.behind (h : Ready ops D j o) {i : Nat} {oi : Oper} (hi : ops[i]? = some oi) (ho : ordB (befL [] ops.toList) j i = true) : D i = false := by
  cases hD : D i with
  | false => rfl
  | true =>
    have := ordB_down h.down i oi hi (fun e he hb => h.down i oi hi hD e he hb) j ho
    have h2 := h.not
    rw [this] at h2
    cases h2
theorem Ready.slots (hreg : regOK ops = true) (h : Ready ops D j o) {s : Tmp} (hs : s ∈ o.looksAt ops) : sv ops vl T0 D ops.size s = sv ops vl T0 (fun _ => true) j s := by
  have hj : j < ops.size := (Array.getElem?_eq_some_iff.1 h.op).1
  have e1 : sv ops vl T0 D ops.size s = sv ops vl T0 D j s := by
    have := sv_cut (ops := ops) (vl := vl) (T0 := T0) (D := D) (s := s) (i := j) (ops.size - j) fun i h1 h2 hd => ?_
    · rwa [show j + (ops.size - j) = ops.size by omega] at this
    · by_cases hij : i = j
      · subst hij; exact h.not
      · have hi : ops[i]? = some ops[i] := Array.getElem?_eq_getElem (by omega)
        rcases regOK_pair hreg (show j < i by omega) h.op hi with h3 | ⟨_, h3, _⟩
        · exact h.behind hi h3
        · obtain ⟨_, _, h5⟩ := Oper.apart_spec h3
          exact absurd hs (h5 s (by simpa [dstAt, hi] using hd))
  rw [e1]
  refine sv_congr j fun i hij hd => ?_
  have hi : ops[i]? = some ops[i] := Array.getElem?_eq_getElem (by omega)
  rcases regOK_pair hreg hij hi h.op with h3 | ⟨_, h3, _⟩
  · exact h.before h3
  · obtain ⟨h4, _, _⟩ := Oper.apart_spec h3
    exact absurd hs (h4 s (by simpa [dstAt, hi] using hd))
theorem Ready.put (hreg : regOK ops = true) (h : Ready ops D j o) : svL ops vl T0 (fun i => if i = j then true else D i) = putT (svL ops vl T0 D) o.dst (vl j) := by
  have hj : j < ops.size := (Array.getElem?_eq_some_iff.1 h.op).1
  have hdj : dstAt ops j = o.dst := by simp [dstAt, h.op]
  apply List.ext_getElem?
  intro s
  rcases Nat.lt_or_ge s T0.length with hs | hs
  · have hl : (svL ops vl T0 (fun i => if i = j then true else D i))[s]? = some (sv ops vl T0 (fun i => if i = j then true else D i) ops.size s) := by
      unfold svL; rw [List.getElem?_map, List.getElem?_range hs]; rfl
    have hl2 : (svL ops vl T0 D)[s]? = some (sv ops vl T0 D ops.size s) := by
      unfold svL; rw [List.getElem?_map, List.getElem?_range hs]; rfl
    rw [hl]
    by_cases hd : o.dst = some s
    · rw [hd]
      simp only [putT]
      rw [List.getElem?_set_self (by rw [svL_length]; exact hs)]
      congr 1
      have := sv_cut (ops := ops) (vl := vl) (T0 := T0) (D := fun i => if i = j then true else D i) (s := s) (i := j + 1) (ops.size - (j + 1)) fun i h1 h2 hdi => ?_
      · rw [show j + 1 + (ops.size - (j + 1)) = ops.size by omega] at this
        rw [this]
        unfold sv
        rw [if_pos ⟨by simp, by rw [hdj]; exact hd⟩]
      · simp only [if_neg (show i ≠ j by omega)]
        have hi : ops[i]? = some ops[i] := Array.getElem?_eq_getElem (by omega)
        rcases regOK_pair hreg (show j < i by omega) h.op hi with h3 | ⟨_, h3, _⟩
        · exact h.behind hi h3
        · obtain ⟨_, h5, _⟩ := Oper.apart_spec h3
          exact absurd (show ops[i].dst = some s by simpa [dstAt, hi] using hdi) (h5 s hd)
    · have e1 : sv ops vl T0 (fun i => if i = j then true else D i) ops.size s = sv ops vl T0 D ops.size s := sv_congr _ fun i hi hdi => by
        have : i ≠ j := fun he => hd (by rw [← hdj, ← he]; exact hdi)
        simp only [if_neg this]
      rw [e1]
      cases hdst : o.dst with
      | none => exact hl2.symm
      | some d =>
        simp only [putT]
        rw [List.getElem?_set_ne (fun he => hd (by rw [hdst, he]))]
        exact hl2.symm
  · have hl : (svL ops vl T0 (fun i => if i = j then true else D i))[s]? = none := List.getElem?_eq_none (by rw [svL_length]; exact hs)
    rw [hl]
    cases o.dst with
    | none => exact (List.getElem?_eq_none (by simp only [putT]; rw [svL_length]; exact hs)).symm
    | some d => exact (List.getElem?_eq_none (by simp only [putT, List.length_set]; rw [svL_length]; exact hs)).symm
theorem opv_slots {T T' : List Value} (hl : T.length = T'.length) {o : Oper} (h : ∀ s ∈ o.looksAt ops, s < T.length → T.getD s undef = T'.getD s undef) : (∀ x ∈ o.op.operands, opv T x = opv T' x) ∧ ∀ g want, o.guard = some (g, want) → yieldV ops T g = yieldV ops T' g := by
  have one : ∀ s ∈ o.looksAt ops, T.getD s undef = T'.getD s undef := by
    intro s hs
    rcases Nat.lt_or_ge s T.length with h1 | h1
    · exact h s hs h1
    · rw [List.getD_eq_getElem?_getD, List.getD_eq_getElem?_getD, List.getElem?_eq_none h1, List.getElem?_eq_none (by omega)]
  refine ⟨fun x hx => ?_, fun g want hg => ?_⟩
  · cases x with
    | tmp s => exact one s (List.mem_append_left _ (List.mem_filterMap.2 ⟨.tmp s, by simpa using hx, rfl⟩))
    | _ => rfl
  · unfold yieldV
    cases hd : (ops[g]?).bind (·.dst) with
    | none => rfl
    | some s => exact one s (by simp [Oper.looksAt, hg, hd])
end
end Go.AM
set_option linter.unusedVariables false
set_option linter.unusedSimpArgs false
namespace Go.AM
open Go.RowKit

section
variable {P : Program} {call : CallF} {ops : Array Oper} {tT : Nat → List Value} {tH : Nat → AH} {sk : Nat → Bool} {vl : Nat → Value}

theorem read_sound {B0 : Nat} {w0 : World} {m : Mp} {X : AH} {w : World} (R0 : Rel P B0 w0 m X w) {T : List Value} {a : Act} (hT : LRel m T a.tmps.toList) {o : Oper} {f : AH → Option Value} (hf : opRead P (opv T) o.op = some f) {v : Value} (h : f X = some v) :
    ∃ v', (execOp a.eval o).run P w = .ok (.value v') w ∧ VRel m v v' := by
  obtain ⟨dst, op, ty, ps, af, g⟩ := o
  unfold opRead at hf
  split at hf
  · rename_i t x hop
    simp only at hop
    subst hop
    cases hf
    obtain ⟨v', q1, q2⟩ := ld_sound R0 (opv_rel hT x) h
    exact ⟨v', by simp [execOp, q1], q2⟩
  · rename_i s d x hop
    simp only at hop
    subst hop
    cases hb : isBytesToString P s d with
    | true =>
      rw [hb] at hf
      cases hf
      obtain ⟨v', q1, q2⟩ := cvS_sound R0 (opv_rel hT x) h
      exact ⟨v', by simp [execOp, q1], q2⟩
    | false => rw [hb] at hf; cases hf
  · rename_i t mm k two hop
    simp only at hop
    subst hop
    cases hf
    obtain ⟨v', q1, q2⟩ := lkU_sound R0 (opv_rel hT mm) (opv_rel hT k) h
    exact ⟨v', by simp [execOp, q1], q2⟩
  · rename_i args ts hop
    simp only at hop
    subst hop
    split at hf
    · rename_i t x ht ha
      have e1 : ts = #[t] := by apply Array.ext'; simpa using ht
      have e2 : args = #[x] := by apply Array.ext'; simpa using ha
      subst e1 e2
      cases hb : isMapT P t with
      | true =>
        rw [hb] at hf
        cases hf
        obtain ⟨q1, q2⟩ := lenM_sound (P := P) (ty := ty) R0 (opv_rel hT x) h
        exact ⟨v, by simp [execOp, resolve, invoke, builtin, q1], .flat _ q2⟩
      | false => rw [hb] at hf; cases hf
    · cases hf
  · cases hf
theorem nextE (s : Nat) : ∀ d, s + d = ops.size → ∃ q, s ≤ q ∧ q ≤ ops.size ∧ (∀ e, s ≤ e → e < q → eE ops sk e = false) ∧ (q < ops.size → eE ops sk q = true)
  | 0, h => ⟨s, Nat.le_refl _, by omega, fun e h1 h2 => by omega, fun h1 => by omega⟩
  | d + 1, h => by
    cases he : eE ops sk s with
    | true => exact ⟨s, Nat.le_refl _, by omega, fun e h1 h2 => by omega, fun _ => he⟩
    | false =>
      obtain ⟨q, h1, h2, h3, h4⟩ := nextE (s + 1) d (by omega)
      exact ⟨q, by omega, h2, fun e h5 h6 => by
        by_cases hes : e = s
        · subst hes; exact he
        · exact h3 e (by omega) h6, h4⟩
theorem eE_inv {j : Nat} (h : eE ops sk j = true) : ∃ o, ops[j]? = some o ∧ isEff o.op = true ∧ sk j = false := by
  unfold eE at h
  rw [Bool.and_eq_true] at h
  cases ho : ops[j]? with
  | none => rw [ho] at h; cases h.1
  | some o => rw [ho] at h; exact ⟨o, rfl, by simpa using h.1, by simpa using h.2⟩
theorem crossing (f : Nat → Nat) (i : Nat) (b : Nat) (h0 : f i ≤ b) : ∀ d, b < f (i + d) → ∃ j, i ≤ j ∧ j < i + d ∧ f j ≤ b ∧ b < f (j + 1)
  | 0, h => by simp at h; omega
  | d + 1, h => by
    rcases Nat.lt_or_ge b (f (i + d)) with h1 | h1
    · obtain ⟨j, h2, h3, h4⟩ := crossing f i b h0 d h1
      exact ⟨j, h2, by omega, h4⟩
    · exact ⟨i + d, by omega, by omega, h1, h⟩

structure Inv (P : Program) (ops : Array Oper) (tT : Nat → List Value) (tH : Nat → AH) (sk : Nat → Bool) (vl : Nat → Value) (B0 : Nat) (w0 : World) (m0 : Mp) (wI : World) (ds : List Deferred) (listed : Array Bool) (q : Nat) (m : Mp) (a : Act) (w : World) : Prop where
  lsize : listed.size = ops.size
  down : Down ops (fun i => listed.getD i false = true)
  hq : q ≤ ops.size
  hq1 : q < ops.size → eE ops sk q = true ∧ listed.getD q false = false
  hq2 : ∀ e, e < q → eE ops sk e = true → listed.getD e false = true
  slots : LRel m (svL ops vl (tT 0) (fun i => listed.getD i false)) a.tmps.toList
  defers : a.defers = ds
  vr : VR P B0 w0 tH ops.size q m w
  dm : ∀ b L, m b = some L → b < (tH 0).length ∨ ∃ i, i < ops.size ∧ listed.getD i false = true ∧ (tH i).length ≤ b ∧ b < (tH (i + 1)).length
  mono0 : ∀ b L, m0 b = some L → m b = some L
  size : wI.heap.size ≤ w.heap.size
  new : ∀ b L, m b = some L → m0 b = some L ∨ ((tH 0).length ≤ b ∧ (wI.heap.size ≤ L.blk ∨ ∃ b0 L0 k0, m0 b0 = some L0 ∧ blk (tH 0) b0 = some k0 ∧ k0.kind ≠ .ro ∧ L0.blk = L.blk))
  frame : ∀ B, B < wI.heap.size → (∀ b L k, m0 b = some L → blk (tH 0) b = some k → k.kind ≠ .ro → L.blk ≠ B) → w.heap[B]? = wI.heap[B]?

/-- The lengths and kinds along the text's own order. -/
structure Along (ops : Array Oper) (tT : Nat → List Value) (tH : Nat → AH) (m0 : Mp) : Prop where
  lens : ∀ i d, i + d ≤ ops.size → (tH i).length ≤ (tH (i + d)).length
  alive : ∀ d, d ≤ ops.size → ∀ b k', b < (tH 0).length → blk (tH d) b = some k' → ∃ k, blk (tH 0) b = some k ∧ k.kind = k'.kind
  bel : ∀ (j s : Nat) (x : Value), j ≤ ops.size → (tT j)[s]? = some x → Bel (tH j).length x
  dom0 : ∀ b L, m0 b = some L → b < (tH 0).length
theorem Along.le {m0 : Mp} (A : Along ops tT tH m0) {i j : Nat} (h : i ≤ j) (hj : j ≤ ops.size) : (tH i).length ≤ (tH j).length := by
  have := A.lens i (j - i) (by omega)
  rwa [show i + (j - i) = j by omega] at this
theorem getD_set {listed : Array Bool} {j : Nat} (hj : j < listed.size) (i : Nat) : (listed.setIfInBounds j true).getD i false = if i = j then true else listed.getD i false := by
  by_cases h : i = j
  · subst h
    rw [if_pos rfl]
    simp [Array.getD, hj]
  · rw [if_neg h]
    exact getD_set_ne false (Ne.symm h)
section
variable {B0 : Nat} {w0 : World} {m0 : Mp} {wI : World} {ds : List Deferred} {listed : Array Bool} {q : Nat} {m : Mp} {a : Act} {w : World}
theorem Inv.rdy (I : Inv P ops tT tH sk vl B0 w0 m0 wI ds listed q m a w) {j : Nat} (hr : j ∈ Region.ready .any ops listed) : ∃ o, Ready ops (fun i => listed.getD i false) j o := by
  unfold Region.ready at hr
  rw [List.mem_filter] at hr
  obtain ⟨h1, h2⟩ := hr
  have hj : j < ops.size := List.mem_range.1 h1
  have ho : ops[j]? = some ops[j] := Array.getElem?_eq_getElem hj
  rw [Bool.and_eq_true, ho] at h2
  simp only [Option.map_some, Option.getD_some] at h2
  refine ⟨ops[j], ho, I.down, fun e he hb => ?_, ?_⟩
  · have := Array.all_eq_true'.1 h2.2 e he
    simpa [hb] using this
  · have hlt : j < listed.size := by rw [I.lsize]; exact hj
    have := h2.1
    simp [Array.getD, hlt] at this ⊢
    exact this
theorem Inv.down' (I : Inv P ops tT tH sk vl B0 w0 m0 wI ds listed q m a w) {j : Nat} {o : Oper} (hr : Ready ops (fun i => listed.getD i false) j o) : Down ops (fun i => (listed.setIfInBounds j true).getD i false = true) := by
  have hlt : j < listed.size := by rw [I.lsize]; exact (Array.getElem?_eq_some_iff.1 hr.op).1
  intro i oi hi hD e he hb
  simp only [getD_set hlt] at hD ⊢
  by_cases hij : i = j
  · subst hij
    rw [hr.op] at hi
    cases hi
    have := hr.edges e he hb
    split
    · rfl
    · exact this
  · rw [if_neg hij] at hD
    have := I.down i oi hi hD e he hb
    split
    · rfl
    · exact this
/-- An operation that doesn't act is done: slots and marks. -/
theorem Inv.mark (hreg : regOK ops = true) (I : Inv P ops tT tH sk vl B0 w0 m0 wI ds listed q m a w) {j : Nat} {o : Oper} (hr : Ready ops (fun i => listed.getD i false) j o) (hne : eE ops sk j = false) {m2 : Mp} {w2 : World} {v' : Value}
    (hmono : ∀ b L, m b = some L → m2 b = some L) (hv : VRel m2 (vl j) v') (hvr : VR P B0 w0 tH ops.size q m2 w2) (hdm : ∀ b L, m2 b = some L → m b = some L ∨ ((tH j).length ≤ b ∧ b < (tH (j + 1)).length ∧ w.heap.size ≤ L.blk)) (h0 : (tH 0).length ≤ (tH j).length)
    (hs : w.heap.size ≤ w2.heap.size) (hw : ∀ B, B < w.heap.size → w2.heap[B]? = w.heap[B]?) :
    Inv P ops tT tH sk vl B0 w0 m0 wI ds (listed.setIfInBounds j true) q m2 (a.put o.dst v') w2 := by
  have hj : j < ops.size := (Array.getElem?_eq_some_iff.1 hr.op).1
  have hlt : j < listed.size := by rw [I.lsize]; exact hj
  refine ⟨by simp [I.lsize], I.down' hr, I.hq, fun h => ?_, fun e he hE => ?_, ?_, by rw [AM.put_defers]; exact I.defers, hvr, fun b L hb => ?_, fun b L hb => hmono b L (I.mono0 b L hb), Nat.le_trans I.size hs, fun b L hb => ?_, fun B hB hr' => ?_⟩
  · obtain ⟨h1, h2⟩ := I.hq1 h
    refine ⟨h1, ?_⟩
    rw [getD_set hlt, if_neg]
    · exact h2
    · intro he
      subst he
      rw [h1] at hne
      cases hne
  · rw [getD_set hlt]
    split
    · rfl
    · exact I.hq2 e he hE
  · have e1 : (fun i => (listed.setIfInBounds j true).getD i false) = fun i => if i = j then true else listed.getD i false := by funext i; exact getD_set hlt i
    rw [e1, hr.put hreg]
    exact put_rel (I.slots.mono hmono) _ hv
  · rcases hdm b L hb with h1 | ⟨h1, h2, h3⟩
    · rcases I.dm b L h1 with h4 | ⟨i, h4, h5, h6⟩
      · exact .inl h4
      · refine .inr ⟨i, h4, ?_, h6⟩
        rw [getD_set hlt]
        split
        · rfl
        · exact h5
    · exact .inr ⟨j, hj, by rw [getD_set hlt, if_pos rfl], h1, h2⟩
  · rcases hdm b L hb with h1 | ⟨h1, h2, h3⟩
    · exact I.new b L h1
    · exact .inr ⟨by omega, .inl (Nat.le_trans I.size h3)⟩
  · rw [hw B (Nat.lt_of_lt_of_le hB I.size)]
    exact I.frame B hB hr'
/-- A read tells the same now. -/
theorem Inv.readNow (X : Tr P call ops (befL [] ops.toList) 0 tT tH sk vl) (A : Along ops tT tH m0) (I : Inv P ops tT tH sk vl B0 w0 m0 wI ds listed q m a w) {j : Nat} {o : Oper} (hr : Ready ops (fun i => listed.getD i false) j o) (hs : sk j = false) {f : AH → Option Value}
    (hf : opRead P (opv (tT j)) o.op = some f) : f (tH q) = some (vl j) := by
  have hj : j < ops.size := (Array.getElem?_eq_some_iff.1 hr.op).1
  have hnj : eE ops sk j = false := by simp [eE, hr.op, read_not_eff hf]
  rcases Nat.lt_or_ge j q with hlt | hge
  · have key : ∀ d, j + 1 + d ≤ q → f (tH (j + 1 + d)) = some (vl j) := by
      intro d
      induction d with
      | zero =>
        intro _
        obtain ⟨h1, h2⟩ := X.read j o f (Nat.zero_le _) hr.op hs hf
        rw [Nat.add_zero, h2]
        exact h1
      | succ d ih =>
        intro hd
        have hprev := ih (by omega)
        have hq := I.hq
        cases hE : eE ops sk (j + 1 + d) with
        | true =>
          obtain ⟨oe, he1, he2, he3⟩ := eE_inv hE
          have hl := I.hq2 (j + 1 + d) (by omega) hE
          have hord : ordB (befL [] ops.toList) j (j + 1 + d) = false := by
            cases hc : ordB (befL [] ops.toList) j (j + 1 + d) with
            | false => rfl
            | true => have := hr.behind he1 hc; rw [hl] at this; cases this
          exact X.futR j o f (j + 1 + d) oe (Nat.zero_le _) (by omega) hr.op he1 hs he3 he2 hf hord
        | false =>
          rcases X.noeff (j := j + 1 + d) (by omega) hE with h3 | ⟨k, h3⟩
          · rw [show j + 1 + (d + 1) = j + 1 + d + 1 by omega, h3]; exact hprev
          · rw [show j + 1 + (d + 1) = j + 1 + d + 1 by omega, h3]
            exact opRead_keep hf (fun b k' hk => by rw [blk_app_old _ (blk_lt' hk)]; exact hk) hprev
    have := key (q - (j + 1)) (by omega)
    rwa [show j + 1 + (q - (j + 1)) = q by omega] at this
  · have hne : q ≠ j := by
      intro he
      subst he
      have := (I.hq1 hj).1
      rw [hnj] at this
      cases this
    obtain ⟨h1, h2⟩ := I.hq1 (by omega)
    obtain ⟨oe, he1, he2, he3⟩ := eE_inv h1
    refine X.pastR j o f q oe (Nat.zero_le _) (by omega) hr.op he1 hs he3 he2 hf ?_
    cases hc : ordB (befL [] ops.toList) q j with
    | false => rfl
    | true => have := hr.before hc; rw [h2] at this; cases this
/-- A block that is yet to be made stands as it will be made. -/
theorem Inv.makeNow (X : Tr P call ops (befL [] ops.toList) 0 tT tH sk vl) (A : Along ops tT tH m0) (I : Inv P ops tT tH sk vl B0 w0 m0 wI ds listed q m a w) {j : Nat} {o : Oper} (hr : Ready ops (fun i => listed.getD i false) j o) (hs : sk j = false)
    (hf : opRead P (opv (tT j)) o.op = none) (ha : isAlloc o.op = true) {k : Blk} (hk : tH (j + 1) = tH j ++ [some k]) : kb tH ops.size q (tH j).length = some k := by
  have hj : j < ops.size := (Array.getElem?_eq_some_iff.1 hr.op).1
  have hnew : blk (tH (j + 1)) (tH j).length = some k := by rw [hk]; unfold blk; simp
  have hlen : (tH (j + 1)).length = (tH j).length + 1 := by rw [hk]; simp
  have hnj : eE ops sk j = false := by simp [eE, hr.op, alloc_not_eff ha]
  rcases Nat.lt_or_ge j q with hlt | hge
  · have key : ∀ d, j + 1 + d ≤ q → blk (tH (j + 1 + d)) (tH j).length = some k := by
      intro d
      induction d with
      | zero => intro _; exact hnew
      | succ d ih =>
        intro hd
        have hprev := ih (by omega)
        have hq := I.hq
        cases hE : eE ops sk (j + 1 + d) with
        | true =>
          obtain ⟨oe, he1, he2, he3⟩ := eE_inv hE
          have hl := I.hq2 (j + 1 + d) (by omega) hE
          have hord : ordB (befL [] ops.toList) j (j + 1 + d) = false := by
            cases hc : ordB (befL [] ops.toList) j (j + 1 + d) with
            | false => rfl
            | true => have := hr.behind he1 hc; rw [hl] at this; cases this
          have := X.futA j o (j + 1 + d) oe (Nat.zero_le _) (by omega) hr.op he1 hs he3 he2 hf ha hord
          rw [show j + 1 + (d + 1) = j + 1 + d + 1 by omega, this]
          exact hnew
        | false =>
          rcases X.noeff (j := j + 1 + d) (by omega) hE with h3 | ⟨k', h3⟩
          · rw [show j + 1 + (d + 1) = j + 1 + d + 1 by omega, h3]; exact hprev
          · rw [show j + 1 + (d + 1) = j + 1 + d + 1 by omega, h3, blk_app_old _ (blk_lt' hprev)]
            exact hprev
    have := key (q - (j + 1)) (by omega)
    rw [show j + 1 + (q - (j + 1)) = q by omega] at this
    rw [kb_lt (blk_lt' this)]
    exact this
  · have hle := A.le hge (by omega)
    rw [kb_ge hle, ini_eq A.lens hj (Nat.le_refl _) (by omega)]
    exact hnew
end
end
end Go.AM
set_option linter.unusedVariables false
set_option linter.unusedSimpArgs false
namespace Go.AM
open Go.RowKit

section
variable {P : Program} {call : CallF} {ops : Array Oper} {tT : Nat → List Value} {tH : Nat → AH} {sk : Nat → Bool} {vl : Nat → Value} {B0 : Nat} {w0 : World} {m0 : Mp} {wI : World} {ds : List Deferred} {listed : Array Bool} {q : Nat} {m : Mp} {a : Act} {w : World}

theorem Tr.sv (X : Tr P call ops (befL [] ops.toList) 0 tT tH sk vl) {j : Nat} (hj : j ≤ ops.size) : (tT j).length = (tT 0).length ∧ ∀ s, s < (tT 0).length → (tT j).getD s undef = AM.sv ops vl (tT 0) (fun _ => true) j s :=
  tT_sv rfl (fun j o ho => X.step j o (Nat.zero_le _) ho) j hj
/-- What the operation looks at holds what it held in the text's own order. -/
theorem Inv.looks (hreg : regOK ops = true) (X : Tr P call ops (befL [] ops.toList) 0 tT tH sk vl) (I : Inv P ops tT tH sk vl B0 w0 m0 wI ds listed q m a w) {j : Nat} {o : Oper} (hr : Ready ops (fun i => listed.getD i false) j o) :
    ∀ s ∈ o.looksAt ops, s < (svL ops vl (tT 0) (fun i => listed.getD i false)).length → (svL ops vl (tT 0) (fun i => listed.getD i false)).getD s undef = (tT j).getD s undef := by
  intro s hs hlt
  rw [svL_length] at hlt
  rw [svL_getD _ hlt, hr.slots hreg hs, ((X.sv (Nat.le_of_lt (Array.getElem?_eq_some_iff.1 hr.op).1)).2 s hlt)]
theorem Inv.opv (hreg : regOK ops = true) (X : Tr P call ops (befL [] ops.toList) 0 tT tH sk vl) (I : Inv P ops tT tH sk vl B0 w0 m0 wI ds listed q m a w) {j : Nat} {o : Oper} (hr : Ready ops (fun i => listed.getD i false) j o) :
    (∀ x ∈ o.op.operands, AM.opv (svL ops vl (tT 0) (fun i => listed.getD i false)) x = AM.opv (tT j) x) ∧ ∀ g want, o.guard = some (g, want) → yieldV ops (svL ops vl (tT 0) (fun i => listed.getD i false)) g = yieldV ops (tT j) g := by
  have hj := Nat.le_of_lt (Array.getElem?_eq_some_iff.1 hr.op).1
  exact opv_slots (by rw [svL_length, (X.sv hj).1]) (I.looks hreg X hr)
theorem Inv.wanted (hreg : regOK ops = true) (X : Tr P call ops (befL [] ops.toList) 0 tT tH sk vl) (I : Inv P ops tT tH sk vl B0 w0 m0 wI ds listed q m a w) {j : Nat} {o : Oper} (hr : Ready ops (fun i => listed.getD i false) j o) :
    Region.wanted o (yielded ops a.tmps) = !sk j := by
  obtain ⟨_, hy⟩ := I.opv hreg X hr
  cases hs : sk j with
  | true =>
    obtain ⟨⟨g, want, hg, hu⟩, _⟩ := X.skip j o (Nat.zero_le _) hr.op hs
    rcases hu with ⟨b, hu, hb⟩ | ⟨vs, hu, _⟩
    · rw [wanted_of hg ((yield_rel I.slots g).1 b (by rw [hy g want hg]; exact hu))]
      simp [hb]
    · rw [wanted_of hg ((yield_rel I.slots g).2 vs (by rw [hy g want hg]; exact hu))]
      rfl
  | false =>
    rcases X.go j o (Nat.zero_le _) hr.op hs with hg | ⟨g, want, hg, hu⟩
    · unfold Region.wanted; rw [hg]; rfl
    · rw [wanted_of hg ((yield_rel I.slots g).1 want (by rw [hy g want hg]; exact hu))]
      simp
/-- What acts next is the one. -/
theorem Inv.isq (hreg : regOK ops = true) (I : Inv P ops tT tH sk vl B0 w0 m0 wI ds listed q m a w) {j : Nat} {o : Oper} (hr : Ready ops (fun i => listed.getD i false) j o) (hE : eE ops sk j = true) : j = q := by
  have hj : j < ops.size := (Array.getElem?_eq_some_iff.1 hr.op).1
  rcases Nat.lt_trichotomy j q with h | h | h
  · have := I.hq2 j h hE
    have h2 := hr.not
    rw [this] at h2
    cases h2
  · exact h
  · obtain ⟨h1, h2⟩ := I.hq1 (by omega)
    obtain ⟨oq, hq1, hq2, _⟩ := eE_inv h1
    obtain ⟨oj, hj1, hj2, _⟩ := eE_inv hE
    rcases regOK_pair hreg h hq1 hj1 with h3 | ⟨h3, _⟩
    · have := hr.before h3; rw [h2] at this; cases this
    · exact (h3 hq2 hj2).elim
/-- The slots that an operation looks at, under the lesser map. -/
theorem Inv.masked (hreg : regOK ops = true) (X : Tr P call ops (befL [] ops.toList) 0 tT tH sk vl) (A : Along ops tT tH m0) (I : Inv P ops tT tH sk vl B0 w0 m0 wI ds listed q m a w) {j : Nat} {o : Oper} (hr : Ready ops (fun i => listed.getD i false) j o) :
    ∃ T, LRel (cutM m (tH j).length) T a.tmps.toList ∧ ∀ x ∈ o.op.operands, AM.opv T x = AM.opv (tT j) x := by
  have hj : j ≤ ops.size := Nat.le_of_lt (Array.getElem?_eq_some_iff.1 hr.op).1
  refine ⟨(List.range (tT 0).length).map fun s => if s ∈ o.looksAt ops then (tT j).getD s undef else unk, ⟨?_, ?_⟩, ?_⟩
  · rw [List.length_map, List.length_range, ← I.slots.1, svL_length]
  · intro s x y hx hy
    rw [List.getElem?_map] at hx
    have hlt : s < (tT 0).length := by
      rcases Nat.lt_or_ge s (tT 0).length with h1 | h1
      · exact h1
      · rw [List.getElem?_eq_none (by simpa using h1)] at hx; cases hx
    rw [List.getElem?_range hlt, Option.map_some] at hx
    cases hx
    split
    · rename_i hs
      have h1 := I.looks hreg X hr s hs (by rw [svL_length]; exact hlt)
      have h2 : (svL ops vl (tT 0) (fun i => listed.getD i false))[s]? = some ((tT j).getD s undef) := by
        rw [← h1, List.getD_eq_getElem?_getD, List.getElem?_eq_getElem (by rw [svL_length]; exact hlt)]
        rfl
      have h3 := I.slots.2 s _ y h2 hy
      have h4 : (tT j)[s]? = some ((tT j).getD s undef) := by
        rw [List.getD_eq_getElem?_getD, List.getElem?_eq_getElem (by rw [(X.sv hj).1]; exact hlt)]
        rfl
      exact h3.cutB (A.bel j s _ hj h4)
    · exact .unk _
  · refine (opv_slots (ops := ops) (by rw [List.length_map, List.length_range, (X.sv hj).1]) fun s hs hlt => ?_).1
    rw [List.length_map, List.length_range] at hlt
    rw [List.getD_eq_getElem?_getD, List.getElem?_map, List.getElem?_range hlt, Option.map_some, Option.getD_some, if_pos hs]
theorem Inv.act (hreg : regOK ops = true) (X : Tr P call ops (befL [] ops.toList) 0 tT tH sk vl) (A : Along ops tT tH m0) (I : Inv P ops tT tH sk vl B0 w0 m0 wI ds listed q m a w) {o : Oper} (hr : Ready ops (fun i => listed.getD i false) q o) (hE : eE ops sk q = true)
    {m1 : Mp} {w1 : World} {v' : Value} (E : Ext (cutM m (tH q).length) (tH q) w m1 (tH (q + 1)) w1) (R1 : Rel P B0 w0 m1 (tH (q + 1)) w1) (hv : VRel m1 (vl q) v') :
    ∃ q' m2, Inv P ops tT tH sk vl B0 w0 m0 wI ds (listed.setIfInBounds q true) q' m2 (a.put o.dst v') w1 := by
  have hq : q < ops.size := (Array.getElem?_eq_some_iff.1 hr.op).1
  have hlt : q < listed.size := by rw [I.lsize]; exact hq
  obtain ⟨q', hq1, hq2, hq3, hq4⟩ := nextE (ops := ops) (sk := sk) (q + 1) (ops.size - (q + 1)) (by omega)
  have hlen := A.le (i := q) (j := q + 1) (by omega) (by omega)
  have hsame := X.same (q + 1) (q' - (q + 1)) (by omega) (fun e h1 h2 => hq3 e h1 (by omega))
  rw [show q + 1 + (q' - (q + 1)) = q' by omega] at hsame
  have hini : ∀ b, (tH (q + 1)).length ≤ b → b < (tH q').length → blk (tH q') b = ini tH ops.size b := by
    intro b h1 h2
    obtain ⟨j, h3, h4, h5, h6⟩ := crossing (fun i => (tH i).length) (q + 1) b h1 (q' - (q + 1)) (by rw [show q + 1 + (q' - (q + 1)) = q' by omega]; exact h2)
    rw [ini_eq A.lens (show j < ops.size by omega) h5 h6]
    have h7 := X.same (j + 1) (q' - (j + 1)) (by omega) (fun e h7 h8 => hq3 e (by omega) (by omega))
    rw [show j + 1 + (q' - (j + 1)) = q' by omega] at h7
    exact h7.2 b h6
  have hnew : ∀ b, (tH q).length ≤ b → b < (tH (q + 1)).length → m b = none := by
    intro b h1 h2
    cases hb : m b with
    | none => rfl
    | some L =>
      exfalso
      rcases I.dm b L hb with h3 | ⟨i, h3, h4, h5, h6⟩
      · have := A.le (i := 0) (j := q) (by omega) (by omega); omega
      · rcases Nat.lt_trichotomy i q with h7 | h7 | h7
        · have := A.le (i := i + 1) (j := q) (by omega) (by omega); omega
        · subst h7
          have := hr.not
          rw [h4] at this
          cases this
        · have := A.le (i := q + 1) (j := i) (by omega) (by omega); omega
  obtain ⟨V, hmono⟩ := I.vr.eff (by omega) hq2 hlen hsame hini (A.le hq2 (Nat.le_refl _)) R1 E hnew
  have hmono1 : ∀ b L, m1 b = some L → mrg m1 m (tH (q + 1)).length b = some L := by
    intro b L hb
    unfold mrg
    rw [if_pos (R1.dom b L hb).1]
    exact hb
  have split_ : ∀ b L, mrg m1 m (tH (q + 1)).length b = some L → m b = some L ∨ ((tH q).length ≤ b ∧ b < (tH (q + 1)).length ∧ (w.heap.size ≤ L.blk ∨ ∃ b0 L0 k0, m b0 = some L0 ∧ blk (tH q) b0 = some k0 ∧ b0 < (tH q).length ∧ k0.kind ≠ .ro ∧ L0.blk = L.blk)) := by
    intro b L hb
    unfold mrg at hb
    split at hb
    · rename_i h1
      rcases E.new b L hb with h2 | ⟨h2, h3 | ⟨b0, L0, k0, h3, h4, h5, h6⟩⟩
      · exact .inl (cutM_some h2).2
      · exact .inr ⟨h2, h1, .inl h3⟩
      · obtain ⟨h7, h8⟩ := cutM_some h3
        exact .inr ⟨h2, h1, .inr ⟨b0, L0, k0, h8, h4, h7, h5, h6⟩⟩
    · exact .inl hb
  -- an own block that there was
  have own0 : ∀ b L k, m b = some L → blk (tH q) b = some k → k.kind ≠ .ro → (wI.heap.size ≤ L.blk ∨ ∃ b0 L0 k0, m0 b0 = some L0 ∧ blk (tH 0) b0 = some k0 ∧ k0.kind ≠ .ro ∧ L0.blk = L.blk) := by
    intro b L k h1 h2 h3
    rcases I.new b L h1 with h4 | ⟨_, h4⟩
    · obtain ⟨k0, h5, h6⟩ := A.alive q (by omega) b k (A.dom0 b L h4) h2
      exact .inr ⟨b, L, k0, h4, h5, by rw [h6]; exact h3, rfl⟩
    · exact h4
  refine ⟨q', mrg m1 m (tH (q + 1)).length, ⟨by simp [I.lsize], I.down' hr, hq2, fun h => ⟨hq4 h, ?_⟩, fun e he hEe => ?_, ?_, by rw [AM.put_defers]; exact I.defers, V, fun b L hb => ?_, fun b L hb => hmono b L (I.mono0 b L hb), Nat.le_trans I.size E.size, fun b L hb => ?_, fun B hB hr' => ?_⟩⟩
  · rw [getD_set hlt, if_neg (by omega)]
    cases hc : listed.getD q' false with
    | false => rfl
    | true =>
      exfalso
      obtain ⟨oq', h1, h2, _⟩ := eE_inv (hq4 h)
      obtain ⟨oq, h3, h4, _⟩ := eE_inv hE
      rcases regOK_pair hreg (show q < q' by omega) h3 h1 with h5 | ⟨h5, _⟩
      · have := hr.behind h1 h5
        rw [hc] at this
        cases this
      · exact h5 h4 h2
  · rw [getD_set hlt]
    split
    · rfl
    · rename_i hne
      rcases Nat.lt_or_ge e q with h1 | h1
      · exact I.hq2 e h1 hEe
      · have := hq3 e (by omega) he
        rw [hEe] at this
        cases this
  · have e1 : (fun i => (listed.setIfInBounds q true).getD i false) = fun i => if i = q then true else listed.getD i false := by funext i; exact getD_set hlt i
    rw [e1, hr.put hreg]
    exact put_rel (I.slots.mono hmono) _ (hv.mono hmono1)
  · rcases split_ b L hb with h1 | ⟨h1, h2, _⟩
    · rcases I.dm b L h1 with h4 | ⟨i, h4, h5, h6⟩
      · exact .inl h4
      · refine .inr ⟨i, h4, ?_, h6⟩
        rw [getD_set hlt]
        split
        · rfl
        · exact h5
    · exact .inr ⟨q, hq, by rw [getD_set hlt, if_pos rfl], h1, h2⟩
  · rcases split_ b L hb with h1 | ⟨h1, h2, h3⟩
    · exact I.new b L h1
    · have := A.le (i := 0) (j := q) (by omega) (by omega)
      refine .inr ⟨by omega, ?_⟩
      rcases h3 with h3 | ⟨b0, L0, k0, h3, h4, _, h5, h6⟩
      · exact .inl (Nat.le_trans I.size h3)
      · have := own0 b0 L0 k0 h3 h4 h5
        rw [h6] at this
        exact this
  · rw [E.frame B (Nat.lt_of_lt_of_le hB I.size), I.frame B hB hr']
    intro b L k hb hk hne
    obtain ⟨h1, h2⟩ := cutM_some hb
    rcases own0 b L k h2 hk hne with h3 | ⟨b0, L0, k0, h3, h4, h5, h6⟩
    · omega
    · rw [← h6]; exact hr' b0 L0 k0 h3 h4 h5
def left (ops : Array Oper) (listed : Array Bool) : List Nat := (List.range ops.size).filter fun i => !listed.getD i false
theorem filter_less {f g : Nat → Bool} : ∀ (l : List Nat) (j : Nat), j ∈ l → f j = true → g j = false → (∀ i, g i = true → f i = true) → (l.filter g).length < (l.filter f).length
  | [], j, hj, _, _, _ => by cases hj
  | i :: l, j, hj, hf, hg, hgf => by
    have hle : (l.filter g).length ≤ (l.filter f).length := by
      clear hj
      induction l with
      | nil => simp
      | cons i l ih =>
        simp only [List.filter_cons]
        cases hgi : g i with
        | true => rw [hgf i hgi]; simp; exact ih
        | false => cases f i <;> simp <;> omega
    by_cases hij : i = j
    · subst hij
      simp only [List.filter_cons, hf, hg, if_true]
      simp
      omega
    · have hjl : j ∈ l := by cases hj with | head => exact (hij rfl).elim | tail _ h => exact h
      have := filter_less l j hjl hf hg hgf
      simp only [List.filter_cons]
      cases hgi : g i with
      | true => rw [hgf i hgi]; simp; exact this
      | false => cases f i <;> simp <;> omega
theorem Inv.any (hcall : CallOK P call) (hreg : regOK ops = true) (X : Tr P call ops (befL [] ops.toList) 0 tT tH sk vl) (A : Along ops tT tH m0) {Q : Exit → Act → World → Prop}
    (hq : ∀ (m' : Mp) (a' : Act) (w' : World), After P B0 w0 m0 (tH 0) wI ds (tT ops.size) (tH ops.size) m' a' w' → Q .normal a' w') :
    ∀ (fuel : Nat) (listed : Array Bool) (q : Nat) (m : Mp) (a : Act) (w : World), Inv P ops tT tH sk vl B0 w0 m0 wI ds listed q m a w → (left ops listed).length ≤ fuel → wpAny P .any ops Q fuel listed a w := by
  -- when nothing is ready, all is done
  have fin : ∀ (listed : Array Bool) (q : Nat) (m : Mp) (a : Act) (w : World), Inv P ops tT tH sk vl B0 w0 m0 wI ds listed q m a w → (∀ j, j < ops.size → listed.getD j false = true) → Q .normal a w := by
    intro listed q m a w I hall
    have hqn : q = ops.size := by
      rcases Nat.lt_or_ge q ops.size with h | h
      · have := (I.hq1 h).2
        rw [hall q h] at this
        cases this
      · have := I.hq; omega
    subst hqn
    have hN : ∀ b L, m b = some L → cutM m (tH ops.size).length b = some L := fun b L hb => cutM_of (I.vr.dom b L hb).1 hb
    have hT : svL ops vl (tT 0) (fun i => listed.getD i false) = tT ops.size := by
      obtain ⟨h1, h2⟩ := X.sv (Nat.le_refl ops.size)
      apply List.ext_getElem?
      intro s
      rcases Nat.lt_or_ge s (tT 0).length with hs | hs
      · have e1 : (svL ops vl (tT 0) (fun i => listed.getD i false))[s]? = some (AM.sv ops vl (tT 0) (fun i => listed.getD i false) ops.size s) := by
          unfold svL; rw [List.getElem?_map, List.getElem?_range hs]; rfl
        rw [e1, AM.sv_congr (D' := fun _ => true) _ (fun j hj _ => hall j hj), ← h2 s hs, List.getD_eq_getElem?_getD, List.getElem?_eq_getElem (by omega)]
        rfl
      · rw [List.getElem?_eq_none (by rw [svL_length]; exact hs), List.getElem?_eq_none (by omega)]
    refine hq (cutM m (tH ops.size).length) a w ⟨⟨fun b L hb => hN b L (I.mono0 b L hb), A.le (Nat.zero_le _) (Nat.le_refl _), I.size, fun b k' hb hk => A.alive ops.size (Nat.le_refl _) b k' hb hk, fun b L hb => I.new b L (cutM_some hb).2, I.frame⟩, I.vr.rel, ?_, I.defers⟩
    rw [← hT]
    exact I.slots.mono hN
  have ready_nil : ∀ (listed : Array Bool), Region.ready .any ops listed = [] → listed.size = ops.size → ∀ j, j < ops.size → listed.getD j false = true := by
    intro listed hnil hsz j
    induction j using Nat.strongRecOn with
    | _ j ih =>
      intro hj
      cases hl : listed.getD j false with
      | true => rfl
      | false =>
        exfalso
        have ho : ops[j]? = some ops[j] := Array.getElem?_eq_getElem hj
        have hmem : j ∈ Region.ready .any ops listed := by
          unfold Region.ready
          rw [List.mem_filter]
          refine ⟨List.mem_range.2 hj, ?_⟩
          rw [Bool.and_eq_true, ho]
          have hlt : j < listed.size := by omega
          refine ⟨by simp [Array.getD, hlt] at hl ⊢; exact hl, ?_⟩
          simp only [Option.map_some, Option.getD_some]
          refine Array.all_eq_true'.2 fun e he => ?_
          cases hb : Region.binds .any e with
          | false => rfl
          | true =>
            have hlte := regOK_edge hreg ho he hb
            simp [ih e.on hlte (by omega)]
        rw [hnil] at hmem
        cases hmem
  intro fuel
  induction fuel with
  | zero =>
    intro listed q m a w I hf
    have hall : ∀ j, j < ops.size → listed.getD j false = true := by
      intro j hj
      cases hl : listed.getD j false with
      | true => rfl
      | false =>
        exfalso
        have : j ∈ left ops listed := List.mem_filter.2 ⟨List.mem_range.2 hj, by simp [hl]⟩
        have hnil : left ops listed = [] := List.eq_nil_of_length_eq_zero (by omega)
        rw [hnil] at this
        cases this
    refine ⟨?_, fin listed q m a w I hall⟩
    cases hr : Region.ready .any ops listed with
    | nil => rfl
    | cons j rest =>
      exfalso
      obtain ⟨o, hrd⟩ := I.rdy (j := j) (by rw [hr]; simp)
      have := hrd.not
      rw [hall j (Array.getElem?_eq_some_iff.1 hrd.op).1] at this
      cases this
  | succ fuel ih =>
    intro listed q m a w I hf
    refine ⟨fun hnil => fin listed q m a w I (ready_nil listed hnil I.lsize), fun j hjr => ?_⟩
    obtain ⟨o, hr⟩ := I.rdy hjr
    have hj : j < ops.size := (Array.getElem?_eq_some_iff.1 hr.op).1
    have hlt : j < listed.size := by rw [I.lsize]; exact hj
    have hfuel : (left ops (listed.setIfInBounds j true)).length ≤ fuel := by
      have : (left ops (listed.setIfInBounds j true)).length < (left ops listed).length := by
        refine filter_less _ j (List.mem_range.2 hj) (by have := hr.not; simpa using this) (by rw [getD_set hlt]; simp) fun i hi => ?_
        rw [getD_set hlt] at hi
        split at hi
        · cases hi
        · exact hi
      omega
    have h0 : (tH 0).length ≤ (tH j).length := A.le (Nat.zero_le _) (by omega)
    unfold wpOp
    rw [hr.op]
    simp only
    rw [I.wanted hreg X hr]
    cases hs : sk j with
    | true =>
      simp only [Bool.not_true, Bool.false_eq_true, if_false]
      obtain ⟨_, h2, _⟩ := X.skip j o (Nat.zero_le _) hr.op hs
      refine ih _ q m _ w (I.mark hreg hr (by simp [eE, hs]) (fun _ _ h => h) (by rw [h2]; exact VRel.undef _) I.vr (fun b L h => .inl h) h0 (Nat.le_refl _) fun _ _ => rfl) hfuel
    | false =>
      simp only [Bool.not_false, if_true]
      refine .inl ?_
      obtain ⟨hop, _⟩ := I.opv hreg X hr
      cases hE : eE ops sk j with
      | true =>
        have hjq := I.isq hreg hr hE
        subst hjq
        obtain ⟨T, hT, hTo⟩ := I.masked hreg X A hr
        have hres := X.res hr.op hs
        rw [← aRes_congr o.op hTo] at hres
        refine res_sound hcall hres I.vr.rel hT _ _ fun m1 v' w1 E R1 hv => ?_
        obtain ⟨q', m2, I2⟩ := I.act hreg X A hr hE E R1 hv
        exact ih _ q' m2 _ w1 I2 hfuel
      | false =>
        have heff : isEff o.op = false := by simpa [eE, hr.op, hs] using hE
        cases hf' : opRead P (AM.opv (tT j)) o.op with
        | some f =>
          have hnow := I.readNow X A hr hs hf'
          have hpad : f (padH tH ops.size q) = some (vl j) := opRead_keep hf' (fun b k hk => by
            unfold padH blk
            rw [List.getElem?_append_left (blk_lt' hk)]
            exact hk) hnow
          rw [← opRead_congr o.op hop] at hf'
          obtain ⟨v', q1, q2⟩ := read_sound (I.vr.pad (A.le I.hq (Nat.le_refl _))) I.slots hf' hpad
          unfold Oper.wp
          rw [q1]
          exact ih _ q m _ w (I.mark hreg hr hE (fun _ _ h => h) q2 I.vr (fun b L h => .inl h) h0 (Nat.le_refl _) fun _ _ => rfl) hfuel
        | none =>
          have hres := X.other j o (Nat.zero_le _) hr.op hs hf'
          cases ha : isAlloc o.op with
          | false =>
            obtain ⟨_, hpure⟩ := pure_res heff hf' ha hres
            have hp2 := hpure (List.replicate (tH ops.size).length none)
            rw [← aRes_congr o.op hop] at hp2
            have hN : ∀ b L, m b = some L → cutM m (tH ops.size).length b = some L := fun b L hb => cutM_of (I.vr.dom b L hb).1 hb
            refine res_sound hcall hp2 (I.vr.dead _) (I.slots.mono hN) _ _ fun m1 v' w1 E R1 hv => ?_
            have hback : ∀ b L, m1 b = some L → m b = some L := by
              intro b L hb
              rcases E.new b L hb with h1 | ⟨h1, _⟩
              · exact (cutM_some h1).2
              · have := (R1.dom b L hb).1; omega
            have hw : ∀ B, B < w.heap.size → w1.heap[B]? = w.heap[B]? := fun B hB => E.frame B hB fun b L k _ hk => by rw [blk_dead] at hk; cases hk
            exact ih _ q m _ w1 (I.mark hreg hr hE (fun _ _ h => h) (hv.mono hback) (I.vr.still R1.below E.size hw) (fun b L h => .inl h) h0 E.size hw) hfuel
          | true =>
            obtain ⟨k, hk1, hk2, hall⟩ := alloc_res ha hres
            have hp2 := hall (List.replicate (tH j).length none) (by simp)
            have hkb := I.makeNow X A hr hs hf' ha hk2
            have hlen : (tH (j + 1)).length = (tH j).length + 1 := by rw [hk2]; simp
            have hnone : m (tH j).length = none := by
              cases hb : m (tH j).length with
              | none => rfl
              | some L =>
                exfalso
                rcases I.dm _ L hb with h3 | ⟨i, h3, h4, h5, h6⟩
                · omega
                · rcases Nat.lt_trichotomy i j with h7 | h7 | h7
                  · have := A.le (i := i + 1) (j := j) (by omega) (by omega); omega
                  · subst h7
                    have := hr.not
                    rw [h4] at this
                    cases this
                  · have := A.le (i := j + 1) (j := i) (by omega) (by omega); omega
            obtain ⟨T, hT, hTo⟩ := I.masked hreg X A hr
            rw [← aRes_congr o.op hTo] at hp2
            refine res_sound hcall hp2 (I.vr.dead _) hT _ _ fun m1 v' w1 E R1 hv => ?_
            have hmap : ∃ L, m1 (tH j).length = some L := by
              rcases hk1 with h1 | ⟨n, c, h1⟩ | h1
              · rw [h1] at hv; obtain ⟨L, h2, _⟩ := VRel.ptr_inv hv; exact ⟨L, h2⟩
              · rw [h1] at hv; obtain ⟨L, _, _, h2, _⟩ := VRel.slice_inv hv; exact ⟨L, h2⟩
              · rw [h1] at hv; obtain ⟨L, h2, _⟩ := VRel.map_inv hv; exact ⟨L, h2⟩
            obtain ⟨L, hL⟩ := hmap
            have hup : ∀ b L', m1 b = some L' → upd m (tH j).length L b = some L' ∧ b < (tH j).length + 1 := by
              intro b L' hb
              have h2 := (R1.dom b L' hb).1
              rw [List.length_append, List.length_replicate, List.length_singleton] at h2
              refine ⟨?_, h2⟩
              unfold upd
              by_cases hbl : b = (tH j).length
              · subst hbl; rw [if_pos rfl, ← hL]; exact hb
              · rw [if_neg hbl]
                rcases E.new b L' hb with h1 | ⟨h1, _⟩
                · exact (cutM_some h1).2
                · rw [List.length_replicate] at h1; omega
            have hblk : blk (List.replicate (tH j).length none ++ [some k]) (tH j).length = some k := by
              unfold blk
              rw [List.getElem?_append_right (by simp)]
              simp
            have hfresh : w.heap.size ≤ L.blk := by
              rcases E.new _ L hL with h1 | ⟨_, h1 | ⟨b0, L0, k0, _, h1, _⟩⟩
              · have := (cutM_some h1).1; omega
              · exact h1
              · rw [blk_dead] at h1; cases h1
            have hw : ∀ B, B < w.heap.size → w1.heap[B]? = w.heap[B]? := fun B hB => E.frame B hB fun b L k _ hk => by rw [blk_dead] at hk; cases hk
            have hmono : ∀ b L', m b = some L' → upd m (tH j).length L b = some L' := by
              intro b L' hb
              unfold upd
              rw [if_neg]
              · exact hb
              · intro he; rw [he, hnone] at hb; cases hb
            have hV := I.vr.alloc R1.below E.size hw (l := (tH j).length) (L := L) (k := k) (by have := A.le (i := j + 1) (j := ops.size) (by omega) (Nat.le_refl _); omega) hnone hkb hfresh (R1.dom _ L hL).2
              ((R1.blks _ L k hL hblk).mono fun b L' hb => cutM_of (hup b L' hb).2 (hup b L' hb).1)
            refine ih _ q _ _ w1 (I.mark hreg hr hE hmono (hv.mono fun b L' hb => (hup b L' hb).1) hV (fun b L' hb => ?_) h0 E.size hw) hfuel
            unfold upd at hb
            split at hb
            · rename_i he
              cases hb
              exact .inr ⟨by omega, by omega, hfresh⟩
            · exact .inl hb
theorem getD_replicate (n i : Nat) : (Array.replicate n false).getD i false = false := by
  unfold Array.getD
  split
  · simp
  · rfl
theorem draw_ok {P : Program} {call : CallF} (hcall : CallOK P call) : DrawOK P call := by
  intro ops hreg R T H K r h
  obtain ⟨tT, tH, sk, vl, h0, h1, X, _, hK⟩ := evD_inv ops (befL [] ops.toList) ops.toList 0 T H [] [] (fun j => by simp) h
  simp only [Array.length_toList, Nat.zero_add] at hK
  subst h0 h1
  refine ⟨_, _, hK, fun B0 w0 m a w ds Q R0 hT hd hq => ?_⟩
  have A : Along ops tT tH m := ⟨fun i d hd => (X.lens hcall R0 hT i d hd).1, fun d hd b k' hb hk => by
      have := (X.lens hcall R0 hT 0 d (by omega)).2 b k' hb (by rw [Nat.zero_add]; exact hk)
      exact this, fun j s x hj hx => X.bel hcall R0 hT hj s x hx, fun b L hb => (R0.dom b L hb).1⟩
  obtain ⟨q, _, hq1, hq2, hq3⟩ := nextE (ops := ops) (sk := sk) 0 ops.size (by omega)
  have hsame := X.same 0 q (by omega) (fun e h1 h2 => hq2 e h1 (by omega))
  rw [Nat.zero_add] at hsame
  have hle := A.le hq1 (Nat.le_refl _)
  refine Inv.any hcall hreg X A hq ops.size _ q m a w ⟨by simp, fun j o ho hD => (by have hD' : (Array.replicate ops.size false).getD j false = true := hD; rw [getD_replicate] at hD'; cases hD'), hq1, fun hlt => ⟨hq3 hlt, getD_replicate _ _⟩, fun e he hE => ?_, ?_, hd, ?_, fun b L hb => .inl (R0.dom b L hb).1, fun _ _ h => h, Nat.le_refl _, fun b L hb => .inl hb, fun _ _ _ => rfl⟩ ?_
  · have := hq2 e (Nat.zero_le _) he
    rw [hE] at this
    cases this
  · have e1 : svL ops vl (tT 0) (fun i => (Array.replicate ops.size false).getD i false) = tT 0 := by
      apply List.ext_getElem?
      intro s
      rcases Nat.lt_or_ge s (tT 0).length with hs | hs
      · have e2 : (svL ops vl (tT 0) (fun i => (Array.replicate ops.size false).getD i false))[s]? = some (AM.sv ops vl (tT 0) (fun i => (Array.replicate ops.size false).getD i false) ops.size s) := by
          unfold svL; rw [List.getElem?_map, List.getElem?_range hs]; rfl
        have e3 := sv_cut (ops := ops) (vl := vl) (T0 := tT 0) (D := fun i => (Array.replicate ops.size false).getD i false) (s := s) (i := 0) ops.size fun j _ _ _ => getD_replicate _ _
        rw [Nat.zero_add] at e3
        rw [e2, e3]
        unfold AM.sv
        rw [List.getD_eq_getElem?_getD, List.getElem?_eq_getElem hs]
        rfl
      · rw [List.getElem?_eq_none (by rw [svL_length]; exact hs), List.getElem?_eq_none hs]
    rw [e1]
    exact hT
  · have kb0 : ∀ b, b < (tH 0).length → kb tH ops.size q b = blk (tH 0) b := fun b hb => by rw [kb_lt (by omega)]; exact hsame.2 b hb
    have hcut : ∀ l, (tH 0).length ≤ l → ∀ b L, m b = some L → cutM m l b = some L := fun l hl b L hb => cutM_of (by have := (R0.dom b L hb).1; omega) hb
    refine ⟨R0.below, R0.hB, fun b L hb => ⟨by have := (R0.dom b L hb).1; omega, (R0.dom b L hb).2⟩, fun b L k hb hk => ?_, fun b1 b2 L1 L2 k1 k2 hm1 hm2 hk1 hk2 hne hbb => ?_⟩
    · rw [kb0 b (R0.dom b L hb).1] at hk
      exact (R0.blks b L k hb hk).mono (hcut _ (by omega))
    · rw [kb0 b1 (R0.dom b1 L1 hm1).1] at hk1
      rw [kb0 b2 (R0.dom b2 L2 hm2).1] at hk2
      exact R0.inj b1 b2 L1 L2 k1 k2 hm1 hm2 hk1 hk2 hne hbb
  · unfold left
    exact Nat.le_trans (List.length_filter_le _ _) (by simp)
end
/-- What the evaluator tells of a call, the machine comes to. -/
theorem run_ok {P : Program} (hmix : P.follows .mixedOrders = true) {tbs : FuncId → Tbl} (hrg : RangesOK P tbs) {gv : Given} (hgv : GivenOK P gv) (k : Nat) : CallOK P (run P tbs gv k) := run_sound (fun _ h => draw_ok h) hmix hrg hgv k
end Go.AM
set_option linter.unusedVariables false
set_option linter.unusedSimpArgs false
namespace Go.AM
open Go.ChangeShapes Go.WideShapes Go.Deep Go.RowKit
variable {P : Program}

structure Ro (P : Program) (W : World) (m : Mp) (H : AH) : Prop where
  rel : Rel P W.heap.size W m H W
  ro : ∀ b k, blk H b = some k → k.kind = .ro
def Sub (m m' : Mp) : Prop := ∀ b L, m b = some L → m' b = some L
theorem Sub.refl (m : Mp) : Sub m m := fun _ _ h => h
theorem Sub.trans {a b c : Mp} (h : Sub a b) (k : Sub b c) : Sub a c := fun x L hx => k x L (h x L hx)
theorem Ro.empty (W : World) : Ro P W (fun _ => none) [] :=
  ⟨⟨Below.refl _ _, Nat.le_refl _, fun _ _ h => (by cases h), fun _ _ _ h => (by cases h), fun _ _ _ _ _ _ h => (by cases h)⟩, fun b k h => (by simp [blk] at h)⟩
def SlOK (W : World) (cs : List Value) : Prop := ∀ a len cap, Value.slice (some a) len cap ∈ cs → a.spot = none ∧ ∃ c e fr, W.heap[a.block]? = some (.cells c e fr)

/-- One more that came in. -/
theorem Ro.add {W : World} {m : Mp} {H : AH} {ks : List Value} {e : TypeId} {bl base : Nat} {c : Array Value} {te : TypeId} {fr : Nat × Nat} (R : Ro P W m H) (hb : W.heap[bl]? = some (.cells c te fr))
    (hl : LRel m ks ((c.toList.drop base).take ks.length)) :
    ∃ m' : Mp, Sub m m' ∧ m' H.length = some ⟨bl, base, .ro, 0, 0⟩ ∧ Ro P W m' (mkB H ks e .ro) := by
  refine ⟨fun b => if b = H.length then some ⟨bl, base, .ro, 0, 0⟩ else m b, ?_, if_pos rfl, ?_⟩
  · intro b L h
    have := (R.rel.dom b L h).1
    show (if b = H.length then _ else m b) = _
    rw [if_neg (by omega)]; exact h
  have hsub : Sub m (fun b => if b = H.length then some ⟨bl, base, .ro, 0, 0⟩ else m b) := by
    intro b L h
    have := (R.rel.dom b L h).1
    show (if b = H.length then _ else m b) = _
    rw [if_neg (by omega)]; exact h
  have hro : ∀ b k, blk (mkB H ks e .ro) b = some k → k.kind = .ro := by
    intro b k h
    by_cases hbn : b < H.length
    · rw [blk_mkB_old hbn] at h; exact R.ro b k h
    · have := blk_lt h
      rw [length_mkB] at this
      have : b = H.length := by omega
      subst this
      rw [blk_mkB_new] at h; cases h; rfl
  refine ⟨⟨R.rel.below, R.rel.hB, ?_, ?_, ?_⟩, hro⟩
  · intro b L h
    replace h : (if b = H.length then some _ else m b) = some L := h
    rw [length_mkB]
    by_cases hb2 : b = H.length
    · rw [if_pos hb2] at h; cases h
      exact ⟨by omega, (Array.getElem?_eq_some_iff.1 hb).1⟩
    · rw [if_neg hb2] at h
      have := R.rel.dom b L h
      exact ⟨by omega, this.2⟩
  · intro b L k h hk
    replace h : (if b = H.length then some _ else m b) = some L := h
    by_cases hb2 : b = H.length
    · rw [if_pos hb2] at h; cases h
      subst hb2
      rw [blk_mkB_new] at hk; cases hk
      exact ⟨rfl, fun _ => ⟨c, te, fr, hb, hl.mono hsub, fun hh => absurd rfl hh, fun hh => (by cases hh), fun hh => (by cases hh), fun hh => (by cases hh)⟩, fun hh => (by cases hh), fun _ _ hh => (by cases hh), fun hh => absurd rfl hh, fun hh => (by cases hh)⟩
    · rw [if_neg hb2] at h
      have hlt := (R.rel.dom b L h).1
      rw [blk_mkB_old hlt] at hk
      have h1 := R.rel.blks b L k h hk
      exact h1.at hsub rfl
  · intro b1 b2 L1 L2 k1 k2 _ _ h1 _ hne _
    exact absurd (hro b1 k1 h1) hne

/-- A kind of datum over the abstract heap. -/
structure Kn (α : Type) where
  K : AH → α → List Value → Prop
  mono : ∀ {H H' : AH} {a : α} {cs : List Value}, Mo H H' → K H a cs → K H' a cs
def Kn.int (k : IntKind) : Kn Int := ⟨fun _ n cs => cs = [.int k n], fun _ h => h⟩
def Kn.bool : Kn Bool := ⟨fun _ n cs => cs = [.bool n], fun _ h => h⟩
def Kn.string : Kn ByteArray := ⟨fun _ n cs => cs = [.string n], fun _ h => h⟩
/-- A slice that came in. -/
def Kn.slice {α : Type} (e : TypeId) (sz : Nat) (d : Kn α) : Kn (List α) :=
  ⟨fun H l cs => (cs = [.slice none 0 0] ∧ l = []) ∨ ∃ (b : Nat) (css : List (List Value)), cs = [sl b 0 l.length (l.length + 1)] ∧ blk H b = some ⟨css.flatten, e, .ro⟩ ∧ css.length = l.length ∧ ∀ (i : Nat) (a : α) (c : List Value), l[i]? = some a → css[i]? = some c → c.length = sz ∧ d.K H a c,
   by
    intro H H' l cs hm h
    rcases h with h | ⟨b, css, h1, h2, h3, h4⟩
    · exact .inl h
    · exact .inr ⟨b, css, h1, hm _ _ h2, h3, fun i a c h5 h6 => ⟨(h4 i a c h5 h6).1, d.mono hm (h4 i a c h5 h6).2⟩⟩⟩
/-- What follows from a cells' list: each is one. -/
def OpA (P : Program) (t : TypeId) {α : Type} (d : Kn α) (G : α → Prop) : Prop :=
  ∀ (Hh : Type) (enc : TypeId × Value → Hh) (W : World) (spare : Nat → Bool) (held : Bool) (fuel : Nat) (cs : List Value) (x : DataW Hh × List MemPlace),
    DataW.trod enc P W 0 spare held fuel t cs = some x → SlOK W cs → ∀ (m : Mp) (H : AH), Ro P W m H →
    ∃ m' H' cs' a, Ro P W m' H' ∧ Sub m m' ∧ Fr H H' ∧ LRel m' cs' cs ∧ d.K H' a cs' ∧ G a
theorem LRel.one {m : Mp} {x y : Value} (h : VRel m x y) : LRel m [x] [y] := LRel.cons h (LRel.nil m)
theorem opA_int {t : TypeId} {k : IntKind} (ht : P.underlying t = some (.int k)) : OpA P t (Kn.int k) (fun n => (Lit.int k n).wf = true) := by
  intro Hh enc W spare held fuel cs x h _ m H R
  obtain ⟨n, rfl, _, hw⟩ := DataW.trod_int ht h
  exact ⟨m, H, _, n, R, Sub.refl m, Fr.refl H, LRel.one (.flat _ rfl), rfl, hw⟩
theorem opA_string {t : TypeId} (ht : P.underlying t = some .string) : OpA P t Kn.string (fun s => s.size ≤ maxLen) := by
  intro Hh enc W spare held fuel cs x h _ m H R
  obtain ⟨n, rfl, _, hw⟩ := DataW.trod_string ht h
  exact ⟨m, H, _, n, R, Sub.refl m, Fr.refl H, LRel.one (.flat _ rfl), rfl, hw⟩
theorem slOK_cell {W : World} {base : Nat} {u : TypeId} {a : Addr} {len cap : Nat} (h : Cell.okWide P W .any base u (.slice (some a) len cap)) : a.spot = none ∧ ∃ c e fr, W.heap[a.block]? = some (.cells c e fr) := by
  have hc : ∃ e n, W.has P .any base a e n := by
    unfold Cell.okWide at h
    cases hu : P.underlying u with
    | none => rw [hu] at h; simp [Cell.ok, hu] at h
    | some D =>
      rw [hu] at h
      cases D <;> simp [Cell.ok, hu] at h
      exact ⟨_, _, h.2.2⟩
  obtain ⟨e, n, hh⟩ := hc
  obtain ⟨_, h1, row, cells, h2, _⟩ := hh
  refine ⟨h1, ?_⟩
  unfold World.shape? at h2
  split at h2
  · rename_i c' e' fr' hb; exact ⟨c', e', fr', hb⟩
  · cases h2
theorem slOK_of {W : World} {base : Nat} {t : TypeId} {v : Value} (h : Value.okWide P W .any base t v) : SlOK W v.cells.toList := by
  intro a len cap hm
  have key : (∃ u, Cell.okWide P W .any base u (.slice (some a) len cap)) := by
    unfold Value.okWide at h
    split at h
    · obtain ⟨cs, rfl, _, ts, _, _, hr⟩ := h
      obtain ⟨i, hi⟩ := List.getElem?_of_mem hm
      obtain ⟨u, _, hu⟩ := hr i _ (by simpa [Value.cells] using hi)
      exact ⟨u, hu⟩
    · obtain ⟨cs, rfl, _, ts, _, _, hr⟩ := h
      obtain ⟨i, hi⟩ := List.getElem?_of_mem hm
      obtain ⟨u, _, hu⟩ := hr i _ (by simpa [Value.cells] using hi)
      exact ⟨u, hu⟩
    · cases v with
      | agg cs =>
        exfalso
        unfold Cell.okWide at h
        cases hu : P.underlying t with
        | none => rw [hu] at h; simp [Cell.ok, hu] at h
        | some D => rw [hu] at h; cases D <;> simp [Cell.ok, hu] at h
      | slice p l c =>
        simp [Value.cells] at hm
        obtain ⟨rfl, rfl, rfl⟩ := hm
        exact ⟨t, h⟩
      | _ => simp [Value.cells] at hm
  obtain ⟨u, hu⟩ := key
  exact slOK_cell hu
/-- An argument. -/
structure OpV (P : Program) (t : TypeId) {α : Type} (d : Kn α) (G : α → Prop) (KV : AH → α → Value → Prop) : Prop where
  op : OpA P t d G
  val : ∀ (W : World) (base : Nat) (v : Value), Value.okWide P W .any base t v → (∃ cs, v = .agg cs) ∧ (∀ H a cs, d.K H a cs → KV H a (.agg cs.toArray)) ∨ v.cells = #[v] ∧ (∀ H a v, d.K H a [v] → KV H a v)
  mono : ∀ {H H' : AH} {a : α} {v : Value}, Mo H H' → KV H a v → KV H' a v
def KvC {α : Type} (d : Kn α) (H : AH) (a : α) (v : Value) : Prop := d.K H a [v]
theorem opV_cell {t : TypeId} {D : TypeDesc} {α : Type} {d : Kn α} {G : α → Prop} (ht : P.underlying t = some D) (hD : (∀ fs, D ≠ .struct fs) ∧ ∀ n e, D ≠ .array n e) (A : OpA P t d G) : OpV P t d G (KvC d) := by
  refine ⟨A, fun W base v h => .inr ⟨?_, fun H a v h => h⟩, fun hm h => d.mono hm h⟩
  unfold Value.okWide at h
  rw [ht] at h
  have h' : Cell.okWide P W .any base t v := by
    cases D with
    | struct fs => exact absurd rfl (hD.1 fs)
    | array n e => exact absurd rfl (hD.2 n e)
    | _ => exact h
  cases v with
  | agg cs =>
    exfalso
    unfold Cell.okWide at h'
    rw [ht] at h'
    cases D <;> simp [Cell.ok, ht] at h'
  | _ => rfl
/-- All arguments. -/
structure OpAs (P : Program) (ts : List TypeId) {α : Type} (G : α → Prop) (KV : AH → α → List Value → Prop) : Prop where
  op : ∀ (Hh : Type) (enc : TypeId × Value → Hh) (W : World) (base : Nat) (spare : Nat → Bool) (held : Bool) (vs : List Value) (ds : List (DataW Hh)) (ps : List MemPlace),
    DataW.TrodAll enc P W 0 spare held ts vs ds ps → (∀ (j : Nat) t v, ts[j]? = some t → vs[j]? = some v → Value.okWide P W .any base t v) → ∀ (m : Mp) (H : AH), Ro P W m H →
    ∃ m' H' vs' a, Ro P W m' H' ∧ Sub m m' ∧ Fr H H' ∧ LRel m' vs' vs ∧ KV H' a vs' ∧ G a
  mono : ∀ {H H' : AH} {a : α} {vs : List Value}, Mo H H' → KV H a vs → KV H' a vs
theorem opAs_nil : OpAs P [] (fun _ : Unit => True) (fun _ _ vs => vs = []) := by
  refine ⟨?_, fun _ h => h⟩
  intro Hh enc W base spare held vs ds ps h _ m H R
  obtain ⟨rfl, rfl, rfl⟩ := trodAll_nil h
  exact ⟨m, H, [], (), R, Sub.refl m, Fr.refl H, LRel.nil m, rfl, trivial⟩
theorem opAs_cons {t : TypeId} {ts : List TypeId} {α β : Type} {d : Kn α} {G : α → Prop} {KV : AH → α → Value → Prop} {G' : β → Prop} {KV' : AH → β → List Value → Prop} (A : OpV P t d G KV) (B : OpAs P ts G' KV') :
    OpAs P (t :: ts) (fun x : α × β => G x.1 ∧ G' x.2) (fun H x vs => ∃ v vs', vs = v :: vs' ∧ KV H x.1 v ∧ KV' H x.2 vs') := by
  refine ⟨?_, fun hm ⟨v, vs', h1, h2, h3⟩ => ⟨v, vs', h1, A.mono hm h2, B.mono hm h3⟩⟩
  intro Hh enc W base spare held vs ds ps h hv m H R
  obtain ⟨v, vs', d0, ds', p, q, rfl, rfl, rfl, ⟨fuel, h0⟩, hr⟩ := trodAll_cons h
  have hok := hv 0 t v rfl rfl
  obtain ⟨m2, H2, us, y2, R2, s2, f2, l2, k2, g2⟩ := B.op Hh enc W base spare held vs' ds' q hr (fun j t' v' h1 h2 => hv (j + 1) t' v' h1 h2) m H R
  obtain ⟨m1, H1, cs', y1, R1, s1, f1, l1, k1, g1⟩ := A.op Hh enc W spare held fuel _ _ h0 (slOK_of hok) m2 H2 R2
  rcases A.val W base v hok with ⟨⟨cs, rfl⟩, hk⟩ | ⟨hc, hk⟩
  · exact ⟨m1, H1, .agg cs'.toArray :: us, (y1, y2), R1, s2.trans s1, f2.trans f1, LRel.cons (VRel.aggL (by simpa [Value.cells] using l1)) (l2.mono s1), ⟨_, _, rfl, hk _ _ _ k1, B.mono f1.mo k2⟩, g1, g2⟩
  · rw [hc] at l1
    obtain ⟨x, rfl⟩ : ∃ x, cs' = [x] := List.length_eq_one_iff.1 l1.1
    exact ⟨m1, H1, x :: us, (y1, y2), R1, s2.trans s1, f2.trans f1, LRel.cons (l1.2 0 x v rfl rfl) (l2.mono s1), ⟨_, _, rfl, hk _ _ _ k1, B.mono f1.mo k2⟩, g1, g2⟩
theorem rgFind_mem : ∀ (l : List (Array Tmp × Code × Code)) (x : Array Tmp × Code × Code), nodupB (l.map fun x => firstId x.2.2) = true → x ∈ l → rgFind (firstId x.2.2) l = some x
  | [], x, _, h => by cases h
  | y :: l, x, hn, h => by
    simp only [List.map_cons, nodupB, Bool.and_eq_true, Bool.not_eq_true'] at hn
    unfold rgFind
    cases h with
    | head => simp
    | tail _ h =>
      have hne : (firstId y.2.2 == firstId x.2.2) = false := by
        cases he : firstId y.2.2 == firstId x.2.2 with
        | false => rfl
        | true =>
          exfalso
          have h1 : firstId y.2.2 = firstId x.2.2 := by simpa using he
          have h2 : (l.map fun x => firstId x.2.2).contains (firstId y.2.2) = true := by
            rw [List.contains_iff_mem, h1]
            exact List.mem_map.2 ⟨x, h, rfl⟩
          rw [h2] at hn
          cases hn.1
      rw [hne]
      exact rgFind_mem l x hn.2 h
theorem ranges_go {tbs : FuncId → Tbl} : ∀ (l : List Func) (i : Nat), rangesGo tbs i l = true → ∀ (j : Nat) (fn : Func) (c : Code), l[j]? = some fn → fn.body = some c → rgs c = [] ∨ (fidOf (tbs (i + j)) = i + j ∧ nodupB ((rgs c).map fun x => firstId x.2.2) = true)
  | [], i, _, j, fn, c, h, _ => by simp at h
  | f0 :: l, i, h, 0, fn, c, hj, hc => by
    simp only [List.getElem?_cons_zero, Option.some.injEq] at hj
    subst hj
    simp only [rangesGo, hc, Bool.and_eq_true, Bool.or_eq_true] at h
    rcases h.1 with h1 | h1
    · exact .inl (List.isEmpty_iff.1 h1)
    · exact .inr ⟨by simpa using h1.1, h1.2⟩
  | f0 :: l, i, h, j + 1, fn, c, hj, hc => by
    simp only [rangesGo, Bool.and_eq_true] at h
    have := ranges_go l (i + 1) h.2 j fn c (by simpa using hj) hc
    rwa [show i + 1 + j = i + (j + 1) by omega] at this
theorem ranges_ok {P : Program} {tbs : FuncId → Tbl} (h : rangesB P tbs = true) : RangesOK P tbs := by
  intro f fn c hf hc
  rcases ranges_go _ 0 h f fn c (by rw [Array.getElem?_toList]; exact hf) hc with h1 | ⟨h1, h2⟩
  · exact .inl h1
  · rw [Nat.zero_add] at h1
    refine .inr ⟨h1, fun x hx => ?_⟩
    unfold rangeAt
    rw [hf, Option.bind_some, hc, Option.bind_some]
    exact rgFind_mem _ x h2 hx
/-- Behind a call: nothing that was there is another. -/
theorem walk_of {W : World} {f : FuncId} {args vs : List Value} {m : Mp} {H H' : AH} {v : Value} {call : CallF} (hc : CallOK P call) (R : Ro P W m H) (hl : LRel m args vs) (h : call f args H = some (v, H')) (hf : flat1 v = true) (hy : f < yOff := by unfold yOff; omega) :
    Calls P f vs.toArray W fun e W' => e = .returned v ∧ Below W.heap.size W W' := by
  refine ((hc.1 f args H v H' hy h).2 W.heap.size W m W vs R.rel hl).mono fun e w' ⟨m', v', he, hv, hr, _⟩ => ?_
  rw [VRel.flat_inv hf hv] at he
  exact ⟨he, hr.below⟩
end Go.AM
set_option linter.unusedVariables false
set_option linter.unusedSimpArgs false
set_option maxRecDepth 100000
namespace Go.AM.O
open Go Go.AM Go.Proofs
attribute [local irreducible] run bin un ld st box newV mkS fldA fld ixA ix slc slc3 build buildS cv cvS ap cpy lenV gOp pickV b2 aIf aChk evalK resume iterD Option.bind

section
variable {B B0 H0 H : AH} {L : List (Nat × Blk)}
theorem own_J1 {n m d : Nat} {a b : List UInt8} {Ls : List (Nat × Blk)} {D : Dsk} (ha : a.length < 9223372036854775808) (hb : b.length < 9223372036854775808) (hn : n < 9223372036854775808) (hm : m < 9223372036854775808) (hD : DK (ptr d 0) D Ls) (hU : D.Up (2 * 8)) (hc : D.cache = []) (hS : St H0 B0 B (Ls ++ L) H) :
    Ev (fun k _ => f6_J1 k (i64 n) (i64 m) (str a) (str b) (.bool true) (ptr d 0) H) (fun r => r.1 = .bool true) := by
  refine Ev.eq (fun k _ => f6_J1_eq k _ _ _ _ _ _ H) ?_
  repeat (first | (first | refine Ev.s ?_ | refine Ev.newC fun _ _ _ => ?_ | refine Ev.boxC fun _ _ _ => ?_ | refine Ev.stC fun _ _ => ?_ | refine Ev.sc (by omega) ?_ | refine Ev.scg (by omega) ?_) | rw [decide_eq_true (by omega)] | rw [decide_eq_false (by omega)])
  have hn8 := Nat.mod_lt n (show 0 < 8 by decide)
  have hm8 := Nat.mod_lt m (show 0 < 8 by decide)
  generalize n % 8 = n at hn8
  generalize m % 8 = m at hm8
  rw [show (if (120 : Int) < (a.length : Int) then (120 : Int) else (a.length : Int)) = ((min a.length 120 : Nat) : Int) by split <;> omega]
  refine Ev.prim (slc_strT (l := a) (i := min a.length 120) (by omega)) ?_
  have ha2 : (a.take (min a.length 120)).length ≤ 120 := by rw [List.length_take]; omega
  generalize a.take (min a.length 120) = a at ha2
  repeat (first | (first | refine Ev.s ?_ | refine Ev.newC fun _ _ _ => ?_ | refine Ev.boxC fun _ _ _ => ?_ | refine Ev.stC fun _ _ => ?_ | refine Ev.sc (by omega) ?_ | refine Ev.scg (by omega) ?_) | rw [decide_eq_true (by omega)] | rw [decide_eq_false (by omega)])
  rw [show (if (120 : Int) < (b.length : Int) then (120 : Int) else (b.length : Int)) = ((min b.length 120 : Nat) : Int) by split <;> omega]
  refine Ev.prim (slc_strT (l := b) (i := min b.length 120) (by omega)) ?_
  have hb2 : (b.take (min b.length 120)).length ≤ 120 := by rw [List.length_take]; omega
  generalize b.take (min b.length 120) = b at hb2
  have hw1 := hU.pwrite (n := n) (k := 4) (t := a) hn8 (by decide) (by decide) (by decide) ha2
  have hU1 := hU.pput (n := n) (k := 4) (t := a) hn8 ha2
  refine Ev.b2 (pWrite_spec (n := (n : Int)) (kind := ((4 : Nat) : Int)) (t := a) hD hU.ok (by rw [hc]; decide) (by omega) (by decide) hS) ?_
  rw [hw1]
  have hl1 : ∀ j, ((D.put (2 * n) ((sealL 4 a).take 64)).put (2 * n + 1) ((sealL 4 a).drop 64)).look j = if 2 * n + 1 = j then (sealL 4 a).drop 64 else if 2 * n = j then (sealL 4 a).take 64 else D.look j := fun j => by rw [look_put, look_put]
  have hc1 : ((D.put (2 * n) ((sealL 4 a).take 64)).put (2 * n + 1) ((sealL 4 a).drop 64)).cache.length = 2 := by
    show ((D.cache ++ [_]) ++ [_]).length = 2
    rw [hc]; rfl
  generalize (D.put (2 * n) ((sealL 4 a).take 64)).put (2 * n + 1) ((sealL 4 a).drop 64) = D1 at hU1 hl1 hc1
  rintro _ H1 ⟨rfl, Ls1, B1, hm1, hD1, hS1⟩
  dsimp only at hS1
  clear hS
  have hw2 := hU1.pwrite (n := m) (k := 5) (t := b) hm8 (by decide) (by decide) (by decide) hb2
  have hU2 := hU1.pput (n := m) (k := 5) (t := b) hm8 hb2
  refine Ev.b2 (pWrite_spec (n := (m : Int)) (kind := ((5 : Nat) : Int)) (t := b) hD1 hU1.ok (by rw [hc1]; decide) (by omega) (by decide) hS1) ?_
  rw [hw2]
  have hl2 : ∀ j, ((D1.put (2 * m) ((sealL 5 b).take 64)).put (2 * m + 1) ((sealL 5 b).drop 64)).look j = if 2 * m + 1 = j then (sealL 5 b).drop 64 else if 2 * m = j then (sealL 5 b).take 64 else D1.look j := fun j => by rw [look_put, look_put]
  have hc2 : ((D1.put (2 * m) ((sealL 5 b).take 64)).put (2 * m + 1) ((sealL 5 b).drop 64)).cache.length = 4 := by
    show ((D1.cache ++ [_]) ++ [_]).length = 4
    rw [List.length_append, List.length_append, hc1]; rfl
  generalize (D1.put (2 * m) ((sealL 5 b).take 64)).put (2 * m + 1) ((sealL 5 b).drop 64) = D2 at hU2 hl2 hc2
  rintro _ H2 ⟨rfl, Ls2, B2, hm2, hD2, hS2⟩
  dsimp only at hS2
  clear hS1
  refine Ev.b2 (pRead_spec (n := (n : Int)) hD2 hU2.ok (by rw [hc2]; decide) hS2) ?_
  rw [hU2.pread hn8 (by decide)]
  have hr2 : openR (D2.look (2 * m) ++ D2.look (2 * m + 1)) = (5, b, 0) := by
    rw [hl2, hl2, if_neg (by omega), if_pos rfl, if_pos rfl, List.take_append_drop]
    exact open_seal (k := 5) (by decide) (by decide) hb2
  have hr1 : n ≠ m → openR (D2.look (2 * n) ++ D2.look (2 * n + 1)) = (4, a, 0) := fun h => by
    rw [hl2, hl2, if_neg (by omega), if_neg (by omega), if_neg (by omega), if_neg (by omega), hl1, hl1, if_neg (by omega), if_pos rfl, if_pos rfl, List.take_append_drop]
    exact open_seal (k := 4) (by decide) (by decide) ha2
  by_cases he : n = m
  · subst he
    rw [hr2]
    rintro _ H3 ⟨rfl, B3, hm3, hS3⟩
    dsimp only at hS3
    unfold OpenV
    repeat (first | (first | refine Ev.s ?_ | refine Ev.newC fun _ _ _ => ?_ | refine Ev.boxC fun _ _ _ => ?_ | refine Ev.stC fun _ _ => ?_ | refine Ev.sc (by omega) ?_ | refine Ev.scg (by omega) ?_) | rw [decide_eq_true (by omega)] | rw [decide_eq_false (by omega)])
    refine Ev.b2 (pRead_spec (n := (n : Int)) hD2 hU2.ok (by rw [hc2]; decide) hS3) ?_
    rw [hU2.pread hn8 (by decide), hr2]
    rintro _ H4 ⟨rfl, B4, hm4, hS4⟩
    unfold OpenV
    repeat (first | (first | refine Ev.s ?_ | refine Ev.newC fun _ _ _ => ?_ | refine Ev.boxC fun _ _ _ => ?_ | refine Ev.stC fun _ _ => ?_ | refine Ev.sc (by omega) ?_ | refine Ev.scg (by omega) ?_) | rw [decide_eq_true (by omega)] | rw [decide_eq_false (by omega)])
    exact Ev.ret rfl
  · rw [hr1 he]
    rintro _ H3 ⟨rfl, B3, hm3, hS3⟩
    dsimp only at hS3
    unfold OpenV
    repeat (first | (first | refine Ev.s ?_ | refine Ev.newC fun _ _ _ => ?_ | refine Ev.boxC fun _ _ _ => ?_ | refine Ev.stC fun _ _ => ?_ | refine Ev.sc (by omega) ?_ | refine Ev.scg (by omega) ?_) | rw [decide_eq_true (by omega)] | rw [decide_eq_false (by omega)])
    refine Ev.b2 (pRead_spec (n := (m : Int)) hD2 hU2.ok (by rw [hc2]; decide) hS3) ?_
    rw [hU2.pread hm8 (by decide), hr2]
    rintro _ H4 ⟨rfl, B4, hm4, hS4⟩
    unfold OpenV
    repeat (first | (first | refine Ev.s ?_ | refine Ev.newC fun _ _ _ => ?_ | refine Ev.boxC fun _ _ _ => ?_ | refine Ev.stC fun _ _ => ?_ | refine Ev.sc (by omega) ?_ | refine Ev.scg (by omega) ?_) | rw [decide_eq_true (by omega)] | rw [decide_eq_false (by omega)])
    exact Ev.ret rfl
theorem own_J0 {n : Nat} {m : Int} {d : Nat} {a b : List UInt8} {Ls : List (Nat × Blk)} {D : Dsk} (ha : a.length < 9223372036854775808) (hb : b.length < 9223372036854775808) (hn : n < 9223372036854775808) (hm : -9223372036854775808 ≤ m ∧ m < 9223372036854775808) (hD : DK (ptr d 0) D Ls) (hU : D.Up (2 * 8)) (hc : D.cache = []) (hS : St H0 B0 B (Ls ++ L) H) :
    Ev (fun k _ => f6_J0 k (i64 n) (.int .i64 m) (str a) (str b) (.bool true) (ptr d 0) H) (fun r => r.1 = .bool true) := by
  refine Ev.eq (fun k _ => f6_J0_eq k _ _ _ _ _ _ H) ?_
  by_cases h0 : m < 0
  · obtain ⟨m0, hm0⟩ : ∃ m0 : Nat, -(m + 1) = m0 := ⟨(-(m + 1)).toNat, by omega⟩
    repeat (first | (first | refine Ev.s ?_ | refine Ev.newC fun _ _ _ => ?_ | refine Ev.boxC fun _ _ _ => ?_ | refine Ev.stC fun _ _ => ?_ | refine Ev.sc (by omega) ?_ | refine Ev.scg (by omega) ?_) | rw [decide_eq_true (by omega)] | rw [decide_eq_false (by omega)])
    rw [show IntKind.i64.wrap (0 - (m + 1)) = (m0 : Int) by rw [wrap64 (by omega)]; omega]
    exact own_J1 ha hb hn (by omega) hD hU hc hS
  · obtain ⟨m0, rfl⟩ : ∃ m0 : Nat, m = m0 := ⟨m.toNat, by omega⟩
    repeat (first | (first | refine Ev.s ?_ | refine Ev.newC fun _ _ _ => ?_ | refine Ev.boxC fun _ _ _ => ?_ | refine Ev.stC fun _ _ => ?_ | refine Ev.sc (by omega) ?_ | refine Ev.scg (by omega) ?_) | rw [decide_eq_true (by omega)] | rw [decide_eq_false (by omega)])
    exact own_J1 ha hb hn (by omega) hD hU hc hS
theorem powns_law {n m : Int} {a b : List UInt8} (ha : a.length < 9223372036854775808) (hb : b.length < 9223372036854775808) (hn : -9223372036854775808 ≤ n ∧ n < 9223372036854775808) (hm : -9223372036854775808 ≤ m ∧ m < 9223372036854775808) (hL : Le B H) :
    Ev (fun k _ => rn k 6 [.int .i64 n, .int .i64 m, str a, str b] H) (fun r => r.1 = .bool true) := by
  refine Ev.fn (fun k => f6_eq k _ _ _ _ H) ?_
  have hS := St.start hL
  refine Ev.b2 (examples_spec hS) ?_
  rintro _ H1 ⟨rfl, B1, hm1, hS1⟩
  dsimp only at hS1
  clear hS
  repeat (first | refine Ev.s ?_ | refine Ev.newC fun _ _ _ => ?_ | refine Ev.boxC fun _ _ _ => ?_ | refine Ev.stC fun _ _ => ?_ | refine Ev.sc (by omega) ?_ | refine Ev.scg (by omega) ?_)
  refine Ev.b2 (New_spec (n := 16) (by decide) (by decide) hS1) ?_
  rintro _ H2 ⟨p, Ls, B2, rfl, hm2, hD, hS2⟩
  obtain ⟨d, rfl⟩ : ∃ d, p = ptr d 0 := by obtain ⟨d, bb, cv, Lc, hp, _⟩ := hD; exact ⟨d, hp⟩
  dsimp only at hS2
  clear hS1
  by_cases h0 : n < 0
  · obtain ⟨m0, hm0⟩ : ∃ m0 : Nat, -(n + 1) = m0 := ⟨(-(n + 1)).toNat, by omega⟩
    repeat (first | (first | refine Ev.s ?_ | refine Ev.newC fun _ _ _ => ?_ | refine Ev.boxC fun _ _ _ => ?_ | refine Ev.stC fun _ _ => ?_ | refine Ev.sc (by omega) ?_ | refine Ev.scg (by omega) ?_) | rw [decide_eq_true (by omega)] | rw [decide_eq_false (by omega)])
    rw [show IntKind.i64.wrap (0 - (n + 1)) = (m0 : Int) by rw [wrap64 (by omega)]; omega]
    exact own_J0 ha hb (by omega) hm hD (Dsk.up_new (by decide) (by decide)) rfl hS2
  · obtain ⟨m0, rfl⟩ : ∃ m0 : Nat, n = m0 := ⟨n.toNat, by omega⟩
    repeat (first | (first | refine Ev.s ?_ | refine Ev.newC fun _ _ _ => ?_ | refine Ev.boxC fun _ _ _ => ?_ | refine Ev.stC fun _ _ => ?_ | refine Ev.sc (by omega) ?_ | refine Ev.scg (by omega) ?_) | rw [decide_eq_true (by omega)] | rw [decide_eq_false (by omega)])
    exact own_J0 ha hb (by omega) hm hD (Dsk.up_new (by decide) (by decide)) rfl hS2
theorem corePageOwn (H : AH) (vs : List Value) (x : Int × Int × ByteArray × ByteArray × Unit) (hK : ∃ v0 vs0, vs = v0 :: vs0 ∧ KvC (Kn.int .i64) H x.1 v0 ∧ ∃ v1 vs1, vs0 = v1 :: vs1 ∧ KvC (Kn.int .i64) H x.2.1 v1 ∧ ∃ v2 vs2, vs1 = v2 :: vs2 ∧ KvC Kn.string H x.2.2.1 v2 ∧ ∃ v3 vs3, vs2 = v3 :: vs3 ∧ KvC Kn.string H x.2.2.2.1 v3 ∧ vs3 = [])
    (hG : (Lit.int .i64 x.1).wf = true ∧ (Lit.int .i64 x.2.1).wf = true ∧ x.2.2.1.size ≤ maxLen ∧ x.2.2.2.1.size ≤ maxLen ∧ True) (hw1 : ∀ s, vs[2]? = some (.string s) → s.size ≤ 140737488351232) (hw2 : ∀ s, vs[3]? = some (.string s) → s.size ≤ 140737488351232) : Ev (fun k _ => rn k 6 vs H) (fun r => r.1 = .bool true) := by
  obtain ⟨v0, _, rfl, h0, v1, _, rfl, h1, v2, _, rfl, h2, v3, _, rfl, h3, rfl⟩ := hK
  have h0 : [v0] = [.int .i64 x.1] := h0
  cases h0
  have h1 : [v1] = [.int .i64 x.2.1] := h1
  cases h1
  have h2 : [v2] = [.string x.2.2.1] := h2
  cases h2
  have h3 : [v3] = [.string x.2.2.2.1] := h3
  cases h3
  obtain ⟨g0, g1, _⟩ := hG
  have hw1 := hw1 _ rfl
  have hw2 := hw2 _ rfl
  rw [str_of x.2.2.1, str_of x.2.2.2.1]
  refine powns_law (by rw [Array.length_toList]; exact Nat.lt_of_le_of_lt hw1 (by decide)) (by rw [Array.length_toList]; exact Nat.lt_of_le_of_lt hw2 (by decide)) ?_ ?_ ⟨Mo.refl H⟩
  · simp [Lit.wf, IntKind.min, IntKind.max, IntKind.bits, IntKind.signed] at g0; omega
  · simp [Lit.wf, IntKind.min, IntKind.max, IntKind.bits, IntKind.signed] at g1; omega
end
end Go.AM.O
