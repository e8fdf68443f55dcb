/-
  Facts of the abstract evaluator and of the functions that the law reaches, part 3. Conditions: none.
-/
import Derived.ProofKit
import Derived.Deep.Slices
import Derived.DataElems
import Derived.DataReads
import Derived.ChangeArms
import Derived.ChangeSame
import Derived.Test.YtbalihedocchfaaDoorG2BlobBack
set_option linter.unusedVariables false
set_option linter.unusedSimpArgs false
set_option linter.unnecessarySimpa false
set_option exponentiation.threshold 200000
set_option maxRecDepth 100000
set_option linter.unusedVariables false
set_option linter.unusedSimpArgs false
set_option maxRecDepth 100000
namespace Go.AM.W
open Go Go.AM Go.Proofs
attribute [local irreducible] run bin un ld st box newV mkS fldA fld ixA ix slc slc3 build buildS cv cvS ap cpy lenV gOp pickV b2 aIf aChk evalK resume iterD Option.bind

theorem bld_sz : ([] : List Value).length + 2 = szT Tryd.prog 61 := by
  have : szT Tryd.prog 61 = 2 := by kernel_rfl
  rw [this]; rfl
theorem bldT_mem : 61 ∈ BldT := .head _
theorem String_same {H0 B0 B H : AH} {L : List (Nat × Blk)} {p : Nat} {c0 v : Value} {rest : List Value} {T : TypeId} {ds : List Nat} (hd : ds.length ≤ 140737488355328) (hne : ds ≠ [])
    (hA : BAcc 5 H0 B0 B ((p, ⟨c0 :: v :: rest, T, .fix⟩) :: L) H v ds) :
    Ev (fun k _ => rn k 23 [ptr p 0] H) (fun r => r = (str (ds.map fun n => UInt8.ofNat n), H)) := by
  refine Ev.fn (fun k => f23_eq k _ H) ?_
  have hSt := hA.st
  have hcell := hA.cell
  obtain ⟨q, H', q1, q2, q3, rfl⟩ := hA.said (P := Tryd.prog) (pt := 85) hne (by exact Tryd.underlying85) (by kernel_rfl) (by omega)
  have hlen := bacc_len (t := 44) hA
  repeat (first | refine Ev.s ?_ | refine Ev.newC fun _ _ _ => ?_ | refine Ev.boxC fun _ _ _ => ?_ | refine Ev.stC fun _ _ => ?_ | refine Ev.sc (by omega) ?_ | refine Ev.scg (by omega) ?_)
  refine Ev.prim q1 ?_
  repeat (first | refine Ev.s ?_ | refine Ev.newC fun _ _ _ => ?_ | refine Ev.boxC fun _ _ _ => ?_ | refine Ev.stC fun _ _ => ?_ | refine Ev.sc (by omega) ?_ | refine Ev.scg (by omega) ?_)
  refine Ev.prim hlen ?_
  refine Ev.prim2 q2 ?_
  exact Ev.ret rfl
section
variable {B B0 H0 H : AH} {L : List (Nat × Blk)}
theorem bytes_loop {p : Nat} {v : Value} {l : List Nat} (hll : l.length ≤ 1000000) :
    ∀ (m i : Nat) (B H : AH) (b : Value), i + m = l.length → FL B v u32 l → BAcc 5 H0 B0 B ((p, ⟨[if i = 0 then .pointer none else ptr p 0, b], 61, .fix⟩) :: L) H b ((l.take i).map (· % 256)) →
    Ev (fun k n => f43_L0 k (ptr p 0) v (i64 l.length) (i64 i) n H) (fun o => ∃ B' H' b' c, o = (.exit 0, f43_X_L0 (ptr p 0), H') ∧ MoC B B' ∧ BAcc 5 H0 B0 B' ((p, ⟨[c, b'], 61, .fix⟩) :: L) H' b' (l.map (· % 256))) := by
  intro m
  induction m with
  | zero =>
    intro i B H b hi hv hA
    refine Ev.succ (fun k n => f43_L0_succ k _ _ _ _ n H) ?_
    repeat (first | refine Ev.s ?_ | refine Ev.newC fun _ _ _ => ?_ | refine Ev.boxC fun _ _ _ => ?_ | refine Ev.stC fun _ _ => ?_ | refine Ev.sc (by omega) ?_ | refine Ev.scg (by omega) ?_)
    rw [decide_eq_false (by omega)]
    repeat (first | refine Ev.s ?_ | refine Ev.newC fun _ _ _ => ?_ | refine Ev.boxC fun _ _ _ => ?_ | refine Ev.stC fun _ _ => ?_ | refine Ev.sc (by omega) ?_ | refine Ev.scg (by omega) ?_)
    rw [List.take_of_length_le (by omega)] at hA
    exact Ev.ret ⟨B, H, b, _, rfl, ⟨Mo.refl B⟩, hA⟩
  | succ m ih =>
    intro i B H b hi hv hA
    obtain ⟨x, hx⟩ : ∃ x, l[i]? = some x := ⟨_, List.getElem?_eq_getElem (by omega)⟩
    have hSt := hA.st
    refine Ev.succ (fun k n => f43_L0_succ k _ _ _ _ n H) ?_
    repeat (first | refine Ev.s ?_ | refine Ev.newC fun _ _ _ => ?_ | refine Ev.boxC fun _ _ _ => ?_ | refine Ev.stC fun _ _ => ?_ | refine Ev.sc (by omega) ?_ | refine Ev.scg (by omega) ?_)
    rw [decide_eq_true (by omega)]
    repeat (first | refine Ev.s ?_ | refine Ev.newC fun _ _ _ => ?_ | refine Ev.boxC fun _ _ _ => ?_ | refine Ev.stC fun _ _ => ?_ | refine Ev.sc (by omega) ?_ | refine Ev.scg (by omega) ?_)
    refine Ev.ixF i rfl hx fun q hq => ?_
    repeat (first | refine Ev.s ?_ | refine Ev.newC fun _ _ _ => ?_ | refine Ev.boxC fun _ _ _ => ?_ | refine Ev.stC fun _ _ => ?_ | refine Ev.sc (by omega) ?_ | refine Ev.scg (by omega) ?_)
    refine Ev.b2 (WriteByte_spec (d := x % 256) (rest := []) bldT_mem bld_sz (by split <;> simp) (by rw [List.length_map, List.length_take]; omega) hA) ?_
    rintro _ H1 ⟨rfl, b1, B1, hm1, hA1⟩
    dsimp only at hA1
    clear hA hSt
    have e1 : (l.take i).map (· % 256) ++ [x % 256] = (l.take (i + 1)).map (· % 256) := by
      rw [List.take_add_one, hx, List.map_append]; rfl
    rw [e1] at hA1
    have hSt := hA1.st
    repeat (first | refine Ev.s ?_ | refine Ev.newC fun _ _ _ => ?_ | refine Ev.boxC fun _ _ _ => ?_ | refine Ev.stC fun _ _ => ?_ | refine Ev.sc (by omega) ?_ | refine Ev.scg (by omega) ?_)
    refine (ih (i + 1) B1 H1 b1 (by omega) (hv.mono hm1.mo) (by rw [if_neg (by omega)]; exact hA1)).mono ?_
    rintro o ⟨B', H', b', c, h1, h2, h3⟩
    exact ⟨B', H', b', c, h1, ⟨hm1.mo.trans h2.mo⟩, h3⟩
theorem bytes_spec {v : Value} {l : List Nat} (hv : FL B v u32 l) (hne : l ≠ []) (hll : l.length ≤ 1000000) (hS : St H0 B0 B L H) :
    Ev (fun k _ => rn k 43 [v] H) (fun r => r.1 = str (l.map UInt8.ofNat) ∧ ∃ B', MoC B B' ∧ St H0 B0 B' L r.2) := by
  refine Ev.fn (fun k => f43_eq k _ H) ?_
  refine Ev.newC fun p H1 hS1 => ?_
  clear hS
  repeat (first | refine Ev.s ?_ | refine Ev.newC fun _ _ _ => ?_ | refine Ev.boxC fun _ _ _ => ?_ | refine Ev.stC fun _ _ => ?_ | refine Ev.sc (by omega) ?_ | refine Ev.scg (by omega) ?_)
  refine Ev.bind (Ev.loop (bytes_loop hll l.length 0 B H1 (.slice none 0 0) (Nat.zero_add _) hv (BAcc.nil hS1))) ?_
  rintro _ ⟨B2, H2, b2, c, rfl, hm2, hA2⟩
  refine Ev.eq (fun k _ => f43_A0_x0 k _ H2) ?_
  refine Ev.b2 (String_same (by rw [List.length_map]; omega) (by simpa using hne) hA2) ?_
  rintro _ _ ⟨rfl, rfl⟩
  refine Ev.ret ⟨?_, B2, hm2, hA2.st.drop1⟩
  dsimp only
  congr 1
  rw [List.map_map]
  apply List.map_congr_left
  intro a _
  show UInt8.ofNat (a % 256) = UInt8.ofNat a
  apply UInt8.toNat_inj.1
  rw [UInt8.toNat_ofNat', UInt8.toNat_ofNat']
  omega
theorem psum_spec {s : List UInt8} (hl : s.length < 9223372036854775808) (hS : St H0 B0 B L H) :
    Ev (fun k _ => rn k 45 [str s] H) (fun r => r.1 = str (le4 (crc s)) ∧ ∃ B', MoC B B' ∧ St H0 B0 B' L r.2) := by
  refine Ev.fn (fun k => f45_eq k _ H) ?_
  refine Ev.b2 (Sum_spec hl) ?_
  rintro _ _ ⟨rfl, rfl⟩
  have hc := crc_lt s
  generalize crc s = n at hc
  refine Ev.prim (shrN (a := n) (b := 8) (by decide)) ?_
  refine Ev.prim (shrN (a := n) (b := 16) (by decide)) ?_
  refine Ev.prim (shrN (a := n) (b := 24) (by decide)) ?_
  refine Ev.bsC (P := Tryd.prog) (t := 99) (hS := hS) (by decide) fun b H1 hS1 => ?_
  obtain ⟨B1, hm1, hF, hS2⟩ := St.flz (l := [n, n / 2 ^ 8, n / 2 ^ 16, n / 2 ^ 24]) (f := u32) (cap := 4) hS1 (Nat.le_refl _)
  refine Ev.b2 (bytes_spec hF (by simp) (by simp) hS2) ?_
  rintro _ H2 ⟨rfl, B2, hm2, hS3⟩
  dsimp only at hS3
  exact Ev.ret ⟨rfl, B2, ⟨hm1.mo.trans hm2.mo⟩, hS3⟩
end
end Go.AM.W
set_option linter.unusedVariables false
set_option linter.unusedSimpArgs false
set_option maxRecDepth 100000
namespace Go.AM.W
open Go Go.AM Go.Proofs
attribute [local irreducible] run bin un ld st box newV mkS fldA fld ixA ix slc slc3 build buildS cv cvS ap cpy lenV gOp pickV b2 aIf aChk evalK resume iterD Option.bind

theorem grow_eq (k : Nat) (a0 a1 : Value) (H : AH) : rn (k + 1) 52 [a0, a1] H = gGrow Tryd.prog BldT 5 [a0, a1] H := by kernel_rfl
theorem Grow_spec {H0 B0 B H : AH} {L : List (Nat × Blk)} {p n : Nat} {rest : List Value} {T : TypeId} (hT : T ∈ BldT) (hl : rest.length + 2 = szT Tryd.prog T) (hn0 : 0 < n) (hn : n ≤ 140737488355328) (hS : St H0 B0 B ((p, ⟨.pointer none :: .slice none 0 0 :: rest, T, .fix⟩) :: L) H) :
    Ev (fun k _ => rn k 52 [ptr p 0, i64 n] H) (fun r => r.1 = .tuple #[] ∧ ∃ b' B', MoC B B' ∧ BAcc 5 H0 B0 B' ((p, ⟨ptr p 0 :: sl b' 0 0 1 :: rest, T, .fix⟩) :: L) r.2 (sl b' 0 0 1) []) := by
  refine Ev.fn (fun k => grow_eq k _ _ H) ?_
  have hb := hS.get (.head _)
  obtain ⟨B', hm, hS'⟩ := hS.mkB [] 5 .buf
  have e : gGrow Tryd.prog BldT 5 [ptr p 0, i64 n] H = some (.tuple #[], put (mkB H [] 5 .buf) p ⟨.pointer none :: .slice none 0 0 :: rest, T, .fix⟩ (ptr p 0 :: sl H.length 0 0 1 :: rest)) := by
    show (blk H p).bind _ = _
    rw [hb]
    simp only [Option.bind_some]
    rw [if_pos ⟨⟨trivial, hT, by simpa using hl⟩, by omega, by omega⟩]
    rfl
  rw [e]
  exact Ev.ret ⟨rfl, H.length, B', ⟨hm⟩, .inr ⟨H.length, rfl, hS'.put (.tail _ (.head _))⟩⟩
theorem Len_spec {H0 B0 B H : AH} {L : List (Nat × Blk)} {p : Nat} {c0 v : Value} {rest : List Value} {T : TypeId} {ds : List Nat}
    (hA : BAcc 5 H0 B0 B ((p, ⟨c0 :: v :: rest, T, .fix⟩) :: L) H v ds) :
    Ev (fun k _ => rn k 53 [ptr p 0] H) (fun r => r = (i64 ds.length, H)) := by
  refine Ev.fn (fun k => f53_eq k _ H) ?_
  have hSt := hA.st
  have hcell := hA.cell
  have hlen := bacc_len (t := 44) hA
  repeat (first | refine Ev.s ?_ | refine Ev.newC fun _ _ _ => ?_ | refine Ev.boxC fun _ _ _ => ?_ | refine Ev.stC fun _ _ => ?_ | refine Ev.sc (by omega) ?_ | refine Ev.scg (by omega) ?_)
  refine Ev.prim hlen ?_
  exact Ev.ret rfl
section
variable {B B0 H0 H : AH} {L : List (Nat × Blk)}
theorem rep_u8 (n : Nat) : (List.replicate n (0 : UInt8)).map UInt8.toNat = List.replicate n 0 := by simp
theorem rep_loop {p n : Nat} (hn : n ≤ 1000000) : ∀ (m j : Nat) (B H : AH) (v : Value), n - j ≤ m → 1 ≤ j → j ≤ n → BAcc 5 H0 B0 B ((p, ⟨[ptr p 0, v], 61, .fix⟩) :: L) H v (List.replicate j 0) →
    Ev (fun k K => f44_L0 k (i64 n) (i64 n) (ptr p 0) K H) (fun o => ∃ B' H' v', o = (.exit 3, f44_X_L0 (ptr p 0), H') ∧ MoC B B' ∧ BAcc 5 H0 B0 B' ((p, ⟨[ptr p 0, v'], 61, .fix⟩) :: L) H' v' (List.replicate n 0)) := by
  have done : ∀ (B H : AH) (v : Value), BAcc 5 H0 B0 B ((p, ⟨[ptr p 0, v], 61, .fix⟩) :: L) H v (List.replicate n 0) →
      Ev (fun k K => f44_L0 k (i64 n) (i64 n) (ptr p 0) K H) (fun o => ∃ B' H' v', o = (.exit 3, f44_X_L0 (ptr p 0), H') ∧ MoC B B' ∧ BAcc 5 H0 B0 B' ((p, ⟨[ptr p 0, v'], 61, .fix⟩) :: L) H' v' (List.replicate n 0)) := by
    intro B H v hA
    refine Ev.succ (fun k K => f44_L0_succ k _ _ _ K H) ?_
    refine Ev.b2 (Len_spec hA) ?_
    rintro _ _ ⟨rfl, rfl⟩
    rw [List.length_replicate]
    repeat (first | refine Ev.s ?_ | refine Ev.newC fun _ _ _ => ?_ | refine Ev.boxC fun _ _ _ => ?_ | refine Ev.stC fun _ _ => ?_ | refine Ev.sc (by omega) ?_ | refine Ev.scg (by omega) ?_)
    rw [decide_eq_false (by omega)]
    repeat (first | refine Ev.s ?_ | refine Ev.newC fun _ _ _ => ?_ | refine Ev.boxC fun _ _ _ => ?_ | refine Ev.stC fun _ _ => ?_ | refine Ev.sc (by omega) ?_ | refine Ev.scg (by omega) ?_)
    exact Ev.ret ⟨B, H, v, rfl, ⟨Mo.refl B⟩, hA⟩
  intro m
  induction m with
  | zero =>
    intro j B H v hm hj hjn hA
    obtain rfl : j = n := by omega
    exact done B H v hA
  | succ m ih =>
    intro j B H v hm hj hjn hA
    by_cases hlt : j < n
    · refine Ev.succ (fun k K => f44_L0_succ k _ _ _ K H) ?_
      refine Ev.b2 (Len_spec hA) ?_
      rintro _ _ ⟨rfl, rfl⟩
      rw [List.length_replicate]
      repeat (first | refine Ev.s ?_ | refine Ev.newC fun _ _ _ => ?_ | refine Ev.boxC fun _ _ _ => ?_ | refine Ev.stC fun _ _ => ?_ | refine Ev.sc (by omega) ?_ | refine Ev.scg (by omega) ?_)
      rw [decide_eq_true hlt]
      repeat (first | refine Ev.s ?_ | refine Ev.newC fun _ _ _ => ?_ | refine Ev.boxC fun _ _ _ => ?_ | refine Ev.stC fun _ _ => ?_ | refine Ev.sc (by omega) ?_ | refine Ev.scg (by omega) ?_)
      refine Ev.b2 (Len_spec hA) ?_
      rintro _ _ ⟨rfl, rfl⟩
      rw [List.length_replicate]
      repeat (first | refine Ev.s ?_ | refine Ev.newC fun _ _ _ => ?_ | refine Ev.boxC fun _ _ _ => ?_ | refine Ev.stC fun _ _ => ?_ | refine Ev.sc (by omega) ?_ | refine Ev.scg (by omega) ?_)
      refine Ev.b2 (Len_spec hA) ?_
      rintro _ _ ⟨rfl, rfl⟩
      rw [List.length_replicate]
      refine Ev.prim (show fold1 minV [i64 (n - j), i64 j, i64 n] = some (i64 (min (min (n - j) j) n)) by
        show (minV (i64 (n - j)) (i64 j)).bind (fun a => fold1 minV [a, i64 n]) = _
        have h1 := min_i64 (a := n - j) (b := j)
        have h2 : fold1 minV [i64 (n - j), i64 j] = minV (i64 (n - j)) (i64 j) := by
          show (minV _ _).bind (fun a => some a) = _
          cases minV (i64 (n - j)) (i64 j) <;> simp
        rw [← h2, h1, Option.bind_some, min_i64]) ?_
      obtain ⟨c, hc⟩ : ∃ c, c = min (min (n - j) j) n := ⟨_, rfl⟩
      rw [← hc]
      refine Ev.b2 (String_same (by rw [List.length_replicate]; omega) (by intro h; have := congrArg List.length h; simp at this; omega) hA) ?_
      rintro _ _ ⟨rfl, rfl⟩
      rw [show (List.replicate j 0).map (fun n => UInt8.ofNat n) = List.replicate j 0 by simp]
      refine Ev.prim (slc_strT (l := List.replicate j 0) (i := c) (by rw [List.length_replicate]; omega)) ?_
      rw [List.take_replicate, Nat.min_eq_left (by omega)]
      refine Ev.b2 (WriteString_spec (l := List.replicate c 0) (rest := []) bldT_mem bld_sz (.inr rfl) (by rw [List.length_replicate, List.length_replicate]; omega) hA) ?_
      rintro _ H1 ⟨rfl, v1, B1, hm1, hA1⟩
      dsimp only at hA1
      rw [rep_u8, List.replicate_append_replicate] at hA1
      refine (ih (j + c) B1 H1 v1 (by omega) (by omega) (by omega) hA1).mono ?_
      rintro o ⟨B', H', v', h1, h2, h3⟩
      exact ⟨B', H', v', h1, ⟨hm1.mo.trans h2.mo⟩, h3⟩
    · obtain rfl : j = n := by omega
      exact done B H v hA
theorem andQ32 {t : TypeId} {a : Nat} : bin Tryd.prog .and t (u64 a) (.int .u64 4294967295) = some (u64 (a % 4294967296)) := by
  rw [show (4294967295 : Int) = ((4294967295 : Nat) : Int) from rfl, bin_and, BitVec.ofInt_natCast, BitVec.ofInt_natCast, BitVec.toNat_and, BitVec.toNat_ofNat, BitVec.toNat_ofNat]
  rw [show IntKind.u64.bits = 64 from rfl, show 4294967295 % 2 ^ 64 = 2 ^ 32 - 1 from rfl, Nat.and_two_pow_sub_one_eq_mod, wrapu64]
  congr 2
  omega
theorem Mul_spec {n : Nat} (hn : n ≤ 1000000) : Ev (fun k _ => rn k 50 [u64 1, u64 n] H) (fun r => r = (.tuple #[u64 0, u64 n], H)) := by
  refine Ev.fn (fun k => f50_eq k _ _ H) ?_
  have key : Ev (fun k _ => rn k 58 [u64 1, u64 n] H) (fun r => r = (.tuple #[u64 0, u64 n], H)) := by
    refine Ev.fn (fun k => f58_eq k _ _ H) ?_
    refine Ev.prim andQ32 ?_
    refine Ev.prim (shrN (a := 1) (b := 32) (by decide)) ?_
    refine Ev.prim andQ32 ?_
    refine Ev.prim (shrN (a := n) (b := 32) (by decide)) ?_
    rw [show 1 % 4294967296 = 1 from rfl, show 1 / 2 ^ 32 = 0 from rfl, Nat.mod_eq_of_lt (show n < 4294967296 by omega), show n / 2 ^ 32 = 0 by omega]
    refine Ev.prim (mulQ (by omega)) ?_
    refine Ev.prim (mulQ (by omega)) ?_
    rw [Nat.one_mul, Nat.zero_mul]
    refine Ev.prim (shrN (a := n) (b := 32) (by decide)) ?_
    rw [show n / 2 ^ 32 = 0 by omega]
    refine Ev.prim (addQ (by omega)) ?_
    refine Ev.prim andQ32 ?_
    refine Ev.prim (shrN (a := 0) (b := 32) (by decide)) ?_
    refine Ev.prim (mulQ (by omega)) ?_
    refine Ev.prim (addQ (by omega)) ?_
    refine Ev.prim (mulQ (by omega)) ?_
    refine Ev.prim (addQ (by omega)) ?_
    refine Ev.prim (shrN (b := 32) (by decide)) ?_
    refine Ev.prim (addQ (by omega)) ?_
    refine Ev.prim (mulQ (by omega)) ?_
    rw [Nat.one_mul]
    exact Ev.ret (by first | rfl | (rw [Nat.one_mul]))
  refine Ev.b2 key ?_
  rintro _ _ ⟨rfl, rfl⟩
  repeat (first | refine Ev.s ?_ | refine Ev.newC fun _ _ _ => ?_ | refine Ev.boxC fun _ _ _ => ?_ | refine Ev.stC fun _ _ => ?_ | refine Ev.sc (by omega) ?_ | refine Ev.scg (by omega) ?_)
  exact Ev.ret rfl
theorem Repeat_spec {n : Nat} (hn : n ≤ 8192) (hS : St H0 B0 B L H) :
    Ev (fun k _ => rn k 44 [str [0], i64 n] H) (fun r => r.1 = str (List.replicate n 0) ∧ ∃ B', MoC B B' ∧ St H0 B0 B' L r.2) := by
  refine Ev.fn (fun k => f44_eq k _ _ H) ?_
  repeat (first | refine Ev.s ?_ | refine Ev.newC fun _ _ _ => ?_ | refine Ev.boxC fun _ _ _ => ?_ | refine Ev.stC fun _ _ => ?_ | refine Ev.sc (by omega) ?_ | refine Ev.scg (by omega) ?_)
  by_cases h0 : n = 0
  · subst h0
    rw [decide_eq_true rfl]
    repeat (first | refine Ev.s ?_ | refine Ev.newC fun _ _ _ => ?_ | refine Ev.boxC fun _ _ _ => ?_ | refine Ev.stC fun _ _ => ?_ | refine Ev.sc (by omega) ?_ | refine Ev.scg (by omega) ?_)
    exact Ev.ret ⟨rfl, B, ⟨Mo.refl B⟩, hS⟩
  rw [decide_eq_false h0]
  repeat (first | refine Ev.s ?_ | refine Ev.newC fun _ _ _ => ?_ | refine Ev.boxC fun _ _ _ => ?_ | refine Ev.stC fun _ _ => ?_ | refine Ev.sc (by omega) ?_ | refine Ev.scg (by omega) ?_)
  by_cases h1 : n = 1
  · subst h1
    rw [decide_eq_true rfl]
    repeat (first | refine Ev.s ?_ | refine Ev.newC fun _ _ _ => ?_ | refine Ev.boxC fun _ _ _ => ?_ | refine Ev.stC fun _ _ => ?_ | refine Ev.sc (by omega) ?_ | refine Ev.scg (by omega) ?_)
    exact Ev.ret ⟨rfl, B, ⟨Mo.refl B⟩, hS⟩
  rw [decide_eq_false h1]
  repeat (first | refine Ev.s ?_ | refine Ev.newC fun _ _ _ => ?_ | refine Ev.boxC fun _ _ _ => ?_ | refine Ev.stC fun _ _ => ?_ | refine Ev.sc (by omega) ?_ | refine Ev.scg (by omega) ?_)
  rw [decide_eq_false (by omega)]
  repeat (first | refine Ev.s ?_ | refine Ev.newC fun _ _ _ => ?_ | refine Ev.boxC fun _ _ _ => ?_ | refine Ev.stC fun _ _ => ?_ | refine Ev.sc (by omega) ?_ | refine Ev.scg (by omega) ?_)
  refine Ev.eq (fun k _ => f44_J0_eq k _ _ H) ?_
  repeat (first | refine Ev.s ?_ | refine Ev.newC fun _ _ _ => ?_ | refine Ev.boxC fun _ _ _ => ?_ | refine Ev.stC fun _ _ => ?_ | refine Ev.sc (by omega) ?_ | refine Ev.scg (by omega) ?_)
  rw [show ([0] : List UInt8).length = 1 from rfl]
  repeat (first | refine Ev.s ?_ | refine Ev.newC fun _ _ _ => ?_ | refine Ev.boxC fun _ _ _ => ?_ | refine Ev.stC fun _ _ => ?_ | refine Ev.sc (by omega) ?_ | refine Ev.scg (by omega) ?_)
  refine Ev.b2 (Mul_spec (by omega)) ?_
  rintro _ _ ⟨rfl, rfl⟩
  repeat (first | (first | refine Ev.s ?_ | refine Ev.newC fun _ _ _ => ?_ | refine Ev.boxC fun _ _ _ => ?_ | refine Ev.stC fun _ _ => ?_ | refine Ev.sc (by omega) ?_ | refine Ev.scg (by omega) ?_) | rw [decide_eq_true (by omega)] | rw [decide_eq_false (by omega)])
  refine Ev.eq (fun k _ => f44_J1_eq k _ _ H) ?_
  repeat (first | refine Ev.s ?_ | refine Ev.newC fun _ _ _ => ?_ | refine Ev.boxC fun _ _ _ => ?_ | refine Ev.stC fun _ _ => ?_ | refine Ev.sc (by omega) ?_ | refine Ev.scg (by omega) ?_)
  rw [show ([0] : List UInt8).length = 1 from rfl]
  repeat (first | (first | refine Ev.s ?_ | refine Ev.newC fun _ _ _ => ?_ | refine Ev.boxC fun _ _ _ => ?_ | refine Ev.stC fun _ _ => ?_ | refine Ev.sc (by omega) ?_ | refine Ev.scg (by omega) ?_) | rw [decide_eq_true (by omega)] | rw [decide_eq_false (by omega)])
  refine Ev.prim (show ix Tryd.prog 9 (str [0]) (.int .i64 0) = some (u8 0) from ix_str (l := [0]) 0 rfl (by decide)) ?_
  repeat (first | (first | refine Ev.s ?_ | refine Ev.newC fun _ _ _ => ?_ | refine Ev.boxC fun _ _ _ => ?_ | refine Ev.stC fun _ _ => ?_ | refine Ev.sc (by omega) ?_ | refine Ev.scg (by omega) ?_) | rw [decide_eq_true (by omega)] | rw [decide_eq_false (by omega)])
  refine Ev.eq (fun k _ => f44_J2_eq k _ _ H) ?_
  repeat (first | (first | refine Ev.s ?_ | refine Ev.newC fun _ _ _ => ?_ | refine Ev.boxC fun _ _ _ => ?_ | refine Ev.stC fun _ _ => ?_ | refine Ev.sc (by omega) ?_ | refine Ev.scg (by omega) ?_) | rw [decide_eq_true (by omega)] | rw [decide_eq_false (by omega)])
  refine Ev.eq (fun k _ => f44_J3_eq k _ _ _ H) ?_
  refine Ev.newC fun p H1 hS1 => ?_
  clear hS
  refine Ev.b2 (Grow_spec (n := n) (rest := []) bldT_mem bld_sz (by omega) (by omega) hS1) ?_
  rintro _ H2 ⟨rfl, b2, B2, hm2, hA2⟩
  dsimp only at hA2
  refine Ev.b2 (WriteString_spec (l := [0]) (rest := []) bldT_mem bld_sz (.inr rfl) (by decide) hA2) ?_
  rintro _ H3 ⟨rfl, v3, B3, hm3, hA3⟩
  dsimp only at hA3
  refine Ev.bind (Ev.loop (rep_loop (by omega) n 1 B3 H3 v3 (by omega) (by omega) (by omega) hA3)) ?_
  rintro _ ⟨B4, H4, v4, rfl, hm4, hA4⟩
  refine Ev.eq (fun k _ => f44_A0_x3 k _ H4) ?_
  refine Ev.b2 (String_same (by rw [List.length_replicate]; omega) (by intro h; have := congrArg List.length h; simp at this; omega) hA4) ?_
  rintro _ _ ⟨rfl, rfl⟩
  refine Ev.ret ⟨?_, B4, ⟨hm2.mo.trans (hm3.mo.trans hm4.mo)⟩, hA4.st.drop1⟩
  dsimp only
  rw [show (List.replicate n 0).map (fun n => UInt8.ofNat n) = List.replicate n 0 by simp]
end
end Go.AM.W
set_option linter.unusedVariables false
set_option linter.unusedSimpArgs false
set_option maxRecDepth 100000
namespace Go.AM.W
open Go Go.AM Go.Proofs
attribute [local irreducible] run bin un ld st box newV mkS fldA fld ixA ix slc slc3 build buildS cv cvS ap cpy lenV gOp pickV b2 aIf aChk evalK resume iterD Option.bind

section
variable {H : AH}
theorem right_loop : ∀ (m : Nat) (s : List UInt8), s.length = m → s.length < 9223372036854775808 →
    Ev (fun k n => f63_L0 k (str s) (u8 0) n H) (fun o => ∃ w : List UInt8, o = (.exit 0, f63_X_L0 (str w), H) ∧ w.length ≤ s.length ∧ ((∀ c ∈ s, c = 0) ↔ ∀ c ∈ w, c = 0)) := by
  intro m
  induction m with
  | zero =>
    intro s hs hl
    refine Ev.succ (fun k n => f63_L0_succ k _ _ n H) ?_
    repeat (first | refine Ev.s ?_ | refine Ev.newC fun _ _ _ => ?_ | refine Ev.boxC fun _ _ _ => ?_ | refine Ev.stC fun _ _ => ?_ | refine Ev.sc (by omega) ?_ | refine Ev.scg (by omega) ?_)
    rw [decide_eq_false (by omega)]
    repeat (first | refine Ev.s ?_ | refine Ev.newC fun _ _ _ => ?_ | refine Ev.boxC fun _ _ _ => ?_ | refine Ev.stC fun _ _ => ?_ | refine Ev.sc (by omega) ?_ | refine Ev.scg (by omega) ?_)
    exact Ev.ret ⟨s, rfl, Nat.le_refl _, Iff.rfl⟩
  | succ m ih =>
    intro s hs hl
    refine Ev.succ (fun k n => f63_L0_succ k _ _ n H) ?_
    repeat (first | refine Ev.s ?_ | refine Ev.newC fun _ _ _ => ?_ | refine Ev.boxC fun _ _ _ => ?_ | refine Ev.stC fun _ _ => ?_ | refine Ev.sc (by omega) ?_ | refine Ev.scg (by omega) ?_)
    rw [decide_eq_true (by omega)]
    repeat (first | refine Ev.s ?_ | refine Ev.newC fun _ _ _ => ?_ | refine Ev.boxC fun _ _ _ => ?_ | refine Ev.stC fun _ _ => ?_ | refine Ev.sc (by omega) ?_ | refine Ev.scg (by omega) ?_)
    refine Ev.gPrim (ix_str (s.length - 1) rfl (by omega)) rfl ?_
    repeat (first | refine Ev.s ?_ | refine Ev.newC fun _ _ _ => ?_ | refine Ev.boxC fun _ _ _ => ?_ | refine Ev.stC fun _ _ => ?_ | refine Ev.sc (by omega) ?_ | refine Ev.scg (by omega) ?_)
    by_cases h0 : (s.getD (s.length - 1) 0).toNat = 0
    · rw [decide_eq_true h0]
      repeat (first | refine Ev.s ?_ | refine Ev.newC fun _ _ _ => ?_ | refine Ev.boxC fun _ _ _ => ?_ | refine Ev.stC fun _ _ => ?_ | refine Ev.sc (by omega) ?_ | refine Ev.scg (by omega) ?_)
      refine Ev.prim (slc_strT (l := s) (i := s.length - 1) (by omega)) ?_
      refine (ih (s.take (s.length - 1)) (by rw [List.length_take]; omega) (by rw [List.length_take]; omega)).mono ?_
      rintro o ⟨w, h1, h2, h3⟩
      refine ⟨w, h1, by rw [List.length_take] at h2; omega, Iff.trans ?_ h3⟩
      have e : s = s.take (s.length - 1) ++ [s.getD (s.length - 1) 0] := by
        conv => lhs; rw [← List.take_append_drop (s.length - 1) s]
        rw [drop_getD (by omega), List.drop_of_length_le (by omega)]
      have h00 : s.getD (s.length - 1) 0 = 0 := UInt8.toNat_inj.1 h0
      rw [h00] at e
      constructor
      · intro h c hc
        exact h c (List.mem_of_mem_take hc)
      · intro h c hc
        rw [e] at hc
        rcases List.mem_append.1 hc with hc | hc
        · exact h c hc
        · simpa using hc
    · rw [decide_eq_false h0]
      repeat (first | refine Ev.s ?_ | refine Ev.newC fun _ _ _ => ?_ | refine Ev.boxC fun _ _ _ => ?_ | refine Ev.stC fun _ _ => ?_ | refine Ev.sc (by omega) ?_ | refine Ev.scg (by omega) ?_)
      exact Ev.ret ⟨s, rfl, Nat.le_refl _, Iff.rfl⟩
theorem left_loop : ∀ (m : Nat) (s : List UInt8), s.length = m → s.length < 9223372036854775808 →
    Ev (fun k n => f62_L0 k (str s) (u8 0) n H) (fun o => ∃ w : List UInt8, o = (.exit 0, f62_X_L0 (str w), H) ∧ ((∀ c ∈ s, c = 0) ↔ w = [])) := by
  intro m
  induction m with
  | zero =>
    intro s hs hl
    refine Ev.succ (fun k n => f62_L0_succ k _ _ n H) ?_
    repeat (first | refine Ev.s ?_ | refine Ev.newC fun _ _ _ => ?_ | refine Ev.boxC fun _ _ _ => ?_ | refine Ev.stC fun _ _ => ?_ | refine Ev.sc (by omega) ?_ | refine Ev.scg (by omega) ?_)
    rw [decide_eq_false (by omega)]
    repeat (first | refine Ev.s ?_ | refine Ev.newC fun _ _ _ => ?_ | refine Ev.boxC fun _ _ _ => ?_ | refine Ev.stC fun _ _ => ?_ | refine Ev.sc (by omega) ?_ | refine Ev.scg (by omega) ?_)
    obtain rfl := List.length_eq_zero_iff.1 hs
    exact Ev.ret ⟨[], rfl, by simp⟩
  | succ m ih =>
    intro s hs hl
    refine Ev.succ (fun k n => f62_L0_succ k _ _ n H) ?_
    repeat (first | refine Ev.s ?_ | refine Ev.newC fun _ _ _ => ?_ | refine Ev.boxC fun _ _ _ => ?_ | refine Ev.stC fun _ _ => ?_ | refine Ev.sc (by omega) ?_ | refine Ev.scg (by omega) ?_)
    rw [decide_eq_true (by omega)]
    repeat (first | refine Ev.s ?_ | refine Ev.newC fun _ _ _ => ?_ | refine Ev.boxC fun _ _ _ => ?_ | refine Ev.stC fun _ _ => ?_ | refine Ev.sc (by omega) ?_ | refine Ev.scg (by omega) ?_)
    match s, hs, hl with
    | c :: r, hs, hl =>
      refine Ev.gPrim (show ix Tryd.prog 9 (str (c :: r)) (.int .i64 0) = some (u8 c.toNat) from ix_str (l := c :: r) 0 rfl (by simp)) rfl ?_
      repeat (first | refine Ev.s ?_ | refine Ev.newC fun _ _ _ => ?_ | refine Ev.boxC fun _ _ _ => ?_ | refine Ev.stC fun _ _ => ?_ | refine Ev.sc (by omega) ?_ | refine Ev.scg (by omega) ?_)
      by_cases h0 : c.toNat = 0
      · rw [decide_eq_true h0]
        repeat (first | refine Ev.s ?_ | refine Ev.newC fun _ _ _ => ?_ | refine Ev.boxC fun _ _ _ => ?_ | refine Ev.stC fun _ _ => ?_ | refine Ev.sc (by omega) ?_ | refine Ev.scg (by omega) ?_)
        refine Ev.prim (show slc Tryd.prog 9 (str (c :: r)) (some (.int .i64 1)) none = some (str r) from slc_str (l := c :: r) 1 rfl (by simp)) ?_
        simp only [List.length_cons] at hs hl
        refine (ih r (by omega) (by omega)).mono ?_
        rintro o ⟨w, h1, h3⟩
        refine ⟨w, h1, Iff.trans ?_ h3⟩
        have h00 : c = 0 := UInt8.toNat_inj.1 h0
        subst h00
        simp
      · rw [decide_eq_false h0]
        repeat (first | refine Ev.s ?_ | refine Ev.newC fun _ _ _ => ?_ | refine Ev.boxC fun _ _ _ => ?_ | refine Ev.stC fun _ _ => ?_ | refine Ev.sc (by omega) ?_ | refine Ev.scg (by omega) ?_)
        refine Ev.ret ⟨c :: r, rfl, ?_⟩
        constructor
        · intro h
          exact absurd (by rw [h c (.head _)]; rfl) h0
        · intro h; cases h
theorem Trim_spec {s : List UInt8} (hl : s.length < 9223372036854775808) : Ev (fun k _ => rn k 56 [str s, str [0]] H) (fun r => ∃ w, r = (str w, H) ∧ ((∀ c ∈ s, c = 0) ↔ w = [])) := by
  refine Ev.fn (fun k => f56_eq k _ _ H) ?_
  by_cases hs : s = []
  · subst hs
    refine Ev.prim (show bin Tryd.prog .eql 9 (str []) (.string ⟨#[]⟩) = some (.bool true) from eql_str.trans (by simp)) ?_
    repeat (first | refine Ev.s ?_ | refine Ev.newC fun _ _ _ => ?_ | refine Ev.boxC fun _ _ _ => ?_ | refine Ev.stC fun _ _ => ?_ | refine Ev.sc (by omega) ?_ | refine Ev.scg (by omega) ?_)
    exact Ev.ret ⟨[], rfl, by simp⟩
  · refine Ev.prim (show bin Tryd.prog .eql 9 (str s) (.string ⟨#[]⟩) = some (.bool false) from (eql_str (b := [])).trans (by simp [hs])) ?_
    repeat (first | refine Ev.s ?_ | refine Ev.newC fun _ _ _ => ?_ | refine Ev.boxC fun _ _ _ => ?_ | refine Ev.stC fun _ _ => ?_ | refine Ev.sc (by omega) ?_ | refine Ev.scg (by omega) ?_)
    rw [decide_eq_false (by simp)]
    repeat (first | (first | refine Ev.s ?_ | refine Ev.newC fun _ _ _ => ?_ | refine Ev.boxC fun _ _ _ => ?_ | refine Ev.stC fun _ _ => ?_ | refine Ev.sc (by omega) ?_ | refine Ev.scg (by omega) ?_) | rw [decide_eq_true (by omega)] | rw [decide_eq_false (by omega)])
    refine Ev.gPrim (show ix Tryd.prog 9 (str [0]) (.int .i64 0) = some (u8 0) from ix_str (l := [0]) 0 rfl (by decide)) rfl ?_
    repeat (first | (first | refine Ev.s ?_ | refine Ev.newC fun _ _ _ => ?_ | refine Ev.boxC fun _ _ _ => ?_ | refine Ev.stC fun _ _ => ?_ | refine Ev.sc (by omega) ?_ | refine Ev.scg (by omega) ?_) | rw [decide_eq_true (by omega)] | rw [decide_eq_false (by omega)])
    refine Ev.prim (show ix Tryd.prog 9 (str [0]) (.int .i64 0) = some (u8 0) from ix_str (l := [0]) 0 rfl (by decide)) ?_
    have h1 : Ev (fun k _ => rn k 63 [str s, u8 0] H) (fun r => ∃ w : List UInt8, r = (str w, H) ∧ w.length ≤ s.length ∧ ((∀ c ∈ s, c = 0) ↔ ∀ c ∈ w, c = 0)) := by
      refine Ev.fn (fun k => f63_eq k _ _ H) ?_
      refine Ev.bind (Ev.loop (right_loop _ s rfl hl)) ?_
      rintro _ ⟨w, rfl, h⟩
      refine Ev.eq (fun k _ => f63_A0_x0 k _ H) ?_
      exact Ev.ret ⟨w, rfl, h⟩
    refine Ev.b2 h1 ?_
    rintro _ _ ⟨w, ⟨rfl, rfl⟩, h2, h3⟩
    refine Ev.prim (show ix Tryd.prog 9 (str [0]) (.int .i64 0) = some (u8 0) from ix_str (l := [0]) 0 rfl (by decide)) ?_
    have h4 : Ev (fun k _ => rn k 62 [str w, u8 0] H) (fun r => ∃ w2 : List UInt8, r = (str w2, H) ∧ ((∀ c ∈ w, c = 0) ↔ w2 = [])) := by
      refine Ev.fn (fun k => f62_eq k _ _ H) ?_
      refine Ev.bind (Ev.loop (left_loop _ w rfl (by omega))) ?_
      rintro _ ⟨w2, rfl, h⟩
      refine Ev.eq (fun k _ => f62_A0_x0 k _ H) ?_
      exact Ev.ret ⟨w2, rfl, h⟩
    refine Ev.b2 h4 ?_
    rintro _ _ ⟨w2, ⟨rfl, rfl⟩, h5⟩
    exact Ev.ret ⟨w2, rfl, h3.trans h5⟩
theorem HasPrefix_spec {s p : List UInt8} (hl : s.length < 9223372036854775808) (hp : p.length ≤ s.length) : Ev (fun k _ => rn k 51 [str s, str p] H) (fun r => r = (.bool (decide (s.take p.length = p)), H)) := by
  refine Ev.fn (fun k => f51_eq k _ _ H) ?_
  have key : Ev (fun k _ => rn k 59 [str s, str p] H) (fun r => r = (.bool (decide (s.take p.length = p)), H)) := by
    refine Ev.fn (fun k => f59_eq k _ _ H) ?_
    repeat (first | refine Ev.s ?_ | refine Ev.newC fun _ _ _ => ?_ | refine Ev.boxC fun _ _ _ => ?_ | refine Ev.stC fun _ _ => ?_ | refine Ev.sc (by omega) ?_ | refine Ev.scg (by omega) ?_)
    rw [decide_eq_true (by omega)]
    repeat (first | refine Ev.s ?_ | refine Ev.newC fun _ _ _ => ?_ | refine Ev.boxC fun _ _ _ => ?_ | refine Ev.stC fun _ _ => ?_ | refine Ev.sc (by omega) ?_ | refine Ev.scg (by omega) ?_)
    refine Ev.gPrim (slc_strT (l := s) (i := p.length) (by omega)) rfl ?_
    repeat (first | refine Ev.s ?_ | refine Ev.newC fun _ _ _ => ?_ | refine Ev.boxC fun _ _ _ => ?_ | refine Ev.stC fun _ _ => ?_ | refine Ev.sc (by omega) ?_ | refine Ev.scg (by omega) ?_)
    exact Ev.ret rfl
  refine Ev.b2 key ?_
  rintro _ _ ⟨rfl, rfl⟩
  exact Ev.ret rfl
end
end Go.AM.W
set_option linter.unusedVariables false
set_option linter.unusedSimpArgs false
set_option maxRecDepth 100000
namespace Go.AM.W
open Go Go.AM Go.Proofs
attribute [local irreducible] run bin un ld st box newV mkS fldA fld ixA ix slc slc3 build buildS cv cvS ap cpy lenV gOp pickV b2 aIf aChk evalK resume iterD Option.bind

section
variable {B B0 H0 H : AH} {L : List (Nat × Blk)}
/-- The answer of a seal. -/
def SealV (p : List UInt8 × Int) : Value := .tuple #[str p.1, .int .i64 p.2]
theorem le4_len (n : Nat) : (le4 n).length = 4 := rfl
theorem Seal_spec {kind : Int} {t : List UInt8} (ht : t.length < 9223372036854775808) (hk : -9223372036854775808 ≤ kind ∧ kind < 9223372036854775808) (hS : St H0 B0 B L H) :
    Ev (fun k _ => rn k 37 [.int .i64 kind, str t] H) (fun r => r.1 = SealV (sealR kind t) ∧ ∃ B', MoC B B' ∧ St H0 B0 B' L r.2) := by
  refine Ev.fn (fun k => f37_eq k _ _ H) ?_
  unfold sealR
  by_cases h1 : kind < 1
  · rw [if_pos (.inl h1)]
    repeat (first | (first | refine Ev.s ?_ | refine Ev.newC fun _ _ _ => ?_ | refine Ev.boxC fun _ _ _ => ?_ | refine Ev.stC fun _ _ => ?_ | refine Ev.sc (by omega) ?_ | refine Ev.scg (by omega) ?_) | rw [decide_eq_true (by omega)] | rw [decide_eq_false (by omega)])
    exact Ev.ret ⟨rfl, B, ⟨Mo.refl B⟩, hS⟩
  by_cases h2 : kind > 9
  · rw [if_pos (.inr (.inl h2))]
    repeat (first | (first | refine Ev.s ?_ | refine Ev.newC fun _ _ _ => ?_ | refine Ev.boxC fun _ _ _ => ?_ | refine Ev.stC fun _ _ => ?_ | refine Ev.sc (by omega) ?_ | refine Ev.scg (by omega) ?_) | rw [decide_eq_true (by omega)] | rw [decide_eq_false (by omega)])
    exact Ev.ret ⟨rfl, B, ⟨Mo.refl B⟩, hS⟩
  by_cases h3 : t.length > 120
  · rw [if_pos (.inr (.inr h3))]
    repeat (first | (first | refine Ev.s ?_ | refine Ev.newC fun _ _ _ => ?_ | refine Ev.boxC fun _ _ _ => ?_ | refine Ev.stC fun _ _ => ?_ | refine Ev.sc (by omega) ?_ | refine Ev.scg (by omega) ?_) | rw [decide_eq_true (by omega)] | rw [decide_eq_false (by omega)])
    exact Ev.ret ⟨rfl, B, ⟨Mo.refl B⟩, hS⟩
  rw [if_neg (by omega)]
  obtain ⟨n, rfl⟩ : ∃ n : Nat, kind = n := ⟨kind.toNat, by omega⟩
  rw [Int.toNat_natCast]
  repeat (first | (first | refine Ev.s ?_ | refine Ev.newC fun _ _ _ => ?_ | refine Ev.boxC fun _ _ _ => ?_ | refine Ev.stC fun _ _ => ?_ | refine Ev.sc (by omega) ?_ | refine Ev.scg (by omega) ?_) | rw [decide_eq_true (by omega)] | rw [decide_eq_false (by omega)])
  rw [Nat.mod_eq_of_lt (show n < 4294967296 by omega), Nat.mod_eq_of_lt (show t.length < 4294967296 by omega)]
  refine Ev.bsC (P := Tryd.prog) (t := 99) (hS := hS) (by decide) fun b H1 hS1 => ?_
  obtain ⟨B1, hm1, hF, hS2⟩ := St.flz (l := [n, t.length]) (f := u32) (cap := 2) hS1 (Nat.le_refl _)
  clear hS hS1
  refine Ev.b2 (bytes_spec hF (by simp) (by simp) hS2) ?_
  rintro _ H2 ⟨rfl, B2, hm2, hS3⟩
  dsimp only at hS3
  clear hS2
  refine Ev.prim (add_str (a := [65, 83]) (b := [n, t.length].map UInt8.ofNat) (by simp)) ?_
  refine Ev.prim (add_str (a := [65, 83] ++ [n, t.length].map UInt8.ofNat) (b := t) (by simp; omega)) ?_
  obtain ⟨hd, hhd⟩ : ∃ hd : List UInt8, hd = [65, 83] ++ [n, t.length].map UInt8.ofNat ++ t := ⟨_, rfl⟩
  have hdl : hd.length = 4 + t.length := by rw [hhd, List.length_append]; rfl
  rw [← hhd]
  repeat (first | refine Ev.s ?_ | refine Ev.newC fun _ _ _ => ?_ | refine Ev.boxC fun _ _ _ => ?_ | refine Ev.stC fun _ _ => ?_ | refine Ev.sc (by omega) ?_ | refine Ev.scg (by omega) ?_)
  rw [hdl]
  rw [show 124 - (4 + t.length) = 120 - t.length by omega]
  refine Ev.b2 (Repeat_spec (n := 120 - t.length) (by omega) hS3) ?_
  rintro _ H3 ⟨rfl, B3, hm3, hS4⟩
  dsimp only at hS4
  clear hS3
  refine Ev.prim (add_str (a := hd) (b := List.replicate (120 - t.length) 0) (by rw [List.length_replicate]; omega)) ?_
  have hb : hd ++ List.replicate (120 - t.length) 0 = bodyL n t := by rw [hhd]; rfl
  have hbl := body_len (k := n) (t := t) (by omega)
  rw [hb]
  refine Ev.b2 (psum_spec (by rw [hbl]; decide) hS4) ?_
  rintro _ H4 ⟨rfl, B4, hm4, hS5⟩
  dsimp only at hS5
  refine Ev.prim (add_str (a := bodyL n t) (b := le4 (crc (bodyL n t))) (by rw [hbl, le4_len]; decide)) ?_
  exact Ev.ret ⟨rfl, B4, ⟨hm1.mo.trans (hm2.mo.trans (hm3.mo.trans hm4.mo))⟩, hS5⟩
def OpenV (p : Int × List UInt8 × Int) : Value := .tuple #[.int .i64 p.1, str p.2.1, .int .i64 p.2.2]
theorem Open_spec {b : List UInt8} (hl : b.length < 9223372036854775808) (hS : St H0 B0 B L H) :
    Ev (fun k _ => rn k 48 [str b] H) (fun r => r.1 = OpenV (openR b) ∧ ∃ B', MoC B B' ∧ St H0 B0 B' L r.2) := by
  refine Ev.fn (fun k => f48_eq k _ H) ?_
  unfold openR
  repeat (first | refine Ev.s ?_ | refine Ev.newC fun _ _ _ => ?_ | refine Ev.boxC fun _ _ _ => ?_ | refine Ev.stC fun _ _ => ?_ | refine Ev.sc (by omega) ?_ | refine Ev.scg (by omega) ?_)
  by_cases h1 : b.length = 128
  case neg =>
    rw [if_pos h1, decide_eq_true h1]
    repeat (first | refine Ev.s ?_ | refine Ev.newC fun _ _ _ => ?_ | refine Ev.boxC fun _ _ _ => ?_ | refine Ev.stC fun _ _ => ?_ | refine Ev.sc (by omega) ?_ | refine Ev.scg (by omega) ?_)
    exact Ev.ret ⟨rfl, B, ⟨Mo.refl B⟩, hS⟩
  rw [if_neg (by omega), decide_eq_false (by omega)]
  repeat (first | refine Ev.s ?_ | refine Ev.newC fun _ _ _ => ?_ | refine Ev.boxC fun _ _ _ => ?_ | refine Ev.stC fun _ _ => ?_ | refine Ev.sc (by omega) ?_ | refine Ev.scg (by omega) ?_)
  refine Ev.prim (show slc Tryd.prog 9 (str b) none (some (.int .i64 124)) = some (str (b.take 124)) from slc_strT (l := b) (i := 124) (by omega)) ?_
  refine Ev.prim (show ix Tryd.prog 9 (str b) (.int .i64 3) = some (u8 (b.getD 3 0).toNat) from ix_str 3 rfl (by omega)) ?_
  have hn3 := u8_lt (b.getD 3 0)
  have hn2 := u8_lt (b.getD 2 0)
  repeat (first | refine Ev.s ?_ | refine Ev.newC fun _ _ _ => ?_ | refine Ev.boxC fun _ _ _ => ?_ | refine Ev.stC fun _ _ => ?_ | refine Ev.sc (by omega) ?_ | refine Ev.scg (by omega) ?_)
  refine Ev.b2 (psum_spec (by rw [List.length_take]; omega) hS) ?_
  rintro _ H1 ⟨rfl, B1, hm1, hS1⟩
  dsimp only at hS1
  clear hS
  refine Ev.prim (show slc Tryd.prog 9 (str b) (some (.int .i64 124)) none = some (str (b.drop 124)) from slc_str (l := b) 124 rfl (by omega)) ?_
  repeat (first | refine Ev.s ?_ | refine Ev.newC fun _ _ _ => ?_ | refine Ev.boxC fun _ _ _ => ?_ | refine Ev.stC fun _ _ => ?_ | refine Ev.sc (by omega) ?_ | refine Ev.scg (by omega) ?_)
  by_cases h2 : le4 (crc (b.take 124)) = b.drop 124
  case neg =>
    rw [if_pos h2, decide_eq_true h2]
    repeat (first | refine Ev.s ?_ | refine Ev.newC fun _ _ _ => ?_ | refine Ev.boxC fun _ _ _ => ?_ | refine Ev.stC fun _ _ => ?_ | refine Ev.sc (by omega) ?_ | refine Ev.scg (by omega) ?_)
    exact Ev.ret ⟨rfl, B1, hm1, hS1⟩
  rw [if_neg (by simpa using h2), decide_eq_false (by simpa using h2)]
  repeat (first | refine Ev.s ?_ | refine Ev.newC fun _ _ _ => ?_ | refine Ev.boxC fun _ _ _ => ?_ | refine Ev.stC fun _ _ => ?_ | refine Ev.sc (by omega) ?_ | refine Ev.scg (by omega) ?_)
  refine Ev.b2 (HasPrefix_spec (s := b) (p := [65, 83]) (by omega) (by rw [h1]; decide)) ?_
  rintro _ _ ⟨rfl, rfl⟩
  rw [show ([65, 83] : List UInt8).length = 2 from rfl]
  have bad : ¬ Body b → Ev (fun _ _ => some (Value.tuple #[.int .i64 0, .string ⟨#[]⟩, .int .i64 2], H1)) (fun r => r.1 = OpenV (if Body b then (((b.getD 2 0).toNat : Int), (b.drop 4).take (b.getD 3 0).toNat, 0) else (0, [], 2)) ∧ ∃ B', MoC B B' ∧ St H0 B0 B' L r.2) := by
    intro h
    rw [if_neg h]
    exact Ev.ret ⟨rfl, B1, hm1, hS1⟩
  by_cases h3 : b.take 2 = [65, 83]
  case neg =>
    rw [decide_eq_false h3]
    repeat (first | refine Ev.s ?_ | refine Ev.newC fun _ _ _ => ?_ | refine Ev.boxC fun _ _ _ => ?_ | refine Ev.stC fun _ _ => ?_ | refine Ev.sc (by omega) ?_ | refine Ev.scg (by omega) ?_)
    exact bad fun h => h3 h.1
  rw [decide_eq_true h3]
  repeat (first | refine Ev.s ?_ | refine Ev.newC fun _ _ _ => ?_ | refine Ev.boxC fun _ _ _ => ?_ | refine Ev.stC fun _ _ => ?_ | refine Ev.sc (by omega) ?_ | refine Ev.scg (by omega) ?_)
  refine Ev.gPrim (show ix Tryd.prog 9 (str b) (.int .i64 2) = some (u8 (b.getD 2 0).toNat) from ix_str 2 rfl (by omega)) rfl ?_
  repeat (first | refine Ev.s ?_ | refine Ev.newC fun _ _ _ => ?_ | refine Ev.boxC fun _ _ _ => ?_ | refine Ev.stC fun _ _ => ?_ | refine Ev.sc (by omega) ?_ | refine Ev.scg (by omega) ?_)
  by_cases h4 : 1 ≤ (b.getD 2 0).toNat
  case neg =>
    repeat (first | (first | refine Ev.s ?_ | refine Ev.newC fun _ _ _ => ?_ | refine Ev.boxC fun _ _ _ => ?_ | refine Ev.stC fun _ _ => ?_ | refine Ev.sc (by omega) ?_ | refine Ev.scg (by omega) ?_) | rw [decide_eq_true (by omega)] | rw [decide_eq_false (by omega)])
    exact bad fun h => h4 h.2.1
  rw [decide_eq_false (by omega)]
  repeat (first | refine Ev.s ?_ | refine Ev.newC fun _ _ _ => ?_ | refine Ev.boxC fun _ _ _ => ?_ | refine Ev.stC fun _ _ => ?_ | refine Ev.sc (by omega) ?_ | refine Ev.scg (by omega) ?_)
  refine Ev.gPrim (show ix Tryd.prog 9 (str b) (.int .i64 2) = some (u8 (b.getD 2 0).toNat) from ix_str 2 rfl (by omega)) rfl ?_
  repeat (first | refine Ev.s ?_ | refine Ev.newC fun _ _ _ => ?_ | refine Ev.boxC fun _ _ _ => ?_ | refine Ev.stC fun _ _ => ?_ | refine Ev.sc (by omega) ?_ | refine Ev.scg (by omega) ?_)
  by_cases h5 : (b.getD 2 0).toNat ≤ 9
  case neg =>
    repeat (first | (first | refine Ev.s ?_ | refine Ev.newC fun _ _ _ => ?_ | refine Ev.boxC fun _ _ _ => ?_ | refine Ev.stC fun _ _ => ?_ | refine Ev.sc (by omega) ?_ | refine Ev.scg (by omega) ?_) | rw [decide_eq_true (by omega)] | rw [decide_eq_false (by omega)])
    exact bad fun h => h5 h.2.2.1
  rw [decide_eq_false (by omega)]
  repeat (first | refine Ev.s ?_ | refine Ev.newC fun _ _ _ => ?_ | refine Ev.boxC fun _ _ _ => ?_ | refine Ev.stC fun _ _ => ?_ | refine Ev.sc (by omega) ?_ | refine Ev.scg (by omega) ?_)
  by_cases h6 : (b.getD 3 0).toNat ≤ 120
  case neg =>
    repeat (first | (first | refine Ev.s ?_ | refine Ev.newC fun _ _ _ => ?_ | refine Ev.boxC fun _ _ _ => ?_ | refine Ev.stC fun _ _ => ?_ | refine Ev.sc (by omega) ?_ | refine Ev.scg (by omega) ?_) | rw [decide_eq_true (by omega)] | rw [decide_eq_false (by omega)])
    exact bad fun h => h6 h.2.2.2.1
  repeat (first | (first | refine Ev.s ?_ | refine Ev.newC fun _ _ _ => ?_ | refine Ev.boxC fun _ _ _ => ?_ | refine Ev.stC fun _ _ => ?_ | refine Ev.sc (by omega) ?_ | refine Ev.scg (by omega) ?_) | rw [decide_eq_true (by omega)] | rw [decide_eq_false (by omega)])
  generalize hn : (b.getD 3 0).toNat = n at *
  refine Ev.gPrim (slc_str (l := b.take 124) (4 + n) rfl (by rw [List.length_take]; omega)) rfl ?_
  repeat (first | (first | refine Ev.s ?_ | refine Ev.newC fun _ _ _ => ?_ | refine Ev.boxC fun _ _ _ => ?_ | refine Ev.stC fun _ _ => ?_ | refine Ev.sc (by omega) ?_ | refine Ev.scg (by omega) ?_) | rw [decide_eq_true (by omega)] | rw [decide_eq_false (by omega)])
  refine Ev.b2 (Trim_spec (s := (b.take 124).drop (4 + n)) (by rw [List.length_drop, List.length_take]; omega)) ?_
  rintro _ _ ⟨w, ⟨rfl, rfl⟩, hw⟩
  repeat (first | refine Ev.s ?_ | refine Ev.newC fun _ _ _ => ?_ | refine Ev.boxC fun _ _ _ => ?_ | refine Ev.stC fun _ _ => ?_ | refine Ev.sc (by omega) ?_ | refine Ev.scg (by omega) ?_)
  by_cases h7 : w = []
  case neg =>
    rw [decide_eq_true h7]
    repeat (first | (first | refine Ev.s ?_ | refine Ev.newC fun _ _ _ => ?_ | refine Ev.boxC fun _ _ _ => ?_ | refine Ev.stC fun _ _ => ?_ | refine Ev.sc (by omega) ?_ | refine Ev.scg (by omega) ?_) | rw [decide_eq_true (by omega)] | rw [decide_eq_false (by omega)])
    exact bad fun h => h7 (hw.1 (by have := h.2.2.2.2; rwa [hn] at this))
  rw [decide_eq_false (by simpa using h7)]
  have hB : Body b := ⟨h3, h4, h5, by rw [hn]; exact h6, by rw [hn]; exact hw.2 h7⟩
  repeat (first | refine Ev.s ?_ | refine Ev.newC fun _ _ _ => ?_ | refine Ev.boxC fun _ _ _ => ?_ | refine Ev.stC fun _ _ => ?_ | refine Ev.sc (by omega) ?_ | refine Ev.scg (by omega) ?_)
  refine Ev.prim (show ix Tryd.prog 9 (str b) (.int .i64 2) = some (u8 (b.getD 2 0).toNat) from ix_str 2 rfl (by omega)) ?_
  repeat (first | refine Ev.s ?_ | refine Ev.newC fun _ _ _ => ?_ | refine Ev.boxC fun _ _ _ => ?_ | refine Ev.stC fun _ _ => ?_ | refine Ev.sc (by omega) ?_ | refine Ev.scg (by omega) ?_)
  refine Ev.prim (slc_str2 (l := b.take 124) 4 (4 + n) rfl rfl (by omega) (by rw [List.length_take]; omega)) ?_
  rw [if_pos hB]
  refine Ev.ret ⟨?_, B1, hm1, hS1⟩
  show Value.tuple #[_, str _, _] = OpenV _
  rw [List.drop_take, List.take_take, show min (4 + n - 4) (124 - 4) = n by omega]
  rfl
end
end Go.AM.W
set_option linter.unusedVariables false
set_option linter.unusedSimpArgs false
namespace Go.AM
variable {P : Program} {R α : Type} {f : α → Value} {t e : TypeId} {z : Value} {sz : Nat}
variable {B B0 H0 H : AH} {v w : Value} {ks l : List α} {X La Lb : List (Nat × Blk)} {g : Nat → Nat → Value → AH → Option R} {Q : R → Prop}
theorem permA (X La Lb : List (Nat × Blk)) : (La ++ (X ++ Lb)).Perm (X ++ (La ++ Lb)) := by
  rw [← List.append_assoc, ← List.append_assoc]
  exact List.Perm.append_right _ List.perm_append_comm
end Go.AM
set_option linter.unusedVariables false
set_option linter.unusedSimpArgs false
set_option maxRecDepth 100000
namespace Go.AM.W
open Go Go.AM Go.Proofs
attribute [local irreducible] run bin un ld st box newV mkS fldA fld ixA ix slc slc3 build buildS cv cvS ap cpy lenV gOp pickV b2 aIf aChk evalK resume iterD Option.bind

section
variable {B B0 H0 H : AH} {L : List (Nat × Blk)}
abbrev DK := IsDisk 47 5 76
/-- Behind a call that leaves a disk. -/
def DkP (H0 B0 B : AH) (L : List (Nat × Blk)) (p v : Value) (D : Dsk) (r : Value × AH) : Prop := r.1 = v ∧ ∃ Ls B', MoC B B' ∧ DK p D Ls ∧ St H0 B0 B' (Ls ++ L) r.2
theorem Sectors_spec {p : Value} {D : Dsk} {Ls Lx : List (Nat × Blk)} (hD : DK p D Ls) (hO : D.OK) (hS : St H0 B0 B Lx H) (hsub : ∀ x ∈ Ls, x ∈ Lx) :
    Ev (fun k _ => rn k 24 [p] H) (fun r => r = (i64 D.n, H)) := by
  obtain ⟨d, bb, cv, Lc, rfl, hG, rfl⟩ := hD
  have hi : InL d ⟨[sl bb 0 (64 * D.n) (64 * D.n), cv, .int .i64 D.fuse, .bool D.down], 47, .fix⟩ Lx := ⟨hsub _ (.head _)⟩
  refine Ev.fn (fun k => f24_eq k _ H) ?_
  have h1 := hO.n1
  have h2 := hO.n2
  repeat (first | refine Ev.s ?_ | refine Ev.newC fun _ _ _ => ?_ | refine Ev.boxC fun _ _ _ => ?_ | refine Ev.stC fun _ _ => ?_ | refine Ev.sc (by omega) ?_ | refine Ev.scg (by omega) ?_)
  have : 64 * D.n / 64 = D.n := by omega
  rw [this]
  exact Ev.ret rfl
theorem lay_spec {d bb n a : Nat} {cv x y : Value} {bs s : List UInt8} (h2 : n ≤ 1024) (hl : bs.length = 64 * n) (ha : a < n) (hs : s.length ≤ 64)
    (hS : St H0 B0 B ((d, ⟨[sl bb 0 (64 * n) (64 * n), cv, x, y], 47, .fix⟩) :: (bb, ⟨byts bs, 5, .fix⟩) :: L) H) :
    Ev (fun k _ => rn k 29 [ptr d 0, i64 a, str s] H) (fun r => r.1 = .tuple #[] ∧ St H0 B0 B ((d, ⟨[sl bb 0 (64 * n) (64 * n), cv, x, y], 47, .fix⟩) :: (bb, ⟨byts (layB bs a s), 5, .fix⟩) :: L) r.2) := by
  refine Ev.fn (fun k => f29_eq k _ _ _ H) ?_
  repeat (first | refine Ev.s ?_ | refine Ev.newC fun _ _ _ => ?_ | refine Ev.boxC fun _ _ _ => ?_ | refine Ev.stC fun _ _ => ?_ | refine Ev.sc (by omega) ?_ | refine Ev.scg (by omega) ?_)
  refine Ev.prim (slc_own (t := 44) (by omega)) ?_
  rw [if_neg (by omega)]
  refine Ev.cpyStr (t := 44) hS (.tail _ (.head _)) (by omega) (by rw [byts_len]; omega) rfl (.tail _ (.head _)) fun H' hS' => ?_
  refine Ev.ret ⟨rfl, ?_⟩
  rw [byts_lay, Nat.mul_comm 64 a]
  exact hS'
theorem act_spec {d : Nat} {bv cv f : Value} {fu : Int} {dn : Bool} {Q : Value × AH → Prop} (hfu : -1 ≤ fu ∧ fu < 9223372036854775808) (hS : St H0 B0 B ((d, ⟨[bv, cv, .int .i64 fu, .bool dn], 47, .fix⟩) :: L) H)
    (h0 : fu = 0 → ∀ H', St H0 B0 B ((d, ⟨[bv, cv, .int .i64 fu, .bool true], 47, .fix⟩) :: L) H' → Q (.int .i64 7, H'))
    (h1 : fu ≠ 0 → ∀ H', St H0 B0 B ((d, ⟨[bv, cv, .int .i64 (max (fu - 1) (-1)), .bool dn], 47, .fix⟩) :: L) H' → Ev (fun k _ => callY (rn k) f [] H') (fun r => Q (.int .i64 0, r.2))) :
    Ev (fun k _ => rn k 27 [ptr d 0, f] H) Q := by
  refine Ev.fn (fun k => f27_eq k _ _ H) ?_
  repeat (first | refine Ev.s ?_ | refine Ev.newC fun _ _ _ => ?_ | refine Ev.boxC fun _ _ _ => ?_ | refine Ev.stC fun _ _ => ?_ | refine Ev.sc (by omega) ?_ | refine Ev.scg (by omega) ?_)
  by_cases hf : fu = 0
  · rw [decide_eq_true hf]
    repeat (first | refine Ev.s ?_ | refine Ev.newC fun _ _ _ => ?_ | refine Ev.boxC fun _ _ _ => ?_ | refine Ev.stC fun _ _ => ?_ | refine Ev.sc (by omega) ?_ | refine Ev.scg (by omega) ?_)
    exact Ev.ret (h0 hf _ (by assumption))
  · rw [decide_eq_false hf]
    repeat (first | refine Ev.s ?_ | refine Ev.newC fun _ _ _ => ?_ | refine Ev.boxC fun _ _ _ => ?_ | refine Ev.stC fun _ _ => ?_ | refine Ev.sc (by omega) ?_ | refine Ev.scg (by omega) ?_)
    rename_i H1 hS1
    rw [show (if -1 > fu - 1 then (-1 : Int) else fu - 1) = max (fu - 1) (-1) by omega] at hS1
    refine Ev.b2 (h1 hf _ hS1) fun v H' hq => ?_
    exact Ev.ret hq
theorem callY_fn {k : Nat} {g : FuncId} {xs ys : List Value} {args : List Value} {H : AH} (hg : g < yOff) : callY (rn k) (.func (.func g) ⟨xs⟩ ⟨ys⟩) args H = rn k g (xs ++ (args ++ ys)) H := by
  unfold callY callV
  simp only [show Nat.blt g yOff = true by rw [Nat.blt_eq]; exact hg, cond_true]
theorem front3 {x y z d : Nat × Blk} (h : St H0 B0 B (x :: y :: z :: d :: L) H) : St H0 B0 B (d :: x :: y :: z :: L) H := h.perm (List.perm_middle (l₁ := [x, y, z])).symm
theorem back3 {x y z d : Nat × Blk} (h : St H0 B0 B (d :: x :: y :: z :: L) H) : St H0 B0 B (d :: L) H := (h.perm (List.perm_middle (l₁ := [x, y, z]))).drop1.drop1.drop1
theorem toFront {X La : List (Nat × Blk)} (h : St H0 B0 B (La ++ (X ++ L)) H) : St H0 B0 B (X ++ (La ++ L)) H := h.perm (permA La X L)
theorem caCells_snoc (l : List (Nat × List UInt8)) (q : Nat) (s : List UInt8) : caCells (l ++ [(q, s)]) = caCells l ++ [i64 q, str s] := by simp [caCells]
theorem drop_3 {x y z : Nat × Blk} (h : St H0 B0 B (x :: y :: z :: L) H) : St H0 B0 B L H := h.drop1.drop1.drop1
end
end Go.AM.W
set_option linter.unusedVariables false
set_option linter.unusedSimpArgs false
set_option maxRecDepth 100000
namespace Go.AM.W
open Go Go.AM Go.Proofs
attribute [local irreducible] run bin un ld st box newV mkS fldA fld ixA ix slc slc3 build buildS cv cvS ap cpy lenV gOp pickV b2 aIf aChk evalK resume iterD Option.bind

section
variable {B B0 H0 H : AH} {L : List (Nat × Blk)}
theorem Write_spec {p : Value} {D : Dsk} {Ls : List (Nat × Blk)} {i : Int} {s : List UInt8} (hD : DK p D Ls) (hO : D.OK) (hc : D.cache.length < 1000000000000) (hS : St H0 B0 B (Ls ++ L) H) :
    Ev (fun k _ => rn k 38 [p, .int .i64 i, str s] H) (DkP H0 B0 B L p (.int .i64 (D.write i s).1) (D.write i s).2) := by
  have hD0 := hD
  obtain ⟨n, bytes, cache, fu, dn⟩ := D
  obtain ⟨d, bb, cv, Lc, rfl, hG, rfl⟩ := hD
  have h1 := hO.n1
  have h2 := hO.n2
  have hfu := hO.fu
  dsimp only at hS hc h1 h2 hfu hG hD0
  simp only [List.cons_append] at hS
  have hcell := hG.cell
  refine Ev.fn (fun k => f38_eq k _ _ _ H) ?_
  have back : ∀ H', St H0 B0 B ((d, ⟨[sl bb 0 (64 * n) (64 * n), cv, .int .i64 fu, .bool dn], 47, .fix⟩) :: (bb, ⟨byts bytes, 5, .fix⟩) :: (Lc ++ L)) H' → ∃ Ls B', MoC B B' ∧ DK (ptr d 0) ⟨n, bytes, cache, fu, dn⟩ Ls ∧ St H0 B0 B' (Ls ++ L) H' := fun H' h => ⟨_, B, ⟨Mo.refl B⟩, hD0, h⟩
  repeat (first | refine Ev.s ?_ | refine Ev.newC fun _ _ _ => ?_ | refine Ev.boxC fun _ _ _ => ?_ | refine Ev.stC fun _ _ => ?_ | refine Ev.sc (by omega) ?_ | refine Ev.scg (by omega) ?_)
  rename_i b1 H1 hS1 b2 H2 hS2 b3 H3 hS3
  unfold Dsk.write
  dsimp only
  cases dn with
  | true =>
    repeat (first | refine Ev.s ?_ | refine Ev.newC fun _ _ _ => ?_ | refine Ev.boxC fun _ _ _ => ?_ | refine Ev.stC fun _ _ => ?_ | refine Ev.sc (by omega) ?_ | refine Ev.scg (by omega) ?_)
    exact Ev.ret ⟨rfl, back _ (drop_3 hS3)⟩
  | false =>
    repeat (first | refine Ev.s ?_ | refine Ev.newC fun _ _ _ => ?_ | refine Ev.boxC fun _ _ _ => ?_ | refine Ev.stC fun _ _ => ?_ | refine Ev.sc (by omega) ?_ | refine Ev.scg (by omega) ?_)
    rw [if_neg (fun h => by cases h)]
    by_cases hi : i < 0
    · rw [decide_eq_true hi, if_pos (.inl hi)]
      repeat (first | refine Ev.s ?_ | refine Ev.newC fun _ _ _ => ?_ | refine Ev.boxC fun _ _ _ => ?_ | refine Ev.stC fun _ _ => ?_ | refine Ev.sc (by omega) ?_ | refine Ev.scg (by omega) ?_)
      exact Ev.ret ⟨rfl, back _ (drop_3 hS3)⟩
    rw [decide_eq_false hi]
    obtain ⟨q, rfl⟩ : ∃ q : Nat, i = q := ⟨i.toNat, by omega⟩
    repeat (first | refine Ev.s ?_ | refine Ev.newC fun _ _ _ => ?_ | refine Ev.boxC fun _ _ _ => ?_ | refine Ev.stC fun _ _ => ?_ | refine Ev.sc (by omega) ?_ | refine Ev.scg (by omega) ?_)
    refine Ev.b2 (Sectors_spec hD0 hO hS3 ?_) ?_
    · intro x hx
      exact .tail _ (.tail _ (.tail _ (by rw [← List.cons_append, ← List.cons_append]; exact List.mem_append_left _ hx)))
    rintro _ _ ⟨rfl, rfl⟩
    repeat (first | refine Ev.s ?_ | refine Ev.newC fun _ _ _ => ?_ | refine Ev.boxC fun _ _ _ => ?_ | refine Ev.stC fun _ _ => ?_ | refine Ev.sc (by omega) ?_ | refine Ev.scg (by omega) ?_)
    by_cases hq : n ≤ q
    · rw [decide_eq_true hq, if_pos (.inr (.inl (by omega)))]
      repeat (first | refine Ev.s ?_ | refine Ev.newC fun _ _ _ => ?_ | refine Ev.boxC fun _ _ _ => ?_ | refine Ev.stC fun _ _ => ?_ | refine Ev.sc (by omega) ?_ | refine Ev.scg (by omega) ?_)
      exact Ev.ret ⟨rfl, back _ (drop_3 hS3)⟩
    rw [decide_eq_false hq]
    repeat (first | refine Ev.s ?_ | refine Ev.newC fun _ _ _ => ?_ | refine Ev.boxC fun _ _ _ => ?_ | refine Ev.stC fun _ _ => ?_ | refine Ev.sc (by omega) ?_ | refine Ev.scg (by omega) ?_)
    by_cases hl : s.length = 64
    · rw [decide_eq_false (fun h => h hl), if_neg (by omega)]
      repeat (first | refine Ev.s ?_ | refine Ev.newC fun _ _ _ => ?_ | refine Ev.boxC fun _ _ _ => ?_ | refine Ev.stC fun _ _ => ?_ | refine Ev.sc (by omega) ?_ | refine Ev.scg (by omega) ?_)
      rw [show (fun k n : Nat => AM.b2 (rn k 27 [ptr d 0, .func (.func 46) #[] #[ptr b1 0, ptr b2 0, ptr b3 0]] H3) fun v20 h20 => some (v20, h20)) = fun k n => rn k 27 [ptr d 0, .func (.func 46) #[] #[ptr b1 0, ptr b2 0, ptr b3 0]] H3 from funext fun k => funext fun _ => b2_id _]
      refine act_spec hfu (front3 hS3) (fun h0 H' hS' => ?_) (fun h0 H' hS' => ?_)
      · unfold Dsk.act
        dsimp only
        rw [if_pos h0]
        exact ⟨rfl, _, B, ⟨Mo.refl B⟩, ⟨d, bb, cv, Lc, rfl, hG, rfl⟩, back3 hS'⟩
      · unfold Dsk.act
        dsimp only
        rw [if_neg h0]
        simp only [callY_fn (show 46 < yOff by unfold yOff; omega)]
        clear hS hS1 hS2 hS3 back
        refine Ev.fn (fun k => f46_eq k _ _ _ H') ?_
        repeat (first | refine Ev.s ?_ | refine Ev.newC fun _ _ _ => ?_ | refine Ev.boxC fun _ _ _ => ?_ | refine Ev.stC fun _ _ => ?_ | refine Ev.sc (by omega) ?_ | refine Ev.scg (by omega) ?_)
        have hS4 := toFront (X := Lc) (La := [(d, _), (b3, _), (b2, _), (b1, _), (bb, _)]) (L := L) hS'
        refine GAcc.push (ds := [i64 q, str s]) (hG.acc hS4) rfl rfl rfl rfl (by omega) (by omega) fun v' B' H5 hm hA => ?_
        obtain ⟨Lx, hG5, hS5⟩ := hA.grs
        have hS6 := toFront (X := [(d, _), (b3, _), (b2, _), (b1, _), (bb, _)]) (La := Lx) (L := L) hS5
        simp only [List.cons_append, List.nil_append] at hS6
        have hcell5 := hG5.cell
        clear hS' hS4 hS5 hA
        repeat (first | refine Ev.s ?_ | refine Ev.newC fun _ _ _ => ?_ | refine Ev.boxC fun _ _ _ => ?_ | refine Ev.stC fun _ _ => ?_ | refine Ev.sc (by omega) ?_ | refine Ev.scg (by omega) ?_)
        rename_i H6 hS7
        refine Ev.ret ⟨rfl, _, B', hm, ⟨d, bb, v', Lx, rfl, ?_, rfl⟩, back3 hS7⟩
        unfold Dsk.put
        dsimp only
        rw [caCells_snoc, List.length_append]
        exact hG5
    · rw [decide_eq_true hl, if_pos (.inr (.inr hl))]
      repeat (first | refine Ev.s ?_ | refine Ev.newC fun _ _ _ => ?_ | refine Ev.boxC fun _ _ _ => ?_ | refine Ev.stC fun _ _ => ?_ | refine Ev.sc (by omega) ?_ | refine Ev.scg (by omega) ?_)
      exact Ev.ret ⟨rfl, back _ (drop_3 hS3)⟩
end
end Go.AM.W
set_option linter.unusedVariables false
set_option linter.unusedSimpArgs false
set_option maxRecDepth 100000
namespace Go.AM.W
open Go Go.AM Go.Proofs
attribute [local irreducible] run bin un ld st box newV mkS fldA fld ixA ix slc slc3 build buildS cv cvS ap cpy lenV gOp pickV b2 aIf aChk evalK resume iterD Option.bind

section
variable {B B0 H0 H : AH} {L : List (Nat × Blk)}
theorem New_spec {n : Nat} (h1 : 1 ≤ n) (h2 : n ≤ 1024) (hS : St H0 B0 B L H) :
    Ev (fun k _ => rn k 7 [i64 n] H) (fun r => ∃ p Ls B', r.1 = .tuple #[p, .int .i64 0] ∧ MoC B B' ∧ DK p (Dsk.new n) Ls ∧ St H0 B0 B' (Ls ++ L) r.2) := by
  refine Ev.fn (fun k => f7_eq k _ H) ?_
  repeat (first | refine Ev.s ?_ | refine Ev.newC fun _ _ _ => ?_ | refine Ev.boxC fun _ _ _ => ?_ | refine Ev.stC fun _ _ => ?_ | refine Ev.sc (by omega) ?_ | refine Ev.scg (by omega) ?_)
  rw [decide_eq_false (by omega)]
  repeat (first | refine Ev.s ?_ | refine Ev.newC fun _ _ _ => ?_ | refine Ev.boxC fun _ _ _ => ?_ | refine Ev.stC fun _ _ => ?_ | refine Ev.sc (by omega) ?_ | refine Ev.scg (by omega) ?_)
  rw [decide_eq_false (by omega)]
  repeat (first | refine Ev.s ?_ | refine Ev.newC fun _ _ _ => ?_ | refine Ev.boxC fun _ _ _ => ?_ | refine Ev.stC fun _ _ => ?_ | refine Ev.sc (by omega) ?_ | refine Ev.scg (by omega) ?_)
  refine Ev.mkS (t := 44) inferInstance hS (by omega) (by omega) fun bb B' H' hm hS' => ?_
  clear hS
  repeat (first | refine Ev.s ?_ | refine Ev.newC fun _ _ _ => ?_ | refine Ev.boxC fun _ _ _ => ?_ | refine Ev.stC fun _ _ => ?_ | refine Ev.sc (by omega) ?_ | refine Ev.scg (by omega) ?_)
  rename_i d H1 hS1
  refine Ev.ret ⟨_, _, B', rfl, ⟨hm⟩, ⟨d, bb, _, [], rfl, .inl ⟨rfl, rfl, .inl rfl, rfl⟩, rfl⟩, ?_⟩
  unfold Dsk.new
  dsimp only
  rw [byts_rep, Nat.mul_comm 64 n]
  exact hS1
/-- The barrier's rounds. -/
theorem barrier_loop {b1 d bb : Nat} {cv : Value} {Lc : List (Nat × Blk)} {D : Dsk} (hO : D.OK) (hG : GRS 76 2 cv D.cache.length (caCells D.cache) Lc) (hc : D.cache.length < 1000000000000) :
    ∀ (m i : Nat) (B H : AH), i + m = D.cache.length → St H0 B0 B ((b1, ⟨[ptr d 0], 24, .fix⟩) :: (d, ⟨[sl bb 0 (64 * D.n) (64 * D.n), cv, .int .i64 D.fuse, .bool D.down], 47, .fix⟩) :: (bb, ⟨byts (layAll (D.cache.take i) D.bytes), 5, .fix⟩) :: (Lc ++ L)) H →
    Ev (fun k K => f28_L0 k (ptr b1 0) cv (i64 D.cache.length) (i64 i) K H) (fun o => ∃ B' H', o = (.exit 0, f28_X_L0 (ptr b1 0), H') ∧ MoC B B' ∧
      St H0 B0 B' ((b1, ⟨[ptr d 0], 24, .fix⟩) :: (d, ⟨[sl bb 0 (64 * D.n) (64 * D.n), cv, .int .i64 D.fuse, .bool D.down], 47, .fix⟩) :: (bb, ⟨byts (layAll D.cache D.bytes), 5, .fix⟩) :: (Lc ++ L)) H') := by
  intro m
  induction m with
  | zero =>
    intro i B H hi hS
    refine Ev.succ (fun k K => f28_L0_succ k _ _ _ _ K H) ?_
    repeat (first | refine Ev.s ?_ | refine Ev.newC fun _ _ _ => ?_ | refine Ev.boxC fun _ _ _ => ?_ | refine Ev.stC fun _ _ => ?_ | refine Ev.sc (by omega) ?_ | refine Ev.scg (by omega) ?_)
    rw [decide_eq_false (by omega)]
    repeat (first | refine Ev.s ?_ | refine Ev.newC fun _ _ _ => ?_ | refine Ev.boxC fun _ _ _ => ?_ | refine Ev.stC fun _ _ => ?_ | refine Ev.sc (by omega) ?_ | refine Ev.scg (by omega) ?_)
    rw [List.take_of_length_le (by omega)] at hS
    exact Ev.ret ⟨B, H, rfl, ⟨Mo.refl B⟩, hS⟩
  | succ m ih =>
    intro i B H hi hS
    refine Ev.succ (fun k K => f28_L0_succ k _ _ _ _ K H) ?_
    repeat (first | refine Ev.s ?_ | refine Ev.newC fun _ _ _ => ?_ | refine Ev.boxC fun _ _ _ => ?_ | refine Ev.stC fun _ _ => ?_ | refine Ev.sc (by omega) ?_ | refine Ev.scg (by omega) ?_)
    rw [decide_eq_true (by omega)]
    repeat (first | refine Ev.s ?_ | refine Ev.newC fun _ _ _ => ?_ | refine Ev.boxC fun _ _ _ => ?_ | refine Ev.stC fun _ _ => ?_ | refine Ev.sc (by omega) ?_ | refine Ev.scg (by omega) ?_)
    obtain ⟨⟨a, s⟩, ha⟩ : ∃ x, D.cache[i]? = some x := ⟨_, List.getElem?_eq_getElem (by omega)⟩
    have hmem := hO.ca (a, s) (List.mem_of_getElem? ha)
    dsimp only at hmem
    have hN := hG.now hS (fun p hp => .tail _ (.tail _ (.tail _ (List.mem_append_left _ hp))))
    obtain ⟨p, q1, q2⟩ := hN.ldAt (P := Tryd.prog) (t := 45) (k := .i64) (i := i) (by omega) (AggOf.eq (P := Tryd.prog) (t := 76))
    rw [caCells_at ha] at q2
    refine Ev.prim q1 ?_
    refine Ev.prim q2 ?_
    repeat (first | refine Ev.s ?_ | refine Ev.newC fun _ _ _ => ?_ | refine Ev.boxC fun _ _ _ => ?_ | refine Ev.stC fun _ _ => ?_ | refine Ev.sc (by omega) ?_ | refine Ev.scg (by omega) ?_)
    rename_i b2 H2 hS2 H3 hS3
    have hS4 := hS3.perm (show ([(d, _), (bb, _), (b2, _), (b1, _)] ++ (Lc ++ L)).Perm _ from (List.Perm.append_right _ (perm22 _ _ _ _)))
    refine Ev.b2 (lay_spec (n := D.n) hO.n2 (layAll_len _ _ _ hO.len fun p hp => hO.ca p (List.mem_of_mem_take hp)) hmem.1 (by omega) hS4) ?_
    rintro _ H5 ⟨_, hS5⟩
    dsimp only at hS5
    rw [← lay_at ha] at hS5
    repeat (first | refine Ev.s ?_ | refine Ev.newC fun _ _ _ => ?_ | refine Ev.boxC fun _ _ _ => ?_ | refine Ev.stC fun _ _ => ?_ | refine Ev.sc (by omega) ?_ | refine Ev.scg (by omega) ?_)
    have hS6 := (hS5.perm (show ([(b2, _), (b1, _), (d, _), (bb, _)] ++ (Lc ++ L)).Perm _ from (List.Perm.append_right _ (perm22 _ _ _ _)))).drop1
    exact ih (i + 1) B H5 (by omega) hS6
theorem Barrier1_spec {b1 d bb : Nat} {cv : Value} {Lc : List (Nat × Blk)} {D : Dsk} (hO : D.OK) (hG : GRS 76 2 cv D.cache.length (caCells D.cache) Lc) (hc : D.cache.length < 1000000000000)
    (hS : St H0 B0 B ((b1, ⟨[ptr d 0], 24, .fix⟩) :: (d, ⟨[sl bb 0 (64 * D.n) (64 * D.n), cv, .int .i64 D.fuse, .bool D.down], 47, .fix⟩) :: (bb, ⟨byts D.bytes, 5, .fix⟩) :: (Lc ++ L)) H) :
    Ev (fun k _ => rn k 28 [ptr b1 0] H) (DkP H0 B0 B L (ptr d 0) (.tuple #[]) D.flush) := by
  refine Ev.fn (fun k => f28_eq k _ H) ?_
  have hcell := hG.cell
  repeat (first | refine Ev.s ?_ | refine Ev.newC fun _ _ _ => ?_ | refine Ev.boxC fun _ _ _ => ?_ | refine Ev.stC fun _ _ => ?_ | refine Ev.sc (by omega) ?_ | refine Ev.scg (by omega) ?_)
  refine Ev.prim (hG.len (Und.eq (P := Tryd.prog) (t := 45))) ?_
  refine Ev.bind (Ev.loop (barrier_loop hO hG hc D.cache.length 0 B H (by omega) hS)) ?_
  rintro _ ⟨B', H', rfl, hm, hS'⟩
  refine Ev.eq (fun k _ => f28_A0_x0 k _ _) ?_
  clear hS
  repeat (first | refine Ev.s ?_ | refine Ev.newC fun _ _ _ => ?_ | refine Ev.boxC fun _ _ _ => ?_ | refine Ev.stC fun _ _ => ?_ | refine Ev.sc (by omega) ?_ | refine Ev.scg (by omega) ?_)
  rename_i H1 hS1
  have hS2 := (toFront (X := Lc) (La := [(b1, _), (d, _), (bb, _)]) (L := L) hS1)
  refine Ev.ret ⟨rfl, _, B', hm, ⟨d, bb, _, [], rfl, .inl ⟨rfl, rfl, .inl rfl, rfl⟩, rfl⟩, ?_⟩
  have hS3 : St H0 B0 B' ([(b1, _), (d, _), (bb, _)] ++ L) H1 := hS2.drop (List.sublist_append_right _ _)
  exact hS3.drop1
theorem Barrier_spec {p : Value} {D : Dsk} {Ls : List (Nat × Blk)} (hD : DK p D Ls) (hO : D.OK) (hc : D.cache.length < 1000000000000) (hS : St H0 B0 B (Ls ++ L) H) :
    Ev (fun k _ => rn k 17 [p] H) (DkP H0 B0 B L p (.int .i64 D.barrier.1) D.barrier.2) := by
  have hD0 := hD
  obtain ⟨n, bytes, cache, fu, dn⟩ := D
  obtain ⟨d, bb, cv, Lc, rfl, hG, rfl⟩ := hD
  have hfu := hO.fu
  dsimp only at hS hc hfu hG hD0
  simp only [List.cons_append] at hS
  have hcell := hG.cell
  refine Ev.fn (fun k => f17_eq k _ H) ?_
  repeat (first | refine Ev.s ?_ | refine Ev.newC fun _ _ _ => ?_ | refine Ev.boxC fun _ _ _ => ?_ | refine Ev.stC fun _ _ => ?_ | refine Ev.sc (by omega) ?_ | refine Ev.scg (by omega) ?_)
  rename_i b1 H1 hS1
  unfold Dsk.barrier
  dsimp only
  cases dn with
  | true =>
    repeat (first | refine Ev.s ?_ | refine Ev.newC fun _ _ _ => ?_ | refine Ev.boxC fun _ _ _ => ?_ | refine Ev.stC fun _ _ => ?_ | refine Ev.sc (by omega) ?_ | refine Ev.scg (by omega) ?_)
    exact Ev.ret ⟨rfl, _, B, ⟨Mo.refl B⟩, hD0, hS1.drop1⟩
  | false =>
    repeat (first | refine Ev.s ?_ | refine Ev.newC fun _ _ _ => ?_ | refine Ev.boxC fun _ _ _ => ?_ | refine Ev.stC fun _ _ => ?_ | refine Ev.sc (by omega) ?_ | refine Ev.scg (by omega) ?_)
    rw [if_neg (fun h => by cases h)]
    rw [show (fun k n : Nat => AM.b2 (rn k 27 [ptr d 0, .func (.func 28) #[] #[ptr b1 0]] H1) fun v20 h20 => some (v20, h20)) = fun k n => rn k 27 [ptr d 0, .func (.func 28) #[] #[ptr b1 0]] H1 from funext fun k => funext fun _ => b2_id _]
    refine act_spec hfu (hS1.perm (List.Perm.swap _ _ _)) (fun h0 H' hS' => ?_) (fun h0 H' hS' => ?_)
    · unfold Dsk.act
      dsimp only
      rw [if_pos h0]
      exact ⟨rfl, _, B, ⟨Mo.refl B⟩, ⟨d, bb, cv, Lc, rfl, hG, rfl⟩, (hS'.perm (List.Perm.swap _ _ _)).drop1⟩
    · unfold Dsk.act
      dsimp only
      rw [if_neg h0]
      simp only [callY_fn (show 28 < yOff by unfold yOff; omega)]
      refine (Barrier1_spec (D := ⟨n, bytes, cache, max (fu - 1) (-1), false⟩) hO.actD hG hc (hS'.perm (List.Perm.swap _ _ _))).mono ?_
      rintro ⟨v, H2⟩ ⟨_, hq⟩
      exact ⟨rfl, hq⟩
end
end Go.AM.W
set_option linter.unusedVariables false
set_option linter.unusedSimpArgs false
set_option maxRecDepth 100000
namespace Go.AM.W
open Go Go.AM Go.Proofs
attribute [local irreducible] run bin un ld st box newV mkS fldA fld ixA ix slc slc3 build buildS cv cvS ap cpy lenV gOp pickV b2 aIf aChk evalK resume iterD Option.bind

section
variable {B B0 H0 H : AH} {L : List (Nat × Blk)}
theorem callV_fn {k : Nat} {g : FuncId} {xs ys : List Value} {args : List Value} {H : AH} (hg : g < yOff) : callV (rn k) (.func (.func g) ⟨xs⟩ ⟨ys⟩) args H = rn k g (xs ++ (args ++ ys)) H := by
  unfold callV
  simp only [show Nat.blt g yOff = true by rw [Nat.blt_eq]; exact hg, cond_true]
abbrev RdT9 (b1 b2 b3 : Nat) : List Value := f47_T_R0 (ptr b1 0) (ptr b2 0) (ptr b3 0)
theorem read_loop {b bx b1 b2 b3 i : Nat} {cv : Value} {cache : List (Nat × List UInt8)} {Lc : List (Nat × Blk)} (hG : GRS 76 2 cv cache.length (caCells cache) Lc) (hc : cache.length < 1000000000000) :
    ∀ (m : Nat) (B H : AH), m ≤ cache.length → St H0 B0 B ((b, ⟨.int .i64 (0 : Nat) :: RdT9 b1 b2 b3, 7, .loop 47 7⟩) :: (bx, ⟨[cv], 45, .fix⟩) :: (b3, ⟨[.int .i64 0], 25, .fix⟩) :: (b2, ⟨[.string ByteArray.empty], 9, .fix⟩) :: (b1, ⟨[i64 i], 3, .fix⟩) :: (Lc ++ L)) H →
    Ev (fun k K => f61_L0 k (.func (.yield b) #[] #[]) (ptr bx 0) (.int .i64 ((m : Int) - 1)) K H) (fun o => ∃ B' H', MoC B B' ∧
      ((find (cache.take m) i = none ∧ o = (.exit 0, f61_X_L0, H') ∧ St H0 B0 B' ((b, ⟨.int .i64 (xSt .normal : Nat) :: RdT9 b1 b2 b3, 7, .loop 47 7⟩) :: (bx, ⟨[cv], 45, .fix⟩) :: (b3, ⟨[.int .i64 0], 25, .fix⟩) :: (b2, ⟨[.string ByteArray.empty], 9, .fix⟩) :: (b1, ⟨[i64 i], 3, .fix⟩) :: (Lc ++ L)) H') ∨
       ∃ s, find (cache.take m) i = some s ∧ o = (.ret, f61_X_L0, H') ∧ St H0 B0 B' ((b, ⟨.int .i64 (xSt .ret : Nat) :: RdT9 b1 b2 b3, 7, .loop 47 7⟩) :: (bx, ⟨[cv], 45, .fix⟩) :: (b3, ⟨[.int .i64 0], 25, .fix⟩) :: (b2, ⟨[str s], 9, .fix⟩) :: (b1, ⟨[i64 i], 3, .fix⟩) :: (Lc ++ L)) H')) := by
  intro m
  induction m with
  | zero =>
    intro B H hm hS
    refine Ev.succ (fun k K => f61_L0_succ k _ _ _ K H) ?_
    repeat (first | refine Ev.s ?_ | refine Ev.newC fun _ _ _ => ?_ | refine Ev.boxC fun _ _ _ => ?_ | refine Ev.stC fun _ _ => ?_ | refine Ev.sc (by omega) ?_ | refine Ev.scg (by omega) ?_)
    rw [decide_eq_false (by omega)]
    repeat (first | refine Ev.s ?_ | refine Ev.newC fun _ _ _ => ?_ | refine Ev.boxC fun _ _ _ => ?_ | refine Ev.stC fun _ _ => ?_ | refine Ev.sc (by omega) ?_ | refine Ev.scg (by omega) ?_)
    exact Ev.ret ⟨B, H, ⟨Mo.refl B⟩, .inl ⟨rfl, rfl, hS⟩⟩
  | succ m ih =>
    intro B H hm hS
    refine Ev.succ (fun k K => f61_L0_succ k _ _ _ K H) ?_
    rw [show ((m + 1 : Nat) : Int) - 1 = (m : Int) by omega]
    have hcell := hG.cell
    repeat (first | refine Ev.s ?_ | refine Ev.newC fun _ _ _ => ?_ | refine Ev.boxC fun _ _ _ => ?_ | refine Ev.stC fun _ _ => ?_ | refine Ev.sc (by omega) ?_ | refine Ev.scg (by omega) ?_)
    rw [decide_eq_true (by omega)]
    repeat (first | refine Ev.s ?_ | refine Ev.newC fun _ _ _ => ?_ | refine Ev.boxC fun _ _ _ => ?_ | refine Ev.stC fun _ _ => ?_ | refine Ev.sc (by omega) ?_ | refine Ev.scg (by omega) ?_)
    obtain ⟨⟨a, s⟩, ha, htk⟩ := take_ex (l := cache) (m := m) (by omega)
    have hN := hG.now hS (fun p hp => .tail _ (.tail _ (.tail _ (.tail _ (.tail _ (List.mem_append_left _ hp))))))
    obtain ⟨p, q1, q2⟩ := ScN.ldAt (P := Tryd.prog) (t := 45) (k := .i64) (i := m) hN (by omega) (AggOf.eq (P := Tryd.prog) (t := 76))
    rw [caCells_at ha] at q2
    refine Ev.prim q1 ?_
    refine Ev.prim q2 ?_
    rw [htk, find_snoc]
    refine Ev.b2 (Q1 := fun r => ∃ B', MoC B B' ∧ ((a ≠ i ∧ r.1 = .bool true ∧ St H0 B0 B' ((b, ⟨.int .i64 (0 : Nat) :: RdT9 b1 b2 b3, 7, .loop 47 7⟩) :: (bx, ⟨[cv], 45, .fix⟩) :: (b3, ⟨[.int .i64 0], 25, .fix⟩) :: (b2, ⟨[.string ByteArray.empty], 9, .fix⟩) :: (b1, ⟨[i64 i], 3, .fix⟩) :: (Lc ++ L)) r.2) ∨
        (a = i ∧ r.1 = .bool false ∧ St H0 B0 B' ((b, ⟨.int .i64 (xSt .ret : Nat) :: RdT9 b1 b2 b3, 7, .loop 47 7⟩) :: (bx, ⟨[cv], 45, .fix⟩) :: (b3, ⟨[.int .i64 0], 25, .fix⟩) :: (b2, ⟨[str s], 9, .fix⟩) :: (b1, ⟨[i64 i], 3, .fix⟩) :: (Lc ++ L)) r.2)))
      (Ev.fn (fun k => f47_Y0_eq k _ _ _ _ _ b H (hS.get (.head _))) ?_) ?_
    · repeat (first | refine Ev.s ?_ | refine Ev.newC fun _ _ _ => ?_ | refine Ev.boxC fun _ _ _ => ?_ | refine Ev.stC fun _ _ => ?_ | refine Ev.sc (by omega) ?_ | refine Ev.scg (by omega) ?_)
      rename_i bv H1 hS1 H2 hS2
      refine Ev.setSt (c := 0) (d := 1) hS2 (.tail _ (.head _)) (.tail _ (.head _)) fun H3 hS3 => ?_
      clear hS hS1 hS2 hN q1 q2
      repeat (first | refine Ev.s ?_ | refine Ev.newC fun _ _ _ => ?_ | refine Ev.boxC fun _ _ _ => ?_ | refine Ev.stC fun _ _ => ?_ | refine Ev.sc (by omega) ?_ | refine Ev.scg (by omega) ?_)
      by_cases hai : a = i
      · rw [decide_eq_true hai]
        repeat (first | refine Ev.s ?_ | refine Ev.newC fun _ _ _ => ?_ | refine Ev.boxC fun _ _ _ => ?_ | refine Ev.stC fun _ _ => ?_ | refine Ev.sc (by omega) ?_ | refine Ev.scg (by omega) ?_)
        rename_i H4 hS4 H5 hS5
        refine Ev.setSt (c := 1) (d := 2) hS5 (.tail _ (.head _)) (.tail _ (.head _)) fun H6 hS6 => ?_
        exact Ev.ret ⟨B, ⟨Mo.refl B⟩, .inr ⟨hai, rfl, hS6.drop1⟩⟩
      · rw [decide_eq_false hai]
        repeat (first | refine Ev.s ?_ | refine Ev.newC fun _ _ _ => ?_ | refine Ev.boxC fun _ _ _ => ?_ | refine Ev.stC fun _ _ => ?_ | refine Ev.sc (by omega) ?_ | refine Ev.scg (by omega) ?_)
        refine Ev.setSt (c := 1) (d := 0) hS3 (.tail _ (.head _)) (.tail _ (.head _)) fun H6 hS6 => ?_
        exact Ev.ret ⟨B, ⟨Mo.refl B⟩, .inl ⟨hai, rfl, hS6.drop1⟩⟩
    · rintro v H' ⟨B', hm1, ⟨hai, rfl, hS'⟩ | ⟨hai, rfl, hS'⟩⟩
      · rw [if_neg hai]
        clear hS
        repeat (first | refine Ev.s ?_ | refine Ev.newC fun _ _ _ => ?_ | refine Ev.boxC fun _ _ _ => ?_ | refine Ev.stC fun _ _ => ?_ | refine Ev.sc (by omega) ?_ | refine Ev.scg (by omega) ?_)
        refine Ev.prim (bin_sub64 (by omega)) ?_
        refine (ih B' H' (by omega) hS').mono ?_
        rintro o ⟨B2, H2, hm2, h⟩
        exact ⟨B2, H2, ⟨hm1.mo.trans hm2.mo⟩, h⟩
      · rw [if_pos hai]
        clear hS
        repeat (first | refine Ev.s ?_ | refine Ev.newC fun _ _ _ => ?_ | refine Ev.boxC fun _ _ _ => ?_ | refine Ev.stC fun _ _ => ?_ | refine Ev.sc (by omega) ?_ | refine Ev.scg (by omega) ?_)
        exact Ev.ret ⟨B', H', hm1, .inr ⟨s, rfl, rfl, hS'⟩⟩
theorem Read_spec {p : Value} {D : Dsk} {Ls : List (Nat × Blk)} {i : Int} (hD : DK p D Ls) (hO : D.OK) (hc : D.cache.length < 1000000000000) (hS : St H0 B0 B (Ls ++ L) H) :
    Ev (fun k _ => rn k 47 [p, .int .i64 i] H) (fun r => r.1 = .tuple #[str (D.read i).1, .int .i64 (D.read i).2] ∧ ∃ B', MoC B B' ∧ St H0 B0 B' (Ls ++ L) r.2) := by
  have hD0 := hD
  obtain ⟨n, bytes, cache, fu, dn⟩ := D
  obtain ⟨d, bb, cv, Lc, rfl, hG, rfl⟩ := hD
  have h1 := hO.n1
  have h2 := hO.n2
  have hlen := hO.len
  dsimp only at hS hc hG hD0 h1 h2 hlen
  simp only [List.cons_append] at hS ⊢
  have hcell := hG.cell
  refine Ev.fn (fun k => f47_eq k _ _ H) ?_
  repeat (first | refine Ev.s ?_ | refine Ev.newC fun _ _ _ => ?_ | refine Ev.boxC fun _ _ _ => ?_ | refine Ev.stC fun _ _ => ?_ | refine Ev.sc (by omega) ?_ | refine Ev.scg (by omega) ?_)
  rename_i b1 H1 hS1 b2 H2 hS2 b3 H3 hS3
  unfold Dsk.read
  dsimp only
  cases dn with
  | true =>
    clear hS hS1 hS2
    repeat (first | refine Ev.s ?_ | refine Ev.newC fun _ _ _ => ?_ | refine Ev.boxC fun _ _ _ => ?_ | refine Ev.stC fun _ _ => ?_ | refine Ev.sc (by omega) ?_ | refine Ev.scg (by omega) ?_)
    rename_i H4 hS4 H5 hS5
    exact Ev.ret ⟨rfl, B, ⟨Mo.refl B⟩, drop_3 hS5⟩
  | false =>
    clear hS hS1 hS2
    repeat (first | refine Ev.s ?_ | refine Ev.newC fun _ _ _ => ?_ | refine Ev.boxC fun _ _ _ => ?_ | refine Ev.stC fun _ _ => ?_ | refine Ev.sc (by omega) ?_ | refine Ev.scg (by omega) ?_)
    rw [if_neg (fun h => by cases h)]
    by_cases hi : i < 0
    · rw [decide_eq_true hi, if_pos (.inl hi)]
      repeat (first | refine Ev.s ?_ | refine Ev.newC fun _ _ _ => ?_ | refine Ev.boxC fun _ _ _ => ?_ | refine Ev.stC fun _ _ => ?_ | refine Ev.sc (by omega) ?_ | refine Ev.scg (by omega) ?_)
      rename_i H4 hS4 H5 hS5
      exact Ev.ret ⟨rfl, B, ⟨Mo.refl B⟩, drop_3 hS5⟩
    rw [decide_eq_false hi]
    obtain ⟨q, rfl⟩ : ∃ q : Nat, i = q := ⟨i.toNat, by omega⟩
    repeat (first | refine Ev.s ?_ | refine Ev.newC fun _ _ _ => ?_ | refine Ev.boxC fun _ _ _ => ?_ | refine Ev.stC fun _ _ => ?_ | refine Ev.sc (by omega) ?_ | refine Ev.scg (by omega) ?_)
    refine Ev.b2 (Sectors_spec hD0 hO hS3 ?_) ?_
    · intro x hx
      exact .tail _ (.tail _ (.tail _ (by rw [← List.cons_append, ← List.cons_append]; exact List.mem_append_left _ hx)))
    rintro _ _ ⟨rfl, rfl⟩
    repeat (first | refine Ev.s ?_ | refine Ev.newC fun _ _ _ => ?_ | refine Ev.boxC fun _ _ _ => ?_ | refine Ev.stC fun _ _ => ?_ | refine Ev.sc (by omega) ?_ | refine Ev.scg (by omega) ?_)
    by_cases hq : n ≤ q
    · rw [decide_eq_true hq, if_pos (.inr (by omega))]
      repeat (first | refine Ev.s ?_ | refine Ev.newC fun _ _ _ => ?_ | refine Ev.boxC fun _ _ _ => ?_ | refine Ev.stC fun _ _ => ?_ | refine Ev.sc (by omega) ?_ | refine Ev.scg (by omega) ?_)
      rename_i H4 hS4 H5 hS5
      exact Ev.ret ⟨rfl, B, ⟨Mo.refl B⟩, drop_3 hS5⟩
    rw [decide_eq_false hq, if_neg (by omega)]
    repeat (first | refine Ev.s ?_ | refine Ev.newC fun _ _ _ => ?_ | refine Ev.boxC fun _ _ _ => ?_ | refine Ev.stC fun _ _ => ?_ | refine Ev.sc (by omega) ?_ | refine Ev.scg (by omega) ?_)
    refine Ev.b2 (Q1 := fun r => ∃ bx, r.1 = .func (.func 61) #[] #[ptr bx 0] ∧ St H0 B0 B ((bx, ⟨[cv], 45, .fix⟩) :: (b3, ⟨[.int .i64 0], 25, .fix⟩) :: (b2, ⟨[.string ByteArray.empty], 9, .fix⟩) :: (b1, ⟨[i64 q], 3, .fix⟩) :: (d, ⟨[sl bb 0 (64 * n) (64 * n), cv, .int .i64 fu, .bool false], 47, .fix⟩) :: (bb, ⟨byts bytes, 5, .fix⟩) :: (Lc ++ L)) r.2)
      (Ev.fn (fun k => f55_eq k _ H3) ?_) ?_
    · repeat (first | refine Ev.s ?_ | refine Ev.newC fun _ _ _ => ?_ | refine Ev.boxC fun _ _ _ => ?_ | refine Ev.stC fun _ _ => ?_ | refine Ev.sc (by omega) ?_ | refine Ev.scg (by omega) ?_)
      rename_i bx H4 hS4
      exact Ev.ret ⟨bx, rfl, hS4⟩
    rintro _ H4 ⟨bx, rfl, hS4⟩
    simp only [callV_fn (show 61 < yOff by unfold yOff; omega), List.nil_append, List.cons_append]
    have hS5 := hS4.mkB' (.int .i64 0 :: RdT9 b1 b2 b3) 7 (.loop 47 7)
    clear hS3
    have hS6 := toFront (X := Lc) (La := [(H4.length, ⟨.int .i64 0 :: RdT9 b1 b2 b3, 7, .loop 47 7⟩), (bx, ⟨[cv], 45, .fix⟩), (b3, ⟨[.int .i64 0], 25, .fix⟩), (b2, ⟨[.string ByteArray.empty], 9, .fix⟩), (b1, ⟨[i64 q], 3, .fix⟩), (d, ⟨[sl bb 0 (64 * n) (64 * n), cv, .int .i64 fu, .bool false], 47, .fix⟩), (bb, ⟨byts bytes, 5, .fix⟩)]) (L := L) hS5
    have hS7 := toFront (X := [(H4.length, ⟨.int .i64 0 :: RdT9 b1 b2 b3, 7, .loop 47 7⟩), (bx, ⟨[cv], 45, .fix⟩), (b3, ⟨[.int .i64 0], 25, .fix⟩), (b2, ⟨[.string ByteArray.empty], 9, .fix⟩), (b1, ⟨[i64 q], 3, .fix⟩)]) (La := Lc) (L := [(d, ⟨[sl bb 0 (64 * n) (64 * n), cv, .int .i64 fu, .bool false], 47, .fix⟩), (bb, ⟨byts bytes, 5, .fix⟩)] ++ L) hS6
    simp only [List.cons_append, List.nil_append] at hS7
    clear hS4 hS5 hS6
    have key : Ev (fun k _ => rn k 61 [.func (.yield H4.length) #[] #[], ptr bx 0] (mkB H4 (.int .i64 0 :: RdT9 b1 b2 b3) 7 (.loop 47 7))) (fun r => ∃ B', MoC B B' ∧
        ((find cache q = none ∧ St H0 B0 B' ((H4.length, ⟨.int .i64 (xSt .normal : Nat) :: RdT9 b1 b2 b3, 7, .loop 47 7⟩) :: (bx, ⟨[cv], 45, .fix⟩) :: (b3, ⟨[.int .i64 0], 25, .fix⟩) :: (b2, ⟨[.string ByteArray.empty], 9, .fix⟩) :: (b1, ⟨[i64 q], 3, .fix⟩) :: (Lc ++ ([(d, ⟨[sl bb 0 (64 * n) (64 * n), cv, .int .i64 fu, .bool false], 47, .fix⟩), (bb, ⟨byts bytes, 5, .fix⟩)] ++ L))) r.2) ∨
         ∃ s, find cache q = some s ∧ St H0 B0 B' ((H4.length, ⟨.int .i64 (xSt .ret : Nat) :: RdT9 b1 b2 b3, 7, .loop 47 7⟩) :: (bx, ⟨[cv], 45, .fix⟩) :: (b3, ⟨[.int .i64 0], 25, .fix⟩) :: (b2, ⟨[str s], 9, .fix⟩) :: (b1, ⟨[i64 q], 3, .fix⟩) :: (Lc ++ ([(d, ⟨[sl bb 0 (64 * n) (64 * n), cv, .int .i64 fu, .bool false], 47, .fix⟩), (bb, ⟨byts bytes, 5, .fix⟩)] ++ L))) r.2)) := by
      refine Ev.fn (fun k => f61_eq k _ _ _) ?_
      repeat (first | refine Ev.s ?_ | refine Ev.newC fun _ _ _ => ?_ | refine Ev.boxC fun _ _ _ => ?_ | refine Ev.stC fun _ _ => ?_ | refine Ev.sc (by omega) ?_ | refine Ev.scg (by omega) ?_)
      refine Ev.prim (hG.len (Und.eq (P := Tryd.prog) (t := 45))) ?_
      refine Ev.prim (bin_sub64 (by omega)) ?_
      refine Ev.bind (Ev.loop (read_loop hG hc cache.length B _ (Nat.le_refl _) hS7)) ?_
      rw [List.take_length]
      rintro _ ⟨B', H', hm, ⟨hf, rfl, hS'⟩ | ⟨s, hf, rfl, hS'⟩⟩
      · refine Ev.eq (fun k _ => f61_A0_x0 k _) ?_
        exact Ev.ret ⟨B', hm, .inl ⟨hf, hS'⟩⟩
      · refine Ev.eq (fun k _ => f61_A0_ret k _) ?_
        exact Ev.ret ⟨B', hm, .inr ⟨s, hf, hS'⟩⟩
    refine Ev.b2 key ?_
    clear hS7
    rintro _ H5 ⟨B', hm, ⟨hf, hS'⟩ | ⟨s, hf, hS'⟩⟩
    · refine Ev.rgBack hS' fun H6 hS6 => ?_
      refine Ev.eq (fun k _ => f47_B0_normal k _ _ _ _ H6) ?_
      clear hS'
      have hS7 := hS6.perm (show ([(bx, _), (b3, _), (b2, _), (b1, _)] ++ ([(d, _), (bb, _)] ++ (Lc ++ L))).Perm _ from List.Perm.append_left _ (permA [(d, _), (bb, _)] Lc L).symm)
      simp only [List.cons_append, List.nil_append] at hS7
      clear hS6
      repeat (first | refine Ev.s ?_ | refine Ev.newC fun _ _ _ => ?_ | refine Ev.boxC fun _ _ _ => ?_ | refine Ev.stC fun _ _ => ?_ | refine Ev.sc (by omega) ?_ | refine Ev.scg (by omega) ?_)
      refine Ev.prim (slc_own2 (t := 44) (by omega)) ?_
      rw [if_neg (by omega)]
      refine Ev.prim (cvS_part (d := 9) (bs := bytes) hS7 (.tail _ (.tail _ (.tail _ (.tail _ (.tail _ (.head _)))))) (by omega) (by omega)) ?_
      repeat (first | refine Ev.s ?_ | refine Ev.newC fun _ _ _ => ?_ | refine Ev.boxC fun _ _ _ => ?_ | refine Ev.stC fun _ _ => ?_ | refine Ev.sc (by omega) ?_ | refine Ev.scg (by omega) ?_)
      rename_i H8 hS8 H9 hS9
      refine Ev.ret ⟨?_, B', hm, hS9.drop1.drop1.drop1.drop1⟩
      unfold Dsk.look Dsk.sector
      dsimp only
      rw [Int.toNat_natCast, hf]
      simp only [Option.getD_none, Nat.mul_comm 64 q, show (q + 1) * 64 - q * 64 = 64 by omega]
      rfl
    · refine Ev.rgBack hS' fun H6 hS6 => ?_
      refine Ev.eq (fun k _ => f47_B0_ret k _ _ _ _ H6) ?_
      clear hS'
      have hS7 := hS6.perm (show ([(bx, _), (b3, _), (b2, _), (b1, _)] ++ ([(d, _), (bb, _)] ++ (Lc ++ L))).Perm _ from List.Perm.append_left _ (permA [(d, _), (bb, _)] Lc L).symm)
      simp only [List.cons_append, List.nil_append] at hS7
      clear hS6
      repeat (first | refine Ev.s ?_ | refine Ev.newC fun _ _ _ => ?_ | refine Ev.boxC fun _ _ _ => ?_ | refine Ev.stC fun _ _ => ?_ | refine Ev.sc (by omega) ?_ | refine Ev.scg (by omega) ?_)
      refine Ev.ret ⟨?_, B', hm, hS7.drop1.drop1.drop1.drop1⟩
      unfold Dsk.look
      dsimp only
      rw [Int.toNat_natCast, hf]
      rfl
end
end Go.AM.W
set_option linter.unusedVariables false
set_option linter.unusedSimpArgs false
set_option maxRecDepth 100000
namespace Go.AM.W
open Go Go.AM Go.Proofs
attribute [local irreducible] run bin un ld st box newV mkS fldA fld ixA ix slc slc3 build buildS cv cvS ap cpy lenV gOp pickV b2 aIf aChk evalK resume iterD Option.bind

section
variable {B B0 H0 H : AH} {L : List (Nat × Blk)}
theorem pWrite_spec {p : Value} {D : Dsk} {Ls : List (Nat × Blk)} {n kind : Int} {t : List UInt8} (hD : DK p D Ls) (hO : D.OK) (hc : D.cache.length + 1 < 1000000000000) (ht : t.length < 9223372036854775808) (hk : -9223372036854775808 ≤ kind ∧ kind < 9223372036854775808) (hS : St H0 B0 B (Ls ++ L) H) :
    Ev (fun k _ => rn k 25 [p, .int .i64 n, .int .i64 kind, str t] H) (DkP H0 B0 B L p (.int .i64 (D.pwrite n kind t).1) (D.pwrite n kind t).2) := by
  refine Ev.fn (fun k => f25_eq k _ _ _ _ H) ?_
  refine Ev.b2 (Seal_spec ht hk hS) ?_
  rintro _ H1 ⟨rfl, B1, hm1, hS1⟩
  dsimp only at hS1
  clear hS
  unfold SealV Dsk.pwrite
  have hso := @sealR_ok kind t
  generalize sealR kind t = sr at hso
  obtain ⟨s, e⟩ := sr
  dsimp only at hso ⊢
  by_cases h0 : e = 0
  case neg =>
    rw [if_pos (.inl h0)]
    repeat (first | refine Ev.s ?_ | refine Ev.newC fun _ _ _ => ?_ | refine Ev.boxC fun _ _ _ => ?_ | refine Ev.stC fun _ _ => ?_ | refine Ev.sc (by omega) ?_ | refine Ev.scg (by omega) ?_)
    rw [decide_eq_true h0]
    repeat (first | refine Ev.s ?_ | refine Ev.newC fun _ _ _ => ?_ | refine Ev.boxC fun _ _ _ => ?_ | refine Ev.stC fun _ _ => ?_ | refine Ev.sc (by omega) ?_ | refine Ev.scg (by omega) ?_)
    exact Ev.ret ⟨rfl, Ls, B1, hm1, hD, hS1⟩
  by_cases h1 : n < 0
  · rw [if_pos (.inr (.inl h1))]
    repeat (first | (first | refine Ev.s ?_ | refine Ev.newC fun _ _ _ => ?_ | refine Ev.boxC fun _ _ _ => ?_ | refine Ev.stC fun _ _ => ?_ | refine Ev.sc (by omega) ?_ | refine Ev.scg (by omega) ?_) | rw [decide_eq_true (by omega)] | rw [decide_eq_false (by omega)])
    exact Ev.ret ⟨rfl, Ls, B1, hm1, hD, hS1⟩
  by_cases h2 : n > 1048576
  · rw [if_pos (.inr (.inr h2))]
    repeat (first | (first | refine Ev.s ?_ | refine Ev.newC fun _ _ _ => ?_ | refine Ev.boxC fun _ _ _ => ?_ | refine Ev.stC fun _ _ => ?_ | refine Ev.sc (by omega) ?_ | refine Ev.scg (by omega) ?_) | rw [decide_eq_true (by omega)] | rw [decide_eq_false (by omega)])
    exact Ev.ret ⟨rfl, Ls, B1, hm1, hD, hS1⟩
  rw [if_neg (by omega)]
  obtain ⟨m, rfl⟩ : ∃ m : Nat, n = m := ⟨n.toNat, by omega⟩
  have hsl : s.length = 128 := by
    obtain ⟨_, _, _, _, h5, h6⟩ := hso h0
    rw [h6, seal_len h5]
  rw [show (2 : Int) * (m : Int) = ((2 * m : Nat) : Int) by omega, show ((2 * m : Nat) : Int) + 1 = ((2 * m + 1 : Nat) : Int) by omega]
  repeat (first | (first | refine Ev.s ?_ | refine Ev.newC fun _ _ _ => ?_ | refine Ev.boxC fun _ _ _ => ?_ | refine Ev.stC fun _ _ => ?_ | refine Ev.sc (by omega) ?_ | refine Ev.scg (by omega) ?_) | rw [decide_eq_true (by omega)] | rw [decide_eq_false (by omega)])
  refine Ev.prim (show slc Tryd.prog 9 (str s) none (some (.int .i64 64)) = some (str (s.take 64)) from slc_strT (l := s) (i := 64) (by omega)) ?_
  refine Ev.b2 (Write_spec (i := ((2 * m : Nat) : Int)) hD hO (by omega) hS1) ?_
  have hwo := hO.write ((2 * m : Nat) : Int) (s.take 64)
  have hwc := write_cache D ((2 * m : Nat) : Int) (s.take 64)
  generalize D.write ((2 * m : Nat) : Int) (s.take 64) = w at hwo hwc
  obtain ⟨w1, w2⟩ := w
  dsimp only at hwo hwc ⊢
  rintro _ H2 ⟨rfl, Ls2, B2, hm2, hD2, hS2⟩
  dsimp only at hS2
  clear hS1
  by_cases hw : w1 = 0
  case neg =>
    rw [if_pos hw]
    repeat (first | refine Ev.s ?_ | refine Ev.newC fun _ _ _ => ?_ | refine Ev.boxC fun _ _ _ => ?_ | refine Ev.stC fun _ _ => ?_ | refine Ev.sc (by omega) ?_ | refine Ev.scg (by omega) ?_)
    rw [decide_eq_true hw]
    repeat (first | refine Ev.s ?_ | refine Ev.newC fun _ _ _ => ?_ | refine Ev.boxC fun _ _ _ => ?_ | refine Ev.stC fun _ _ => ?_ | refine Ev.sc (by omega) ?_ | refine Ev.scg (by omega) ?_)
    exact Ev.ret ⟨rfl, Ls2, B2, ⟨hm1.mo.trans hm2.mo⟩, hD2, hS2⟩
  rw [if_neg (by simpa using hw)]
  repeat (first | refine Ev.s ?_ | refine Ev.newC fun _ _ _ => ?_ | refine Ev.boxC fun _ _ _ => ?_ | refine Ev.stC fun _ _ => ?_ | refine Ev.sc (by omega) ?_ | refine Ev.scg (by omega) ?_)
  rw [decide_eq_false (by simpa using hw)]
  repeat (first | (first | refine Ev.s ?_ | refine Ev.newC fun _ _ _ => ?_ | refine Ev.boxC fun _ _ _ => ?_ | refine Ev.stC fun _ _ => ?_ | refine Ev.sc (by omega) ?_ | refine Ev.scg (by omega) ?_) | rw [decide_eq_true (by omega)] | rw [decide_eq_false (by omega)])
  refine Ev.prim (show slc Tryd.prog 9 (str s) (some (.int .i64 64)) none = some (str (s.drop 64)) from slc_str (l := s) 64 rfl (by omega)) ?_
  refine Ev.b2 (Write_spec (i := ((2 * m + 1 : Nat) : Int)) hD2 hwo (by omega) hS2) ?_
  rintro _ H3 ⟨rfl, Ls3, B3, hm3, hD3, hS3⟩
  exact Ev.ret ⟨rfl, Ls3, B3, ⟨hm1.mo.trans (hm2.mo.trans hm3.mo)⟩, hD3, hS3⟩
theorem pRead_spec {p : Value} {D : Dsk} {Ls : List (Nat × Blk)} {n : Int} (hD : DK p D Ls) (hO : D.OK) (hc : D.cache.length < 1000000000000) (hS : St H0 B0 B (Ls ++ L) H) :
    Ev (fun k _ => rn k 40 [p, .int .i64 n] H) (fun r => r.1 = OpenV (D.pread n) ∧ ∃ B', MoC B B' ∧ St H0 B0 B' (Ls ++ L) r.2) := by
  refine Ev.fn (fun k => f40_eq k _ _ H) ?_
  unfold Dsk.pread
  by_cases h1 : n < 0
  · rw [if_pos (.inl h1)]
    repeat (first | (first | refine Ev.s ?_ | refine Ev.newC fun _ _ _ => ?_ | refine Ev.boxC fun _ _ _ => ?_ | refine Ev.stC fun _ _ => ?_ | refine Ev.sc (by omega) ?_ | refine Ev.scg (by omega) ?_) | rw [decide_eq_true (by omega)] | rw [decide_eq_false (by omega)])
    exact Ev.ret ⟨rfl, B, ⟨Mo.refl B⟩, hS⟩
  by_cases h2 : n > 1048576
  · rw [if_pos (.inr h2)]
    repeat (first | (first | refine Ev.s ?_ | refine Ev.newC fun _ _ _ => ?_ | refine Ev.boxC fun _ _ _ => ?_ | refine Ev.stC fun _ _ => ?_ | refine Ev.sc (by omega) ?_ | refine Ev.scg (by omega) ?_) | rw [decide_eq_true (by omega)] | rw [decide_eq_false (by omega)])
    exact Ev.ret ⟨rfl, B, ⟨Mo.refl B⟩, hS⟩
  rw [if_neg (by omega)]
  obtain ⟨m, rfl⟩ : ∃ m : Nat, n = m := ⟨n.toNat, by omega⟩
  rw [show (2 : Int) * (m : Int) = ((2 * m : Nat) : Int) by omega, show ((2 * m : Nat) : Int) + 1 = ((2 * m + 1 : Nat) : Int) by omega]
  repeat (first | (first | refine Ev.s ?_ | refine Ev.newC fun _ _ _ => ?_ | refine Ev.boxC fun _ _ _ => ?_ | refine Ev.stC fun _ _ => ?_ | refine Ev.sc (by omega) ?_ | refine Ev.scg (by omega) ?_) | rw [decide_eq_true (by omega)] | rw [decide_eq_false (by omega)])
  have h64a := read_len hO ((2 * m : Nat) : Int)
  have h64b := read_len hO ((2 * m + 1 : Nat) : Int)
  have key : Ev (fun k K => f40_L0 k p (i64 m) (str []) (i64 0) K H) (fun o => ∃ B' H', MoC B B' ∧ St H0 B0 B' (Ls ++ L) H' ∧
      (((D.read ((2 * m : Nat) : Int)).2 ≠ 0 ∧ o = (.ret, f40_X_L0 (.int .i64 0) (str []) (.int .i64 (D.read ((2 * m : Nat) : Int)).2) (str []), H'))
        ∨ ((D.read ((2 * m : Nat) : Int)).2 = 0 ∧ (D.read ((2 * m + 1 : Nat) : Int)).2 ≠ 0 ∧ o = (.ret, f40_X_L0 (.int .i64 0) (str []) (.int .i64 (D.read ((2 * m + 1 : Nat) : Int)).2) (str (D.read ((2 * m : Nat) : Int)).1), H'))
        ∨ ((D.read ((2 * m : Nat) : Int)).2 = 0 ∧ (D.read ((2 * m + 1 : Nat) : Int)).2 = 0 ∧ o = (.exit 0, f40_X_L0 unk unk unk (str ((D.read ((2 * m : Nat) : Int)).1 ++ (D.read ((2 * m + 1 : Nat) : Int)).1)), H')))) := by
    refine Ev.succ (fun k K => f40_L0_succ k _ _ _ _ K H) ?_
    repeat (first | (first | refine Ev.s ?_ | refine Ev.newC fun _ _ _ => ?_ | refine Ev.boxC fun _ _ _ => ?_ | refine Ev.stC fun _ _ => ?_ | refine Ev.sc (by omega) ?_ | refine Ev.scg (by omega) ?_) | rw [decide_eq_true (by omega)] | rw [decide_eq_false (by omega)])
    refine Ev.b2 (Read_spec (i := ((2 * m : Nat) : Int)) hD hO hc (by exact hS)) ?_
    generalize D.read ((2 * m : Nat) : Int) = ra at h64a
    generalize hrb : D.read ((2 * m + 1 : Nat) : Int) = rb at h64b
    obtain ⟨a, ea⟩ := ra
    obtain ⟨b, eb⟩ := rb
    try dsimp only at h64a h64b ⊢
    rintro _ H1 ⟨rfl, B1, hm1, hS1⟩
    try dsimp only at hS1
    clear hS
    repeat (first | refine Ev.s ?_ | refine Ev.newC fun _ _ _ => ?_ | refine Ev.boxC fun _ _ _ => ?_ | refine Ev.stC fun _ _ => ?_ | refine Ev.sc (by omega) ?_ | refine Ev.scg (by omega) ?_)
    by_cases he : ea = 0
    case neg =>
      rw [decide_eq_true he]
      repeat (first | refine Ev.s ?_ | refine Ev.newC fun _ _ _ => ?_ | refine Ev.boxC fun _ _ _ => ?_ | refine Ev.stC fun _ _ => ?_ | refine Ev.sc (by omega) ?_ | refine Ev.scg (by omega) ?_)
      exact Ev.ret ⟨B1, H1, hm1, hS1, .inl ⟨he, rfl⟩⟩
    rw [decide_eq_false (by simpa using he)]
    repeat (first | refine Ev.s ?_ | refine Ev.newC fun _ _ _ => ?_ | refine Ev.boxC fun _ _ _ => ?_ | refine Ev.stC fun _ _ => ?_ | refine Ev.sc (by omega) ?_ | refine Ev.scg (by omega) ?_)
    refine Ev.prim (show bin Tryd.prog .add 9 (str []) (str a) = some (str a) from add_str (a := []) (b := a) (by simp; omega)) ?_
    repeat (first | refine Ev.s ?_ | refine Ev.newC fun _ _ _ => ?_ | refine Ev.boxC fun _ _ _ => ?_ | refine Ev.stC fun _ _ => ?_ | refine Ev.sc (by omega) ?_ | refine Ev.scg (by omega) ?_)
    refine Ev.succ (fun k K => f40_L0_succ k _ _ _ _ K H1) ?_
    repeat (first | (first | refine Ev.s ?_ | refine Ev.newC fun _ _ _ => ?_ | refine Ev.boxC fun _ _ _ => ?_ | refine Ev.stC fun _ _ => ?_ | refine Ev.sc (by omega) ?_ | refine Ev.scg (by omega) ?_) | rw [decide_eq_true (by omega)] | rw [decide_eq_false (by omega)])
    refine Ev.b2 (Read_spec (i := ((2 * m + 1 : Nat) : Int)) hD hO hc (by exact hS1)) ?_
    rw [hrb]
    rintro _ H2 ⟨rfl, B2, hm2, hS2⟩
    dsimp only at hS2
    clear hS1
    repeat (first | refine Ev.s ?_ | refine Ev.newC fun _ _ _ => ?_ | refine Ev.boxC fun _ _ _ => ?_ | refine Ev.stC fun _ _ => ?_ | refine Ev.sc (by omega) ?_ | refine Ev.scg (by omega) ?_)
    by_cases he2 : eb = 0
    case neg =>
      rw [decide_eq_true he2]
      repeat (first | refine Ev.s ?_ | refine Ev.newC fun _ _ _ => ?_ | refine Ev.boxC fun _ _ _ => ?_ | refine Ev.stC fun _ _ => ?_ | refine Ev.sc (by omega) ?_ | refine Ev.scg (by omega) ?_)
      exact Ev.ret ⟨B2, H2, ⟨hm1.mo.trans hm2.mo⟩, hS2, .inr (.inl ⟨he, he2, rfl⟩)⟩
    rw [decide_eq_false (by simpa using he2)]
    repeat (first | refine Ev.s ?_ | refine Ev.newC fun _ _ _ => ?_ | refine Ev.boxC fun _ _ _ => ?_ | refine Ev.stC fun _ _ => ?_ | refine Ev.sc (by omega) ?_ | refine Ev.scg (by omega) ?_)
    refine Ev.prim (add_str (a := a) (b := b) (by omega)) ?_
    repeat (first | refine Ev.s ?_ | refine Ev.newC fun _ _ _ => ?_ | refine Ev.boxC fun _ _ _ => ?_ | refine Ev.stC fun _ _ => ?_ | refine Ev.sc (by omega) ?_ | refine Ev.scg (by omega) ?_)
    refine Ev.succ (fun k K => f40_L0_succ k _ _ _ _ K H2) ?_
    repeat (first | (first | refine Ev.s ?_ | refine Ev.newC fun _ _ _ => ?_ | refine Ev.boxC fun _ _ _ => ?_ | refine Ev.stC fun _ _ => ?_ | refine Ev.sc (by omega) ?_ | refine Ev.scg (by omega) ?_) | rw [decide_eq_true (by omega)] | rw [decide_eq_false (by omega)])
    exact Ev.ret ⟨B2, H2, ⟨hm1.mo.trans hm2.mo⟩, hS2, .inr (.inr ⟨he, he2, rfl⟩)⟩
  refine Ev.bind (Ev.loop key) ?_
  generalize D.read ((2 * m : Nat) : Int) = ra at h64a
  generalize D.read ((2 * m + 1 : Nat) : Int) = rb at h64b
  obtain ⟨a, ea⟩ := ra
  obtain ⟨b, eb⟩ := rb
  try dsimp only at h64a h64b ⊢
  rintro o ⟨B1, H1, hm1, hS1, ⟨he, rfl⟩ | ⟨he, he2, rfl⟩ | ⟨he, he2, rfl⟩⟩
  · rw [if_pos he]
    refine Ev.eq (fun k _ => f40_A0_ret k _ _ _ _ H1) ?_
    exact Ev.ret ⟨rfl, B1, hm1, hS1⟩
  · rw [if_neg (by simpa using he), if_pos he2]
    refine Ev.eq (fun k _ => f40_A0_ret k _ _ _ _ H1) ?_
    exact Ev.ret ⟨rfl, B1, hm1, hS1⟩
  rw [if_neg (by simpa using he), if_neg (by simpa using he2)]
  refine Ev.eq (fun k _ => f40_A0_x0 k _ _ _ _ H1) ?_
  refine Ev.b2 (Open_spec (b := a ++ b) (by rw [List.length_append]; omega) hS1) ?_
  rintro _ H2 ⟨rfl, B2, hm2, hS2⟩
  dsimp only at hS2
  unfold OpenV
  repeat (first | refine Ev.s ?_ | refine Ev.newC fun _ _ _ => ?_ | refine Ev.boxC fun _ _ _ => ?_ | refine Ev.stC fun _ _ => ?_ | refine Ev.sc (by omega) ?_ | refine Ev.scg (by omega) ?_)
  exact Ev.ret ⟨rfl, B2, ⟨hm1.mo.trans hm2.mo⟩, hS2⟩
end
end Go.AM.W
set_option linter.unusedVariables false
set_option linter.unusedSimpArgs false
namespace Go.AM
instance {p : Option Nat} : IsCell (.map p) := ⟨rfl⟩
def intV (l : List Int) : List Value := l.map fun n => .int .i64 n
theorem intV_len (l : List Int) : (intV l).length = l.length := by simp [intV]
theorem intV_snoc (l : List Int) (x : Int) : intV (l ++ [x]) = intV l ++ [.int .i64 x] := by simp [intV]
def FRS (e : TypeId) (v : Value) (l : List Int) (Lx : List (Nat × Blk)) : Prop :=
  (l = [] ∧ (v = .slice none 0 0 ∨ ∃ b off, v = sl b off 0 0) ∧ Lx = []) ∨
  (∃ b cap rest, v = sl b 0 l.length cap ∧ cap ≠ 0 ∧ l.length ≤ cap ∧ Lx = [(b, ⟨intV l ++ rest, e, .grow⟩)])
section
variable {P : Program} {R : Type} {e t : TypeId} {v : Value} {l : List Int} {Lx : List (Nat × Blk)} {H0 B0 B H : AH} {L : List (Nat × Blk)}
theorem FRS.nil : FRS e (.slice none 0 0) [] [] := .inl ⟨rfl, .inl rfl, rfl⟩
theorem FRS.cell (h : FRS e v l Lx) : IsCell v := by
  rcases h with ⟨_, rfl | ⟨b, off, rfl⟩, _⟩ | ⟨b, cap, rest, rfl, _⟩ <;> exact inferInstance
theorem FRS.len {e' : TypeId} (hU : P.underlying t = some (.slice e')) (h : FRS e v l Lx) : lenV P t v = some (i64 l.length) := by
  rcases h with ⟨rfl, rfl | ⟨b, off, rfl⟩, _⟩ | ⟨b, cap, rest, rfl, _⟩ <;> exact lenV_sl hU
theorem FRS.now {Ly : List (Nat × Blk)} (h : FRS e v l Lx) (hS : St H0 B0 B Ly H) (hsub : ∀ p ∈ Lx, p ∈ Ly) : ScN H v l.length 1 (intV l) := by
  rcases h with ⟨rfl, rfl | ⟨b, off, rfl⟩, rfl⟩ | ⟨b, cap, rest, rfl, h1, h2, rfl⟩
  · exact .inl ⟨rfl, rfl, rfl⟩
  · exact .inr ⟨b, off, 0, rfl, Nat.le_refl _, by simp [intV], .inl rfl⟩
  · refine .inr ⟨b, 0, cap, rfl, h2, by simp [intV_len], .inr ⟨_, hS.get (hsub _ (List.mem_singleton.2 rfl)), ?_⟩⟩
    unfold rdN
    rw [if_pos (by simp [intV_len]), List.drop_zero, Nat.mul_one, List.take_append_of_le_length (by simp [intV_len]), List.take_of_length_le (by simp [intV_len])]
theorem FRS.back {j : Nat} (hE : Elt P t e (.int .i64 0) 8) (h : FRS e v l Lx) (hj : j ≤ l.length) : ∃ v', slc P t v none (some (.int .i64 (j : Int))) = some v' ∧ FRS e v' (l.take j) Lx := by
  rcases h with ⟨rfl, hv, rfl⟩ | ⟨b, cap, rest, rfl, h1, h2, rfl⟩
  · have : j = 0 := by simpa using hj
    subst this
    rcases hv with rfl | ⟨b, off, rfl⟩
    · refine ⟨.slice none 0 0, ?_, .inl ⟨rfl, .inl rfl, rfl⟩⟩
      unfold slc; rw [hE.U]; simp only [intOr, Option.bind_some]
      rw [if_pos ⟨hE.I, rfl, rfl⟩]
    · refine ⟨sl b off 0 0, ?_, .inl ⟨rfl, .inr ⟨b, off, rfl⟩, rfl⟩⟩
      unfold slc sl; rw [hE.U]; simp only [intOr, Option.bind_some]
      rw [if_pos ⟨hE.I, by omega, by omega, by omega⟩]
      simp
  · have hlen : (l.take j).length = j := by rw [List.length_take]; omega
    refine ⟨sl b 0 j cap, ?_, .inr ⟨b, cap, intV (l.drop j) ++ rest, by rw [hlen], h1, by omega, ?_⟩⟩
    · unfold slc sl; rw [hE.U]; simp only [intOr, Option.bind_some]
      rw [if_pos ⟨hE.I, by omega, by omega, by omega⟩]
      simp [h1]
    · rw [← List.append_assoc]
      congr 4
      unfold intV
      rw [← List.map_append, List.take_append_drop]
theorem FRS.push {x : Int} {f : Nat → Nat → Value → AH → Option R} {Q : R → Prop} (hE : Elt P t e (.int .i64 0) 8) (h : FRS e v l Lx) (hS : St H0 B0 B (Lx ++ L) H) (hl : l.length + 1 ≤ 1000000000000)
    (hk : ∀ v' Lx' H', FRS e v' (l ++ [x]) Lx' → St H0 B0 B (Lx' ++ L) H' → Ev (fun k n => f k n v' H') Q) :
    Ev (fun k n => Go.AM.b2 (Go.AM.buildS P t H 1 [(0, .int .i64 x)]) fun w h => Go.AM.b2 (Go.AM.ap P t t h v w) (f k n)) Q := by
  have hb : Go.AM.buildS P t H 1 [(0, .int .i64 x)] = some (sl H.length 0 1 1, mkB H [.int .i64 x] e .fix) := by
    unfold Go.AM.buildS
    rw [hE.U]; simp only [hE.Z, Option.bind_some, hE.S]
    rw [if_pos ⟨by omega, rfl⟩]
    simp only [fillB, rep, List.append_nil, Nat.zero_mul]
    rw [if_pos ⟨rfl, by simp [Value.cells], rfl⟩]
    rfl
  refine Ev.prim2 hb ?_
  have hw : ScN (mkB H [.int .i64 x] e .fix) (sl H.length 0 1 1) 1 1 [.int .i64 x] := by
    refine .inr ⟨H.length, 0, 1, rfl, Nat.le_refl _, rfl, .inr ⟨_, blk_mkB_new, rfl⟩⟩
  have hES : EltS P t e [.int .i64 0] 1 8 := inferInstance
  have ha := ap_eqS (P := P) (t := t) (u := t) (s := v) hE.U hw rfl
  have hgk : gkl [Value.int .i64 0] = .grow := rfl
  rw [hgk] at ha
  have hS1 := (hS.mkB' [.int .i64 x] e .fix).drop1
  rcases h with ⟨rfl, hv, rfl⟩ | ⟨b, cap, rest, rfl, h1, h2, rfl⟩
  · refine Ev.prim2 (v := sl (mkB H [.int .i64 x] e .fix).length 0 1 2) (H := mkB (mkB H [.int .i64 x] e .fix) [.int .i64 x] e .grow) ?_ (hk _ [((mkB H [.int .i64 x] e .fix).length, ⟨[.int .i64 x], e, .grow⟩)] _ (.inr ⟨_, 2, [], rfl, by simp, by simp, rfl⟩) (hS1.mkB' _ _ _))
    rw [ha]
    rcases hv with rfl | ⟨b, off, rfl⟩
    · unfold apS
      try dsimp only
      rw [if_neg (by decide), if_pos (by decide)]
      rfl
    · unfold apS sl
      dsimp only
      rw [if_neg (by decide), if_pos rfl, if_pos (by decide)]
  · have hb1 := hS1.get (.head _)
    refine Ev.prim2 (v := sl (mkB H [.int .i64 x] e .fix).length 0 (l.length + 1) (l.length + 1 + 1)) (H := mkB (kill (mkB H [.int .i64 x] e .fix) b) (intV l ++ [.int .i64 x]) e .grow) ?_
      (hk _ [((mkB H [.int .i64 x] e .fix).length, ⟨intV (l ++ [x]), e, .grow⟩)] _ (.inr ⟨(mkB H [.int .i64 x] e .fix).length, l.length + 1 + 1, [], by rw [List.length_append]; rfl, by omega, by rw [List.length_append]; simp, by rw [List.append_nil]⟩) ?_)
    · rw [ha]
      unfold apS sl
      dsimp only
      rw [if_neg (by decide), if_neg h1, hb1, Option.bind_some]
      have hrd : rdN ⟨intV l ++ rest, e, .grow⟩ 0 (l.length * 1) = some (intV l) := by
        unfold rdN
        rw [if_pos (by simp [intV_len]), List.drop_zero, Nat.mul_one, List.take_append_of_le_length (by simp [intV_len]), List.take_of_length_le (by simp [intV_len])]
      rw [hrd, Option.bind_some, if_pos ⟨by omega, by omega, rfl⟩]
      dsimp only
      rw [if_pos rfl]
    · have := hS1.kill.mkB' (intV l ++ [.int .i64 x]) e .grow
      rw [length_kill, ← intV_snoc] at this
      rw [intV_snoc] at this
      rw [intV_snoc]
      exact this
end
structure Pgr where
  turn : Nat
  root : Int
  used : List Int
  fresh : List Int
  down : Bool
def mayR (U : List Int) (root : Int) : Bool := decide (root = 0) || decide (2 ≤ root) && decide (root ∈ U)
def Pgr.told (G : Pgr) (e : Int) : Pgr := { G with down := G.down || decide (e = 7) }
def hwrite (D : Dsk) (turn : Nat) (root : Int) (U : List Int) : Int × Dsk := D.pwrite ((turn % 2 : Nat) : Int) 1 (textH turn root U)
def Pgr.lay (G : Pgr) (D : Dsk) (root : Int) (U : List Int) : Int × Pgr × Dsk :=
  if D.barrier.1 ≠ 0 then (D.barrier.1, G.told D.barrier.1, D.barrier.2)
  else if (hwrite D.barrier.2 (G.turn + 1) root U).1 ≠ 0 then ((hwrite D.barrier.2 (G.turn + 1) root U).1, G.told (hwrite D.barrier.2 (G.turn + 1) root U).1, (hwrite D.barrier.2 (G.turn + 1) root U).2)
  else if (hwrite D.barrier.2 (G.turn + 1) root U).2.barrier.1 ≠ 0 then ((hwrite D.barrier.2 (G.turn + 1) root U).2.barrier.1, G.told (hwrite D.barrier.2 (G.turn + 1) root U).2.barrier.1, (hwrite D.barrier.2 (G.turn + 1) root U).2.barrier.2)
  else (0, ⟨G.turn + 1, root, U, [], G.down⟩, (hwrite D.barrier.2 (G.turn + 1) root U).2.barrier.2)
def Pgr.alloc (G : Pgr) (m : Nat) : Int × Int × Pgr :=
  if G.down = true then (0, 7, G) else
  match (List.range m).find? fun (n : Nat) => !decide ((n : Int) ∈ G.used) && !decide ((n : Int) ∈ G.fresh) with
  | some n => ((n : Int), 0, { G with fresh := G.fresh ++ [(n : Int)] })
  | none => (0, 6, G)
def Pgr.back (G : Pgr) (many : Int) : Pgr := { G with fresh := G.fresh.take many.toNat }
def Pgr.list (G : Pgr) (m : Nat) : List Int := ((List.range m).map fun (n : Nat) => (n : Int)).filter fun n => decide (n ∈ G.used)
def Pgr.write (G : Pgr) (D : Dsk) (n kind : Int) (t : List UInt8) : Int × Pgr × Dsk :=
  if G.down = true then (7, G, D) else if n ∉ G.fresh then (8, G, D) else ((D.pwrite n kind t).1, G.told (D.pwrite n kind t).1, (D.pwrite n kind t).2)
def Pgr.read (G : Pgr) (D : Dsk) (n : Int) : (Int × List UInt8 × Int) × Pgr :=
  if G.down = true then ((0, [], 7), G) else if n < 0 ∨ (D.n / 2 : Nat) ≤ n then ((0, [], 1), G) else (D.pread n, G.told (D.pread n).2.2)
def addAll (U : List Int) (l : List Int) : List Int := l.foldl insI U
def keepOK (U : List Int) (l : List Int) : Bool := l.all fun n => decide (2 ≤ n) && decide (n ∈ U)
def Pgr.keep (G : Pgr) (D : Dsk) (root : Int) (l : List Int) : Int × Pgr × Dsk :=
  if G.down = true then (7, G, D) else if G.fresh ≠ [] then (8, G, D) else if keepOK G.used l = false then (1, G, D) else if mayR (addAll [0, 1] l) root = false then (1, G, D) else G.lay D root (addAll [0, 1] l)
def Dsk.format (D : Dsk) : Int × Dsk :=
  if D.n / 2 < 4 then (1, D) else if (hwrite D 1 0 [0, 1]).1 ≠ 0 then hwrite D 1 0 [0, 1] else (hwrite D 1 0 [0, 1]).2.barrier
structure Pgr.OK (G : Pgr) (m : Nat) : Prop where
  mm : m ≤ 512
  nd : G.used.Nodup
  us : ∀ n ∈ G.used, 0 ≤ n ∧ n < m
  fr : ∀ n ∈ G.fresh, 0 ≤ n ∧ n < m
  fl : G.fresh.length ≤ m
  tu : G.turn < 281474976710655
  ro : 0 ≤ G.root ∧ G.root < 512
theorem st_dead {H0 B0 B X : AH} {L : List (Nat × Blk)} (h : St H0 B0 B L X) : St H0 B0 B L (X ++ [none]) := by
  have h1 := (h.mkB' [] 0 .fix).kill
  have e : kill (AM.mkB X [] 0 .fix) X.length = X ++ [none] := by
    unfold AM.kill AM.mkB
    rw [List.set_append_right _ _ (Nat.le_refl _), Nat.sub_self]; rfl
  rwa [e] at h1
section
variable {R : Type} {H0 B0 B H : AH} {L L' : List (Nat × Blk)}
theorem Ev.gText {hb mb b : Nat} {t r : Value} {T tm e : TypeId} {U : List Int} {cs : List Value} {f : Nat → Nat → AH → Option R} {Q : R → Prop} (hS : St H0 B0 B L H) (h1 : (hb, ⟨[t, r, .map (some mb)], T, .fix⟩) ∈ L) (h2 : (mb, ⟨entI U, tm, .map⟩) ∈ L)
    (hu : Upd b ⟨cs ++ List.replicate 64 (.int .u8 0), e, .fix⟩ ⟨cs ++ bmV U, e, .fix⟩ L L') (h3 : (b, ⟨cs ++ List.replicate 64 (.int .u8 0), e, .fix⟩) ∈ L) (hc : cs.length = 8) (hU : ∀ n ∈ U, 0 ≤ n ∧ n < 512)
    (h : ∀ H', St H0 B0 B L' H' → Ev (fun k n => f k n H') Q) : Ev (fun k n => (gText [ptr hb 0, sl b 0 72 72] H).bind (f k n)) Q := by
  have g1 := hS.get h1
  have g2 := hS.get h2
  have g3 := hS.get h3
  have hne : mb ≠ b := by rintro rfl; rw [g2] at g3; injection g3 with g3; injection g3 with _ _ g4; cases g4
  have e1 : AM.gText [ptr hb 0, sl b 0 72 72] H = some (put H b ⟨cs ++ List.replicate 64 (.int .u8 0), e, .fix⟩ (cs ++ bmV U) ++ [none]) := by
    have e0 : AM.gText [ptr hb 0, sl b 0 72 72] H = (((blk H hb).bind fun k => k.cells[2]?).bind fun mv => (gBits [mv, sl b 0 72 72] H).map fun H' => H' ++ [none]) := rfl
    rw [e0, g1, Option.bind_some]
    show Option.bind (some (Value.map (some mb))) _ = _
    rw [Option.bind_some]
    have e2 : gBits [.map (some mb), sl b 0 72 72] H = ((mapB H mb).bind fun km => (keysI km.cells).bind fun S => (blk H b).bind fun k =>
      aChk (mb ≠ b ∧ (∀ n ∈ S, 0 ≤ n ∧ n < 512) ∧ k.kind = .fix ∧ k.cells.length = 72 ∧ k.cells.drop 8 = List.replicate 64 (.int .u8 0)) (some (put H b k (k.cells.take 8 ++ bmV S)))) := rfl
    rw [e2]
    unfold mapB
    rw [g2, Option.bind_some, if_pos rfl, Option.bind_some, keysI_ent, Option.bind_some, g3, Option.bind_some]
    unfold aChk
    rw [if_pos ⟨hne, hU, rfl, by rw [List.length_append, hc]; simp, by rw [List.drop_append_of_le_length (by omega), ← hc, List.drop_length, List.nil_append]⟩]
    rw [List.take_append_of_le_length (by omega), ← hc, List.take_length]
    rfl
  refine Ev.prim e1 (h _ ?_)
  exact st_dead (hS.put (cs := cs ++ bmV U) hu)
end
end Go.AM
set_option linter.unusedVariables false
set_option linter.unusedSimpArgs false
set_option maxRecDepth 100000
namespace Go.AM.W
open Go Go.AM Go.Proofs
attribute [local irreducible] run bin un ld st box newV mkS fldA fld ixA ix slc slc3 build buildS cv cvS ap cpy lenV gOp pickV b2 aIf aChk evalK resume iterD Option.bind

section
variable {B B0 H0 H : AH} {L : List (Nat × Blk)}
abbrev FR := FRS 3
def PK (p dv : Value) (G : Pgr) (D : Dsk) (Ls : List (Nat × Blk)) : Prop := ∃ pb mb fv Lf Ld, p = ptr pb 0 ∧ DK dv D Ld ∧ FR fv G.fresh Lf ∧ Ls = (pb, ⟨[i64 G.turn, .int .i64 G.root, .map (some mb), dv, fv, .bool G.down], 53, .fix⟩) :: (mb, ⟨entI G.used, 49, .map⟩) :: (Lf ++ Ld)
/-- Behind a call that leaves a pager and its disk. -/
def PgP (H0 B0 B : AH) (L : List (Nat × Blk)) (p dv v : Value) (G : Pgr) (D : Dsk) (r : Value × AH) : Prop := r.1 = v ∧ ∃ Ls B', MoC B B' ∧ PK p dv G D Ls ∧ St H0 B0 B' (Ls ++ L) r.2
theorem eltI : Elt Tryd.prog 31 3 (.int .i64 0) 8 := inferInstance
theorem pages_spec {dv : Value} {D : Dsk} {Ls Lx : List (Nat × Blk)} (hD : DK dv D Ls) (hO : D.OK) (hS : St H0 B0 B Lx H) (hsub : ∀ x ∈ Ls, x ∈ Lx) :
    Ev (fun k _ => rn k 15 [dv] H) (fun r => r = (i64 (D.n / 2), H)) := by
  refine Ev.fn (fun k => f15_eq k _ H) ?_
  have h2 := hO.n2
  refine Ev.b2 (Sectors_spec hD hO hS hsub) ?_
  rintro v H1 h
  cases h
  repeat (first | (first | refine Ev.s ?_ | refine Ev.newC fun _ _ _ => ?_ | refine Ev.boxC fun _ _ _ => ?_ | refine Ev.stC fun _ _ => ?_ | refine Ev.sc (by omega) ?_ | refine Ev.scg (by omega) ?_) | rw [decide_eq_true (by omega)] | rw [decide_eq_false (by omega)])
  exact Ev.ret rfl
theorem Index_spec {v : Value} {l : List Int} {Lf Lx : List (Nat × Blk)} (x : Int) (hF : FR v l Lf) (hl : l.length < 1000000000000) (hS : St H0 B0 B Lx H) (hsub : ∀ p ∈ Lf, p ∈ Lx) :
    Ev (fun k _ => rn k 41 [v, .int .i64 x] H) (fun r => ∃ j : Int, r = (.int .i64 j, H) ∧ (0 ≤ j ↔ x ∈ l)) := by
  refine Ev.fn (fun k => f41_eq k _ _ H) ?_
  refine Ev.prim (hF.len (Und.eq (P := Tryd.prog) (t := 31))) ?_
  have hN := hF.now hS hsub
  have key : ∀ (m i : Nat), i + m = l.length → (∀ q, q < i → l[q]? ≠ some x) → Ev (fun k K => f41_L0 k v (.int .i64 x) (i64 l.length) (i64 i) K H)
      (fun o => (o = (.exit 0, f41_X_L0 unk, H) ∧ x ∉ l) ∨ (∃ j : Nat, o = (.ret, f41_X_L0 (i64 j), H) ∧ x ∈ l)) := by
    intro m
    induction m with
    | zero =>
      intro i hi hno
      refine Ev.succ (fun k K => f41_L0_succ k _ _ _ _ K H) ?_
      repeat (first | refine Ev.s ?_ | refine Ev.newC fun _ _ _ => ?_ | refine Ev.boxC fun _ _ _ => ?_ | refine Ev.stC fun _ _ => ?_ | refine Ev.sc (by omega) ?_ | refine Ev.scg (by omega) ?_)
      rw [decide_eq_false (by omega)]
      repeat (first | refine Ev.s ?_ | refine Ev.newC fun _ _ _ => ?_ | refine Ev.boxC fun _ _ _ => ?_ | refine Ev.stC fun _ _ => ?_ | refine Ev.sc (by omega) ?_ | refine Ev.scg (by omega) ?_)
      refine Ev.ret (.inl ⟨rfl, fun hx => ?_⟩)
      obtain ⟨q, hq⟩ := List.getElem?_of_mem hx
      exact hno q (by have := (List.getElem?_eq_some_iff.1 hq).1; omega) hq
    | succ m ih =>
      intro i hi hno
      refine Ev.succ (fun k K => f41_L0_succ k _ _ _ _ K H) ?_
      repeat (first | refine Ev.s ?_ | refine Ev.newC fun _ _ _ => ?_ | refine Ev.boxC fun _ _ _ => ?_ | refine Ev.stC fun _ _ => ?_ | refine Ev.sc (by omega) ?_ | refine Ev.scg (by omega) ?_)
      rw [decide_eq_true (by omega)]
      repeat (first | refine Ev.s ?_ | refine Ev.newC fun _ _ _ => ?_ | refine Ev.boxC fun _ _ _ => ?_ | refine Ev.stC fun _ _ => ?_ | refine Ev.sc (by omega) ?_ | refine Ev.scg (by omega) ?_)
      have hx : (intV l)[i]? = some (.int .i64 l[i]) := by unfold intV; rw [List.getElem?_map, List.getElem?_eq_getElem (by omega)]; rfl
      refine Ev.ixN (t := 31) hN i rfl (by omega) hx fun p hp => ?_
      refine Ev.prim (hp.eq H (Mo.refl H)) ?_
      repeat (first | refine Ev.s ?_ | refine Ev.newC fun _ _ _ => ?_ | refine Ev.boxC fun _ _ _ => ?_ | refine Ev.stC fun _ _ => ?_ | refine Ev.sc (by omega) ?_ | refine Ev.scg (by omega) ?_)
      by_cases he : x = l[i]
      · rw [decide_eq_true he]
        repeat (first | refine Ev.s ?_ | refine Ev.newC fun _ _ _ => ?_ | refine Ev.boxC fun _ _ _ => ?_ | refine Ev.stC fun _ _ => ?_ | refine Ev.sc (by omega) ?_ | refine Ev.scg (by omega) ?_)
        exact Ev.ret (.inr ⟨i, rfl, by rw [he]; exact List.getElem_mem _⟩)
      · rw [decide_eq_false he]
        repeat (first | (first | refine Ev.s ?_ | refine Ev.newC fun _ _ _ => ?_ | refine Ev.boxC fun _ _ _ => ?_ | refine Ev.stC fun _ _ => ?_ | refine Ev.sc (by omega) ?_ | refine Ev.scg (by omega) ?_) | rw [decide_eq_true (by omega)] | rw [decide_eq_false (by omega)])
        refine ih (i + 1) (by omega) fun q hq => ?_
        by_cases hqi : q = i
        · subst hqi; rw [List.getElem?_eq_getElem (by omega)]; intro h; exact he (Option.some.inj h).symm
        · exact hno q (by omega)
  refine Ev.bind (Ev.loop (key l.length 0 (by omega) fun q hq => by omega)) ?_
  rintro _ (⟨rfl, hx⟩ | ⟨j, rfl, hx⟩)
  · refine Ev.eq (fun k _ => f41_A0_x0 k _ H) ?_
    exact Ev.ret ⟨-1, rfl, by simp [hx]⟩
  · refine Ev.eq (fun k _ => f41_A0_ret k _ H) ?_
    exact Ev.ret ⟨j, rfl, by simp [hx]⟩
theorem Contains_spec {v : Value} {l : List Int} {Lf Lx : List (Nat × Blk)} (x : Int) (hF : FR v l Lf) (hl : l.length < 1000000000000) (hS : St H0 B0 B Lx H) (hsub : ∀ p ∈ Lf, p ∈ Lx) :
    Ev (fun k _ => rn k 35 [v, .int .i64 x] H) (fun r => r = (.bool (decide (x ∈ l)), H)) := by
  refine Ev.fn (fun k => f35_eq k _ _ H) ?_
  refine Ev.b2 (Index_spec x hF hl hS hsub) ?_
  rintro _ _ ⟨j, h, hj⟩
  cases h
  repeat (first | refine Ev.s ?_ | refine Ev.newC fun _ _ _ => ?_ | refine Ev.boxC fun _ _ _ => ?_ | refine Ev.stC fun _ _ => ?_ | refine Ev.sc (by omega) ?_ | refine Ev.scg (by omega) ?_)
  refine Ev.ret ?_
  rw [decide_eq_decide.2 hj]
theorem told_spec {pb : Nat} {tv rv mv dv fv : Value} {dn : Bool} {e : Int} {Lx Ly : List (Nat × Blk)} (hm : (pb, ⟨[tv, rv, mv, dv, fv, .bool dn], 53, .fix⟩) ∈ Lx) (hu : Upd pb ⟨[tv, rv, mv, dv, fv, .bool dn], 53, .fix⟩ ⟨[tv, rv, mv, dv, fv, .bool (dn || decide (e = 7))], 53, .fix⟩ Lx Ly) [IsCell tv] [IsCell rv] [IsCell mv] [IsCell dv] [IsCell fv] (hS : St H0 B0 B Lx H) :
    Ev (fun k _ => rn k 39 [ptr pb 0, .int .i64 e] H) (fun r => r.1 = .int .i64 e ∧ St H0 B0 B Ly r.2) := by
  have i1 : InL pb _ Lx := ⟨hm⟩
  refine Ev.fn (fun k => f39_eq k _ _ H) ?_
  cases dn with
  | true =>
    have i2 : UpL pb ⟨[tv, rv, mv, dv, fv, .bool true], 53, .fix⟩ ⟨[tv, rv, mv, dv, fv, .bool true], 53, .fix⟩ Lx Ly := ⟨hu⟩
    repeat (first | refine Ev.s ?_ | refine Ev.newC fun _ _ _ => ?_ | refine Ev.boxC fun _ _ _ => ?_ | refine Ev.stC fun _ _ => ?_ | refine Ev.sc (by omega) ?_ | refine Ev.scg (by omega) ?_)
    exact Ev.ret ⟨rfl, by assumption⟩
  | false =>
    have i2 : UpL pb ⟨[tv, rv, mv, dv, fv, .bool false], 53, .fix⟩ ⟨[tv, rv, mv, dv, fv, .bool (decide (e = 7))], 53, .fix⟩ Lx Ly := ⟨hu⟩
    repeat (first | refine Ev.s ?_ | refine Ev.newC fun _ _ _ => ?_ | refine Ev.boxC fun _ _ _ => ?_ | refine Ev.stC fun _ _ => ?_ | refine Ev.sc (by omega) ?_ | refine Ev.scg (by omega) ?_)
    exact Ev.ret ⟨rfl, by assumption⟩
end
end Go.AM.W
set_option linter.unusedVariables false
set_option linter.unusedSimpArgs false
set_option maxRecDepth 100000
namespace Go.AM.W
open Go Go.AM Go.Proofs
attribute [local irreducible] run bin un ld st box newV mkS fldA fld ixA ix slc slc3 build buildS cv cvS ap cpy lenV gOp pickV b2 aIf aChk evalK resume iterD Option.bind

section
variable {B B0 H0 H : AH} {L : List (Nat × Blk)}
def tB (t : Nat) : List Value := (List.range 6).map fun i => u8 (t / 2 ^ (8 * (5 - i)) % 256)
theorem tB_len (t : Nat) : (tB t).length = 6 := by simp [tB]
theorem text_loop {hb b t : Nat} {rv mv : Value} (ht : t < 281474976710656) [IsCell rv] [IsCell mv] : ∀ (m i : Nat) (H : AH), i + m = 6 →
    St H0 B0 B ((b, ⟨(tB t).take i ++ List.replicate (72 - i) (.int .u8 0), 5, .fix⟩) :: (hb, ⟨[i64 t, rv, mv], 51, .fix⟩) :: L) H →
    Ev (fun k K => f26_L0 k (ptr hb 0) (sl b 0 72 72) (i64 i) K H) (fun o => ∃ H', o = (.exit 0, f26_X_L0 (ptr hb 0) (sl b 0 72 72), H') ∧
      St H0 B0 B ((b, ⟨tB t ++ List.replicate 66 (.int .u8 0), 5, .fix⟩) :: (hb, ⟨[i64 t, rv, mv], 51, .fix⟩) :: L) H') := by
  intro m
  induction m with
  | zero =>
    intro i H hi hS
    have : i = 6 := by omega
    subst this
    refine Ev.succ (fun k K => f26_L0_succ k _ _ _ K H) ?_
    repeat (first | (first | refine Ev.s ?_ | refine Ev.newC fun _ _ _ => ?_ | refine Ev.boxC fun _ _ _ => ?_ | refine Ev.stC fun _ _ => ?_ | refine Ev.sc (by omega) ?_ | refine Ev.scg (by omega) ?_) | rw [decide_eq_true (by omega)] | rw [decide_eq_false (by omega)])
    refine Ev.ret ⟨H, rfl, ?_⟩
    rw [List.take_of_length_le (by rw [tB_len]; decide)] at hS
    exact hS
  | succ m ih =>
    intro i H hi hS
    refine Ev.succ (fun k K => f26_L0_succ k _ _ _ K H) ?_
    repeat (first | (first | refine Ev.s ?_ | refine Ev.newC fun _ _ _ => ?_ | refine Ev.boxC fun _ _ _ => ?_ | refine Ev.stC fun _ _ => ?_ | refine Ev.sc (by omega) ?_ | refine Ev.scg (by omega) ?_) | rw [decide_eq_true (by omega)] | rw [decide_eq_false (by omega)])
    refine Ev.prim (shrN (show 8 * (5 - i) < IntKind.i64.bits by show _ < 64; omega)) ?_
    refine Ev.prim (toU8 (Und.eq (P := Tryd.prog) (t := 3)) (Und.eq (P := Tryd.prog) (t := 5))) ?_
    have hE : Elt Tryd.prog 44 5 (.int .u8 0) 1 := inferInstance
    refine Ev.prim (ixA_own hE (show i < 72 by omega)) ?_
    rw [Nat.zero_add]
    have hlen : ((tB t).take i ++ List.replicate (72 - i) (Value.int .u8 0)).length = 72 := by rw [List.length_append, List.length_take, tB_len, List.length_replicate]; omega
    refine Ev.st hS (.head _) (stK_own hE (by rw [hlen]; omega) rfl) rfl (.head _) fun H' hS' => ?_
    repeat (first | (first | refine Ev.s ?_ | refine Ev.newC fun _ _ _ => ?_ | refine Ev.boxC fun _ _ _ => ?_ | refine Ev.stC fun _ _ => ?_ | refine Ev.sc (by omega) ?_ | refine Ev.scg (by omega) ?_) | rw [decide_eq_true (by omega)] | rw [decide_eq_false (by omega)])
    refine ih (i + 1) H' (by omega) ?_
    have e : ((tB t).take i ++ List.replicate (72 - i) (Value.int .u8 0)).set i (u8 (t / 2 ^ (8 * (5 - i)) % 256)) = (tB t).take (i + 1) ++ List.replicate (72 - (i + 1)) (.int .u8 0) := by
      have h6 : (tB t)[i]? = some (u8 (t / 2 ^ (8 * (5 - i)) % 256)) := by unfold tB; rw [List.getElem?_map, List.getElem?_range (by omega)]; rfl
      rw [List.take_add_one, h6]
      have hl : ((tB t).take i).length = i := by rw [List.length_take, tB_len]; omega
      rw [List.set_append_right _ _ (by omega), hl, Nat.sub_self, show 72 - i = (72 - (i + 1)) + 1 by omega, List.replicate_succ]
      simp
    rw [e] at hS'
    exact hS'
theorem tB_bytes (t : Nat) : tB t = byts (turnB t) := by
  unfold tB turnB byts
  rw [List.map_map, List.map_map]
  apply List.map_congr_left
  intro i hi
  have hi : i < 6 := by simpa using hi
  show _ = u8 (UInt8.ofNat (t / 256 ^ (5 - i))).toNat
  rw [show (UInt8.ofNat (t / 256 ^ (5 - i))).toNat = t / 256 ^ (5 - i) % 256 from rfl, Nat.pow_mul]
theorem text_spec {t r mb : Nat} {U : List Int} (ht : t < 281474976710656) (hr : r < 65536) (hU : ∀ n ∈ U, 0 ≤ n ∧ n < 512) (hm : (mb, ⟨entI U, 49, .map⟩) ∈ L) (hS : St H0 B0 B L H) :
    Ev (fun k _ => rn k 26 [.agg #[i64 t, i64 r, .map (some mb)]] H) (fun o => o.1 = str (textH t (r : Int) U) ∧ ∃ B', MoC B B' ∧ St H0 B0 B' L o.2) := by
  refine Ev.fn (fun k => f26_eq k _ H) ?_
  repeat (first | refine Ev.s ?_ | refine Ev.newC fun _ _ _ => ?_ | refine Ev.boxC fun _ _ _ => ?_ | refine Ev.stC fun _ _ => ?_ | refine Ev.sc (by omega) ?_ | refine Ev.scg (by omega) ?_)
  rename_i hb H1 hS1
  have hE : Elt Tryd.prog 44 5 (.int .u8 0) 1 := inferInstance
  refine Ev.mkS (t := 44) (m := 72) inferInstance hS1 (by omega) (by omega) fun b B' H2 hm2 hS2 => ?_
  clear hS hS1
  refine Ev.bind (Ev.loop (text_loop ht 6 0 H2 rfl (by simpa using hS2))) ?_
  clear hS2
  rintro _ ⟨H3, rfl, hS3⟩
  refine Ev.eq (fun k _ => f26_A0_x0 k _ _ H3) ?_
  repeat (first | refine Ev.s ?_ | refine Ev.newC fun _ _ _ => ?_ | refine Ev.boxC fun _ _ _ => ?_ | refine Ev.stC fun _ _ => ?_ | refine Ev.sc (by omega) ?_ | refine Ev.scg (by omega) ?_)
  refine Ev.prim (shrL (by decide)) ?_
  refine Ev.prim (toU8 (Und.eq (P := Tryd.prog) (t := 3)) (Und.eq (P := Tryd.prog) (t := 5))) ?_
  repeat (first | refine Ev.s ?_ | refine Ev.newC fun _ _ _ => ?_ | refine Ev.boxC fun _ _ _ => ?_ | refine Ev.stC fun _ _ => ?_ | refine Ev.sc (by omega) ?_ | refine Ev.scg (by omega) ?_)
  refine Ev.prim (show ixA Tryd.prog 44 (sl b 0 72 72) (.int .i64 6) = some (ptr b 6) from ixA_own (i := 6) hE (by decide)) ?_
  refine Ev.st hS3 (.head _) (stK_own (i := 6) hE (by simp [tB_len]) rfl) rfl (.head _) fun H4 hS4 => ?_
  clear hS3
  repeat (first | refine Ev.s ?_ | refine Ev.newC fun _ _ _ => ?_ | refine Ev.boxC fun _ _ _ => ?_ | refine Ev.stC fun _ _ => ?_ | refine Ev.sc (by omega) ?_ | refine Ev.scg (by omega) ?_)
  refine Ev.prim (show ixA Tryd.prog 44 (sl b 0 72 72) (.int .i64 7) = some (ptr b 7) from ixA_own (i := 7) hE (by decide)) ?_
  refine Ev.st hS4 (.head _) (stK_own (i := 7) hE (by simp [tB_len]) rfl) rfl (.head _) fun H5 hS5 => ?_
  clear hS4
  have e : ((tB t ++ List.replicate 66 (Value.int .u8 0)).set 6 (u8 (r / 2 ^ 8 % 256))).set 7 (u8 (r % 256)) = (tB t ++ [u8 (r / 2 ^ 8 % 256), u8 (r % 256)]) ++ List.replicate 64 (.int .u8 0) := by
    rw [List.set_append_right _ _ (by rw [tB_len]; decide), tB_len, List.set_append_right _ _ (by rw [tB_len]; decide), tB_len, List.append_assoc]
    rfl
  rw [e] at hS5
  refine AM.Ev.gText (cs := tB t ++ [u8 (r / 2 ^ 8 % 256), u8 (r % 256)]) hS5 (.tail _ (.head _)) (.tail _ (.tail _ hm)) (.head _) (.head _) (by simp [tB_len]) hU fun H6 hS6 => ?_
  clear hS5
  have e2 : (tB t ++ [u8 (r / 2 ^ 8 % 256), u8 (r % 256)]) ++ bmV U = byts (textH t (r : Int) U) := by
    rw [tB_bytes, bmV_byts]
    unfold textH
    rw [byts_app, byts_app, List.append_assoc]
    congr 2
  rw [e2] at hS6
  refine Ev.prim (cvS_part (d := 9) (bs := textH t (r : Int) U) hS6 (.head _) (by omega) (by rw [textH_len]; omega)) ?_
  rw [List.drop_zero, List.take_of_length_le (by rw [textH_len]; exact Nat.le_refl _)]
  exact Ev.ret ⟨rfl, B', ⟨hm2⟩, hS6.drop1.drop1⟩
/-- A head is written. -/
theorem hwrite_spec {dv : Value} {D : Dsk} {Ls : List (Nat × Blk)} {t r mb : Nat} {U : List Int} (hD : DK dv D Ls) (hO : D.OK) (hc : D.cache.length + 1 < 1000000000000) (ht : t < 281474976710656) (hr : r < 65536) (hU : ∀ n ∈ U, 0 ≤ n ∧ n < 512) (hm : (mb, ⟨entI U, 49, .map⟩) ∈ L) (hS : St H0 B0 B (Ls ++ L) H) :
    Ev (fun k _ => rn k 16 [.agg #[i64 t, i64 r, .map (some mb)], dv] H) (DkP H0 B0 B L dv (.int .i64 (hwrite D t (r : Int) U).1) (hwrite D t (r : Int) U).2) := by
  refine Ev.fn (fun k => f16_eq k _ _ H) ?_
  repeat (first | refine Ev.s ?_ | refine Ev.newC fun _ _ _ => ?_ | refine Ev.boxC fun _ _ _ => ?_ | refine Ev.stC fun _ _ => ?_ | refine Ev.sc (by omega) ?_ | refine Ev.scg (by omega) ?_)
  rename_i hb H1 hS1
  clear hS
  refine Ev.b2 (text_spec ht hr hU (.tail _ (List.mem_append_right _ hm)) hS1) ?_
  rintro _ H2 ⟨rfl, B2, hm2, hS2⟩
  dsimp only at hS2
  clear hS1
  repeat (first | refine Ev.s ?_ | refine Ev.newC fun _ _ _ => ?_ | refine Ev.boxC fun _ _ _ => ?_ | refine Ev.stC fun _ _ => ?_ | refine Ev.sc (by omega) ?_ | refine Ev.scg (by omega) ?_)
  have hS3 : St H0 B0 B2 (Ls ++ ((hb, _) :: L)) H2 := hS2.perm (List.perm_middle)
  refine Ev.b2 (pWrite_spec (n := ((t % 2 : Nat) : Int)) (kind := 1) hD hO hc (by rw [textH_len]; decide) (by decide) hS3) ?_
  rintro _ H3 ⟨rfl, Ls3, B3, hm3, hD3, hS4⟩
  dsimp only at hS4
  refine Ev.ret ⟨rfl, Ls3, B3, ⟨hm2.mo.trans hm3.mo⟩, hD3, ?_⟩
  exact (hS4.perm (List.perm_middle).symm).drop1
end
end Go.AM.W
set_option linter.unusedVariables false
set_option linter.unusedSimpArgs false
set_option maxRecDepth 100000
namespace Go.AM.W
open Go Go.AM Go.Proofs
attribute [local irreducible] run bin un ld st box newV mkS fldA fld ixA ix slc slc3 build buildS cv cvS ap cpy lenV gOp pickV b2 aIf aChk evalK resume iterD Option.bind

section
variable {B B0 H0 H : AH} {L : List (Nat × Blk)}
theorem DK.ptr {dv : Value} {D : Dsk} {Ls : List (Nat × Blk)} (h : DK dv D Ls) : ∃ d, dv = ptr d 0 := by obtain ⟨d, bb, cv, Lc, hp, _⟩ := h; exact ⟨d, hp⟩
theorem Format_spec {dv : Value} {D : Dsk} {Ls : List (Nat × Blk)} (hD : DK dv D Ls) (hO : D.OK) (hc : D.cache.length + 2 < 1000000000000) (hS : St H0 B0 B (Ls ++ L) H) :
    Ev (fun k _ => rn k 8 [dv] H) (fun r => (D.format.1 ≠ 0 ∧ DkP H0 B0 B L dv (.tuple #[.pointer none, .int .i64 D.format.1]) D.format.2 r) ∨ (D.format.1 = 0 ∧ ∃ p, PgP H0 B0 B L p dv (.tuple #[p, .int .i64 0]) ⟨1, 0, [0, 1], [], false⟩ D.format.2 r)) := by
  refine Ev.fn (fun k => f8_eq k _ H) ?_
  have h2 := hO.n2
  refine Ev.b2 (pages_spec hD hO hS fun x hx => List.mem_append_left _ hx) ?_
  rintro v H1 h
  cases h
  unfold Dsk.format
  by_cases h4 : D.n / 2 < 4
  · rw [if_pos h4]
    repeat (first | (first | refine Ev.s ?_ | refine Ev.newC fun _ _ _ => ?_ | refine Ev.boxC fun _ _ _ => ?_ | refine Ev.stC fun _ _ => ?_ | refine Ev.sc (by omega) ?_ | refine Ev.scg (by omega) ?_) | rw [decide_eq_true (by omega)] | rw [decide_eq_false (by omega)])
    exact Ev.ret (.inl ⟨by simp, rfl, Ls, B, ⟨Mo.refl B⟩, hD, hS⟩)
  rw [if_neg h4]
  obtain ⟨d, rfl⟩ := hD.ptr
  repeat (first | (first | refine Ev.s ?_ | refine Ev.newC fun _ _ _ => ?_ | refine Ev.boxC fun _ _ _ => ?_ | refine Ev.stC fun _ _ => ?_ | refine Ev.sc (by omega) ?_ | refine Ev.scg (by omega) ?_) | rw [decide_eq_true (by omega)] | rw [decide_eq_false (by omega)])
  refine Ev.mkMap (P := Tryd.prog) hS fun mb H1 hS1 => ?_
  refine Ev.mpTrueI (S := []) (kt := 3) (et := 4) (Und.eq (P := Tryd.prog) (t := 49)) (Und.eq (P := Tryd.prog) (t := 3)) hS1 (.head _) (.head _) fun H2 hS2 => ?_
  refine Ev.mpTrueI (S := [0]) (kt := 3) (et := 4) (Und.eq (P := Tryd.prog) (t := 49)) (Und.eq (P := Tryd.prog) (t := 3)) hS2 (.head _) (.head _) fun H3 hS3 => ?_
  clear hS hS1 hS2
  rw [show insI [0] 1 = [0, 1] from rfl] at hS3
  repeat (first | (first | refine Ev.s ?_ | refine Ev.newC fun _ _ _ => ?_ | refine Ev.boxC fun _ _ _ => ?_ | refine Ev.stC fun _ _ => ?_ | refine Ev.sc (by omega) ?_ | refine Ev.scg (by omega) ?_) | rw [decide_eq_true (by omega)] | rw [decide_eq_false (by omega)])
  rename_i pb H4 hS4
  clear hS3
  have hS5 : St H0 B0 B (Ls ++ ((pb, _) :: (mb, _) :: L)) H4 := hS4.perm (permA [_, _] Ls L)
  refine Ev.b2 (hwrite_spec (t := 1) (r := 0) (U := [0, 1]) hD hO (by omega) (by decide) (by decide) (by decide) (.tail _ (.head _)) hS5) ?_
  clear hS4 hS5
  have hwo := pwrite_ok hO ((1 % 2 : Nat) : Int) 1 (textH 1 0 [0, 1])
  have hwc := pwrite_cache D ((1 % 2 : Nat) : Int) 1 (textH 1 0 [0, 1])
  change (hwrite D 1 0 [0, 1]).2.OK at hwo
  change (hwrite D 1 0 [0, 1]).2.cache.length ≤ _ at hwc
  rw [show ((0 : Nat) : Int) = 0 from rfl]
  generalize hwrite D 1 0 [0, 1] = w at hwo hwc ⊢
  obtain ⟨w1, w2⟩ := w
  dsimp only at hwo hwc ⊢
  rintro _ H5 ⟨rfl, Ls5, B5, hm5, hD5, hS5⟩
  dsimp only at hS5
  by_cases hw : w1 = 0
  case neg =>
    rw [if_pos hw]
    repeat (first | refine Ev.s ?_ | refine Ev.newC fun _ _ _ => ?_ | refine Ev.boxC fun _ _ _ => ?_ | refine Ev.stC fun _ _ => ?_ | refine Ev.sc (by omega) ?_ | refine Ev.scg (by omega) ?_)
    rw [decide_eq_true hw]
    repeat (first | refine Ev.s ?_ | refine Ev.newC fun _ _ _ => ?_ | refine Ev.boxC fun _ _ _ => ?_ | refine Ev.stC fun _ _ => ?_ | refine Ev.sc (by omega) ?_ | refine Ev.scg (by omega) ?_)
    exact Ev.ret (.inl ⟨hw, rfl, Ls5, B5, hm5, hD5, hS5.drop (List.Sublist.append_left (.cons _ (.cons _ (List.Sublist.refl _))) _)⟩)
  rw [if_neg (by simpa using hw)]
  repeat (first | refine Ev.s ?_ | refine Ev.newC fun _ _ _ => ?_ | refine Ev.boxC fun _ _ _ => ?_ | refine Ev.stC fun _ _ => ?_ | refine Ev.sc (by omega) ?_ | refine Ev.scg (by omega) ?_)
  rw [decide_eq_false (by simpa using hw)]
  repeat (first | refine Ev.s ?_ | refine Ev.newC fun _ _ _ => ?_ | refine Ev.boxC fun _ _ _ => ?_ | refine Ev.stC fun _ _ => ?_ | refine Ev.sc (by omega) ?_ | refine Ev.scg (by omega) ?_)
  refine Ev.b2 (Barrier_spec hD5 hwo (by omega) hS5) ?_
  generalize w2.barrier = b at ⊢
  obtain ⟨b1, b2⟩ := b
  dsimp only
  rintro _ H6 ⟨rfl, Ls6, B6, hm6, hD6, hS6⟩
  dsimp only at hS6
  by_cases hb : b1 = 0
  case neg =>
    repeat (first | refine Ev.s ?_ | refine Ev.newC fun _ _ _ => ?_ | refine Ev.boxC fun _ _ _ => ?_ | refine Ev.stC fun _ _ => ?_ | refine Ev.sc (by omega) ?_ | refine Ev.scg (by omega) ?_)
    rw [decide_eq_true hb]
    repeat (first | refine Ev.s ?_ | refine Ev.newC fun _ _ _ => ?_ | refine Ev.boxC fun _ _ _ => ?_ | refine Ev.stC fun _ _ => ?_ | refine Ev.sc (by omega) ?_ | refine Ev.scg (by omega) ?_)
    exact Ev.ret (.inl ⟨hb, rfl, Ls6, B6, ⟨hm5.mo.trans hm6.mo⟩, hD6, hS6.drop (List.Sublist.append_left (.cons _ (.cons _ (List.Sublist.refl _))) _)⟩)
  repeat (first | refine Ev.s ?_ | refine Ev.newC fun _ _ _ => ?_ | refine Ev.boxC fun _ _ _ => ?_ | refine Ev.stC fun _ _ => ?_ | refine Ev.sc (by omega) ?_ | refine Ev.scg (by omega) ?_)
  rw [decide_eq_false (by simpa using hb)]
  repeat (first | refine Ev.s ?_ | refine Ev.newC fun _ _ _ => ?_ | refine Ev.boxC fun _ _ _ => ?_ | refine Ev.stC fun _ _ => ?_ | refine Ev.sc (by omega) ?_ | refine Ev.scg (by omega) ?_)
  refine Ev.ret (.inr ⟨hb, ptr pb 0, rfl, _, B6, ⟨hm5.mo.trans hm6.mo⟩, ⟨pb, mb, _, [], Ls6, rfl, hD6, FRS.nil, rfl⟩, ?_⟩)
  exact (hS6.perm (permA Ls6 [_, _] L))
theorem PK.sub {p dv : Value} {G : Pgr} {D : Dsk} {Ls : List (Nat × Blk)} (h : PK p dv G D Ls) : ∃ Ld, DK dv D Ld ∧ ∀ x ∈ Ld, x ∈ Ls := by
  obtain ⟨pb, mb, fv, Lf, Ld, rfl, hD, hF, rfl⟩ := h
  exact ⟨Ld, hD, fun x hx => .tail _ (.tail _ (List.mem_append_right _ hx))⟩
theorem Pages_spec {p dv : Value} {G : Pgr} {D : Dsk} {Ls Lx : List (Nat × Blk)} (hP : PK p dv G D Ls) (hO : D.OK) (hS : St H0 B0 B Lx H) (hsub : ∀ x ∈ Ls, x ∈ Lx) :
    Ev (fun k _ => rn k 34 [p] H) (fun r => r = (i64 (D.n / 2), H)) := by
  obtain ⟨Ld, hD, hs⟩ := hP.sub
  obtain ⟨pb, mb, fv, Lf, Ld', rfl, hD', hF, rfl⟩ := hP
  obtain ⟨d, rfl⟩ := hD.ptr
  have hcell := hF.cell
  have hi : InL pb _ Lx := ⟨hsub _ (.head _)⟩
  refine Ev.fn (fun k => f34_eq k _ H) ?_
  repeat (first | refine Ev.s ?_ | refine Ev.newC fun _ _ _ => ?_ | refine Ev.boxC fun _ _ _ => ?_ | refine Ev.stC fun _ _ => ?_ | refine Ev.sc (by omega) ?_ | refine Ev.scg (by omega) ?_)
  refine Ev.b2 (pages_spec hD hO hS fun x hx => hsub _ (hs x hx)) ?_
  rintro v H1 h
  cases h
  exact Ev.ret rfl
theorem Alloc_loop {pb mb d : Nat} {fv : Value} {Lf Lr : List (Nat × Blk)} {tv rv : Value} {U F : List Int} {m : Nat} [IsCell tv] [IsCell rv] (hF : FR fv F Lf) (hl : F.length < 100000) (hm : m < 100000) : ∀ (q i : Nat), i + q = m → 
    (St H0 B0 B ((pb, ⟨[tv, rv, .map (some mb), ptr d 0, fv, .bool false], 53, .fix⟩) :: (mb, ⟨entI U, 49, .map⟩) :: (Lf ++ Lr)) H) → (∀ j < i, (!decide (((j : Nat) : Int) ∈ U) && !decide ((j : Int) ∈ F)) = false) →
    Ev (fun k K => f30_L0 k (ptr pb 0) (i64 m) (i64 i) K H) (fun o =>
      (∃ n : Nat, (List.range m).find? (fun (n : Nat) => !decide ((n : Int) ∈ U) && !decide ((n : Int) ∈ F)) = some n ∧ ∃ fv' Lf' H', o = (.ret, f30_X_L0 (i64 n) (.int .i64 0), H') ∧ FR fv' (F ++ [(n : Int)]) Lf' ∧
        St H0 B0 B ((pb, ⟨[tv, rv, .map (some mb), ptr d 0, fv', .bool false], 53, .fix⟩) :: (mb, ⟨entI U, 49, .map⟩) :: (Lf' ++ Lr)) H') ∨
      ((List.range m).find? (fun (n : Nat) => !decide ((n : Int) ∈ U) && !decide ((n : Int) ∈ F)) = none ∧ o = (.exit 0, f30_X_L0 unk unk, H))) := by
  intro q
  induction q with
  | zero =>
    intro i hi hS hno
    refine Ev.succ (fun k K => f30_L0_succ k _ _ _ K H) ?_
    repeat (first | refine Ev.s ?_ | refine Ev.newC fun _ _ _ => ?_ | refine Ev.boxC fun _ _ _ => ?_ | refine Ev.stC fun _ _ => ?_ | refine Ev.sc (by omega) ?_ | refine Ev.scg (by omega) ?_)
    rw [decide_eq_false (by omega)]
    repeat (first | refine Ev.s ?_ | refine Ev.newC fun _ _ _ => ?_ | refine Ev.boxC fun _ _ _ => ?_ | refine Ev.stC fun _ _ => ?_ | refine Ev.sc (by omega) ?_ | refine Ev.scg (by omega) ?_)
    refine Ev.ret (.inr ⟨?_, rfl⟩)
    rw [List.find?_eq_none]
    intro j hj
    rw [hno j (by have := List.mem_range.1 hj; omega)]
    decide
  | succ q ih =>
    intro i hi hS hno
    have hcell := hF.cell
    refine Ev.succ (fun k K => f30_L0_succ k _ _ _ K H) ?_
    repeat (first | refine Ev.s ?_ | refine Ev.newC fun _ _ _ => ?_ | refine Ev.boxC fun _ _ _ => ?_ | refine Ev.stC fun _ _ => ?_ | refine Ev.sc (by omega) ?_ | refine Ev.scg (by omega) ?_)
    rw [decide_eq_true (by omega)]
    repeat (first | refine Ev.s ?_ | refine Ev.newC fun _ _ _ => ?_ | refine Ev.boxC fun _ _ _ => ?_ | refine Ev.stC fun _ _ => ?_ | refine Ev.sc (by omega) ?_ | refine Ev.scg (by omega) ?_)
    refine Ev.prim (lkI (kt := 3) (et := 4) (Und.eq (P := Tryd.prog) (t := 49)) (Und.eq (P := Tryd.prog) (t := 3)) (by kernel_rfl) hS (.tail _ (.head _))) ?_
    have next : (!decide ((i : Int) ∈ U) && !decide ((i : Int) ∈ F)) = false → ∀ j < i + 1, (!decide (((j : Nat) : Int) ∈ U) && !decide ((j : Int) ∈ F)) = false := fun h j hj => by
      by_cases he : j = i
      · subst he; exact h
      · exact hno j (by omega)
    by_cases hu : (i : Int) ∈ U
    · rw [decide_eq_true hu]
      repeat (first | (first | refine Ev.s ?_ | refine Ev.newC fun _ _ _ => ?_ | refine Ev.boxC fun _ _ _ => ?_ | refine Ev.stC fun _ _ => ?_ | refine Ev.sc (by omega) ?_ | refine Ev.scg (by omega) ?_) | rw [decide_eq_true (by omega)] | rw [decide_eq_false (by omega)])
      exact ih (i + 1) (by omega) hS (next (by simp [hu]))
    rw [decide_eq_false hu]
    repeat (first | refine Ev.s ?_ | refine Ev.newC fun _ _ _ => ?_ | refine Ev.boxC fun _ _ _ => ?_ | refine Ev.stC fun _ _ => ?_ | refine Ev.sc (by omega) ?_ | refine Ev.scg (by omega) ?_)
    refine Ev.b2 (Contains_spec (i : Int) hF (by omega) hS fun x hx => .tail _ (.tail _ (List.mem_append_left _ hx))) ?_
    rintro v H1 h
    cases h
    by_cases hf : (i : Int) ∈ F
    · rw [decide_eq_true hf]
      repeat (first | (first | refine Ev.s ?_ | refine Ev.newC fun _ _ _ => ?_ | refine Ev.boxC fun _ _ _ => ?_ | refine Ev.stC fun _ _ => ?_ | refine Ev.sc (by omega) ?_ | refine Ev.scg (by omega) ?_) | rw [decide_eq_true (by omega)] | rw [decide_eq_false (by omega)])
      exact ih (i + 1) (by omega) hS (next (by simp [hf]))
    rw [decide_eq_false hf]
    repeat (first | refine Ev.s ?_ | refine Ev.newC fun _ _ _ => ?_ | refine Ev.boxC fun _ _ _ => ?_ | refine Ev.stC fun _ _ => ?_ | refine Ev.sc (by omega) ?_ | refine Ev.scg (by omega) ?_)
    have hS2 : St H0 B0 B (Lf ++ ((pb, _) :: (mb, _) :: Lr)) H := hS.perm (permA [_, _] Lf Lr)
    refine FRS.push eltI hF hS2 (by omega) fun fv' Lf' H' hF' hS' => ?_
    have hcell' := hF'.cell
    have hS3 : St H0 B0 B ((pb, _) :: (mb, _) :: (Lf' ++ Lr)) H' := hS'.perm (permA Lf' [_, _] Lr)
    clear hS hS2 hS'
    repeat (first | refine Ev.s ?_ | refine Ev.newC fun _ _ _ => ?_ | refine Ev.boxC fun _ _ _ => ?_ | refine Ev.stC fun _ _ => ?_ | refine Ev.sc (by omega) ?_ | refine Ev.scg (by omega) ?_)
    refine Ev.ret (.inl ⟨i, ?_, fv', Lf', _, rfl, hF', by assumption⟩)
    rw [List.find?_range_eq_some]
    exact ⟨by simp [hu, hf], List.mem_range.2 (by omega), fun j hj => by rw [hno j hj]; rfl⟩
theorem Alloc_spec {p dv : Value} {G : Pgr} {D : Dsk} {Ls : List (Nat × Blk)} (hP : PK p dv G D Ls) (hO : D.OK) (hl : G.fresh.length < 100000) (hS : St H0 B0 B (Ls ++ L) H) :
    Ev (fun k _ => rn k 30 [p] H) (PgP H0 B0 B L p dv (.tuple #[.int .i64 (G.alloc (D.n / 2)).1, .int .i64 (G.alloc (D.n / 2)).2.1]) (G.alloc (D.n / 2)).2.2 D) := by
  have hP0 := hP
  obtain ⟨pb, mb, fv, Lf, Ld, rfl, hD, hF, rfl⟩ := hP
  obtain ⟨d, rfl⟩ := hD.ptr
  have hcell := hF.cell
  obtain ⟨turn, root, U, F, dn⟩ := G
  dsimp only at hF hl hP0 hS
  refine Ev.fn (fun k => f30_eq k _ H) ?_
  simp only [List.cons_append] at hS
  unfold Pgr.alloc
  dsimp only
  have hn := hO.n2
  cases dn with
  | true =>
    repeat (first | refine Ev.s ?_ | refine Ev.newC fun _ _ _ => ?_ | refine Ev.boxC fun _ _ _ => ?_ | refine Ev.stC fun _ _ => ?_ | refine Ev.sc (by omega) ?_ | refine Ev.scg (by omega) ?_)
    exact Ev.ret ⟨rfl, _, B, ⟨Mo.refl B⟩, hP0, hS⟩
  | false =>
    rw [if_neg (by decide)]
    repeat (first | refine Ev.s ?_ | refine Ev.newC fun _ _ _ => ?_ | refine Ev.boxC fun _ _ _ => ?_ | refine Ev.stC fun _ _ => ?_ | refine Ev.sc (by omega) ?_ | refine Ev.scg (by omega) ?_)
    refine Ev.b2 (Pages_spec hP0 hO hS fun x hx => ?_) ?_
    · rcases List.mem_cons.1 hx with rfl | hx
      · exact .head _
      · rcases List.mem_cons.1 hx with rfl | hx
        · exact .tail _ (.head _)
        · exact .tail _ (.tail _ (List.mem_append_left _ hx))
    rintro v H1 h
    cases h
    have hS2 : St H0 B0 B ((pb, ⟨[i64 turn, .int .i64 root, .map (some mb), ptr d 0, fv, .bool false], 53, .fix⟩) :: (mb, ⟨entI U, 49, .map⟩) :: (Lf ++ (Ld ++ L))) H := by rw [List.append_assoc] at hS; exact hS
    refine Ev.bind (Ev.loop (Alloc_loop hF hl (by omega) (D.n / 2) 0 (by omega) hS2 (fun j hj => by omega))) ?_
    rintro _ (⟨n, hfd, fv', Lf', H', rfl, hF', hS'⟩ | ⟨hfd, rfl⟩)
    · refine Ev.eq (fun k _ => f30_A0_ret k _ _ H') ?_
      rw [hfd]
      refine Ev.ret ⟨rfl, _, B, ⟨Mo.refl B⟩, ⟨pb, mb, fv', Lf', Ld, rfl, hD, hF', rfl⟩, ?_⟩
      show St H0 B0 B ((pb, _) :: (mb, _) :: ((Lf' ++ Ld) ++ L)) H'
      rw [List.append_assoc]
      exact hS'
    · refine Ev.eq (fun k _ => f30_A0_x0 k _ _ H) ?_
      rw [hfd]
      exact Ev.ret ⟨rfl, _, B, ⟨Mo.refl B⟩, hP0, hS⟩
theorem Back_spec {p dv : Value} {G : Pgr} {D : Dsk} {Ls : List (Nat × Blk)} {many : Int} (hP : PK p dv G D Ls) (hl : G.fresh.length < 100000) (hS : St H0 B0 B (Ls ++ L) H) :
    Ev (fun k _ => rn k 19 [p, .int .i64 many] H) (PgP H0 B0 B L p dv (.tuple #[]) (G.back many) D) := by
  obtain ⟨pb, mb, fv, Lf, Ld, rfl, hD, hF, rfl⟩ := hP
  obtain ⟨d, rfl⟩ := hD.ptr
  have hcell := hF.cell
  simp only [List.cons_append] at hS
  refine Ev.fn (fun k => f19_eq k _ _ H) ?_
  repeat (first | refine Ev.s ?_ | refine Ev.newC fun _ _ _ => ?_ | refine Ev.boxC fun _ _ _ => ?_ | refine Ev.stC fun _ _ => ?_ | refine Ev.sc (by omega) ?_ | refine Ev.scg (by omega) ?_)
  refine Ev.prim (hF.len (Und.eq (P := Tryd.prog) (t := 31))) ?_
  refine Ev.prim (show fold1 minV [.int .i64 (if 0 > many then 0 else many), i64 G.fresh.length] = some (.int .i64 ((min many.toNat G.fresh.length : Nat) : Int)) from by
    rw [min_int]; congr 2; split <;> omega) ?_
  obtain ⟨fv', q1, q2⟩ := hF.back eltI (j := min many.toNat G.fresh.length) (Nat.min_le_right _ _)
  have hcell' := q2.cell
  refine Ev.prim q1 ?_
  repeat (first | refine Ev.s ?_ | refine Ev.newC fun _ _ _ => ?_ | refine Ev.boxC fun _ _ _ => ?_ | refine Ev.stC fun _ _ => ?_ | refine Ev.sc (by omega) ?_ | refine Ev.scg (by omega) ?_)
  have e : G.fresh.take (min many.toNat G.fresh.length) = G.fresh.take many.toNat := by
    rcases Nat.le_total many.toNat G.fresh.length with h | h
    · rw [Nat.min_eq_left h]
    · rw [Nat.min_eq_right h, List.take_length, List.take_of_length_le h]
  rw [e] at q2
  exact Ev.ret ⟨rfl, _, B, ⟨Mo.refl B⟩, ⟨pb, mb, fv', Lf, Ld, rfl, hD, q2, rfl⟩, by assumption⟩
/-- What was handed out, in a slice of its own. -/
theorem Fresh_spec {p dv : Value} {G : Pgr} {D : Dsk} {Ls : List (Nat × Blk)} (hP : PK p dv G D Ls) (hl : G.fresh.length < 100000) (hS : St H0 B0 B (Ls ++ L) H) :
    Ev (fun k _ => rn k 11 [p] H) (fun r => ∃ B', MoC B B' ∧ ScN B' r.1 G.fresh.length 1 (intV G.fresh) ∧ St H0 B0 B' (Ls ++ L) r.2) := by
  have hP0 := hP
  obtain ⟨pb, mb, fv, Lf, Ld, rfl, hD, hF, rfl⟩ := hP
  have hcell := hF.cell
  simp only [List.cons_append] at hS
  refine Ev.fn (fun k => f11_eq k _ H) ?_
  repeat (first | refine Ev.s ?_ | refine Ev.newC fun _ _ _ => ?_ | refine Ev.boxC fun _ _ _ => ?_ | refine Ev.stC fun _ _ => ?_ | refine Ev.sc (by omega) ?_ | refine Ev.scg (by omega) ?_)
  rw [show (fun k n : Nat => AM.b2 (rn k 20 [fv] H) fun v4 h4 => some (v4, h4)) = fun k n => rn k 20 [fv] H from funext fun k => funext fun _ => b2_id _]
  refine Ev.fn (fun k => f20_eq k _ H) ?_
  have hN := hF.now hS (fun x hx => .tail _ (.tail _ (List.mem_append_left _ (List.mem_append_left _ hx))))
  have app : ∀ (Lx : List (Nat × Blk)), (∀ x ∈ Lf, x ∈ Lx) → ∀ B' H' v, MoC B B' → St H0 B0 B' Lx H' → GAcc 3 1 H0 B0 B' Lx H' v 0 [] →
      Ev (fun k n => AM.b2 (AM.ap Tryd.prog 31 31 H' v fv) fun v3 h3 => some (v3, h3)) (fun r : Value × AH => ∃ B', MoC B B' ∧ ScN B' r.1 G.fresh.length 1 (intV G.fresh) ∧ St H0 B0 B' Lx r.2) := by
    intro Lx hsub B' H' v hm hS' hG
    have hN' := hF.now hS' hsub
    refine GAcc.more (t := 31) (u := 31) (Und.eq (P := Tryd.prog) (t := 31)) hG hN' (by simp [intV, isCell]) (by omega) fun v' B2 H2 hm2 hG2 => ?_
    obtain ⟨B3, hm3, hsc, hS3⟩ := hG2.freeze
    rw [Nat.zero_add, List.nil_append] at hsc
    exact Ev.ret ⟨B3, ⟨hm.mo.trans (hm2.mo.trans hm3.mo)⟩, hsc, hS3⟩
  have bs : ∀ (w : Value), (bin Tryd.prog .eql 31 w (.slice none 0 0) = some (.bool true) ∧ w = .slice none 0 0) ∨ bin Tryd.prog .eql 31 w (.slice none 0 0) = some (.bool false) ∨ (∀ b o n c, w ≠ sl b o n c) ∧ w ≠ .slice none 0 0 := by
    intro w
    by_cases h1 : w = .slice none 0 0
    · left; rw [h1]; exact ⟨by kernel_rfl, rfl⟩
    · by_cases h2 : ∃ b o n c, w = sl b o n c
      · obtain ⟨b, o, n, c, rfl⟩ := h2
        right; left
        unfold bin sl
        rw [if_neg (by simp [flat1])]
        dsimp only
        rw [Und.eq (P := Tryd.prog) (t := 31), Option.bind_some]
        rfl
      · exact .inr (.inr ⟨fun b o n c h => h2 ⟨b, o, n, c, h⟩, h1⟩)
  rcases bs fv with ⟨h1, rfl⟩ | h1 | ⟨h1, h2⟩
  · refine Ev.prim h1 ?_
    repeat (first | refine Ev.s ?_ | refine Ev.newC fun _ _ _ => ?_ | refine Ev.boxC fun _ _ _ => ?_ | refine Ev.stC fun _ _ => ?_ | refine Ev.sc (by omega) ?_ | refine Ev.scg (by omega) ?_)
    refine Ev.ret ⟨B, ⟨Mo.refl B⟩, ?_, hS⟩
    rcases hN with ⟨_, h2, h3⟩ | ⟨b, off, cap, h2, _⟩
    · exact .inl ⟨rfl, h2, h3⟩
    · cases h2
  · refine Ev.prim h1 ?_
    repeat (first | refine Ev.s ?_ | refine Ev.newC fun _ _ _ => ?_ | refine Ev.boxC fun _ _ _ => ?_ | refine Ev.stC fun _ _ => ?_ | refine Ev.sc (by omega) ?_ | refine Ev.scg (by omega) ?_)
    refine Ev.prim2 (v := sl H.length 0 0 0) (H := mkB H [] 3 .fix) (by kernel_rfl) ?_
    have hS2 := (hS.mkB' [] 3 .fix).drop1
    exact app _ (fun x hx => .tail _ (.tail _ (List.mem_append_left _ (List.mem_append_left _ hx)))) B _ _ ⟨Mo.refl B⟩ hS2 (.inl ⟨rfl, rfl, .inr ⟨_, _, rfl⟩, hS2⟩)
  · rcases hN with ⟨h3, _⟩ | ⟨b, off, cap, h3, _⟩
    · exact (h2 h3).elim
    · exact (h1 _ _ _ _ h3).elim
end
end Go.AM.W
set_option linter.unusedVariables false
set_option linter.unusedSimpArgs false
set_option maxRecDepth 100000
namespace Go.AM.W
open Go Go.AM Go.Proofs
attribute [local irreducible] run bin un ld st box newV mkS fldA fld ixA ix slc slc3 build buildS cv cvS ap cpy lenV gOp pickV b2 aIf aChk evalK resume iterD Option.bind

section
variable {B B0 H0 H : AH} {L : List (Nat × Blk)}
theorem st_toD {x y : Nat × Blk} {Lf Ld : List (Nat × Blk)} (h : St H0 B0 B (x :: y :: (Lf ++ Ld ++ L)) H) : St H0 B0 B (Ld ++ (x :: y :: (Lf ++ L))) H := h.perm (by
  have := (permA Ld (x :: y :: Lf) L).symm
  simpa [List.append_assoc] using this)
theorem st_toP {x y : Nat × Blk} {Lf Ld : List (Nat × Blk)} (h : St H0 B0 B (Ld ++ (x :: y :: (Lf ++ L))) H) : St H0 B0 B (x :: y :: (Lf ++ Ld ++ L)) H := h.perm (by
  have := permA Ld (x :: y :: Lf) L
  simpa [List.append_assoc] using this)
theorem Write_specP {p dv : Value} {G : Pgr} {D : Dsk} {Ls : List (Nat × Blk)} {n kind : Int} {t : List UInt8} (hP : PK p dv G D Ls) (hO : D.OK) (hc : D.cache.length + 1 < 1000000000000) (hl : G.fresh.length < 100000) (ht : t.length < 9223372036854775808) (hk : -9223372036854775808 ≤ kind ∧ kind < 9223372036854775808) (hS : St H0 B0 B (Ls ++ L) H) :
    Ev (fun k _ => rn k 31 [p, .int .i64 n, .int .i64 kind, str t] H) (PgP H0 B0 B L p dv (.int .i64 (G.write D n kind t).1) (G.write D n kind t).2.1 (G.write D n kind t).2.2) := by
  have hP0 := hP
  obtain ⟨pb, mb, fv, Lf, Ld, rfl, hD, hF, rfl⟩ := hP
  obtain ⟨d, rfl⟩ := hD.ptr
  have hcell := hF.cell
  obtain ⟨turn, root, U, F, dn⟩ := G
  dsimp only at hF hl hP0 hS
  simp only [List.cons_append] at hS
  refine Ev.fn (fun k => f31_eq k _ _ _ _ H) ?_
  unfold Pgr.write
  dsimp only
  cases dn with
  | true =>
    rw [if_pos rfl]
    repeat (first | refine Ev.s ?_ | refine Ev.newC fun _ _ _ => ?_ | refine Ev.boxC fun _ _ _ => ?_ | refine Ev.stC fun _ _ => ?_ | refine Ev.sc (by omega) ?_ | refine Ev.scg (by omega) ?_)
    exact Ev.ret ⟨rfl, _, B, ⟨Mo.refl B⟩, hP0, hS⟩
  | false =>
    rw [if_neg (by decide)]
    repeat (first | refine Ev.s ?_ | refine Ev.newC fun _ _ _ => ?_ | refine Ev.boxC fun _ _ _ => ?_ | refine Ev.stC fun _ _ => ?_ | refine Ev.sc (by omega) ?_ | refine Ev.scg (by omega) ?_)
    refine Ev.b2 (Contains_spec n hF (by omega) hS fun x hx => .tail _ (.tail _ (List.mem_append_left _ (List.mem_append_left _ hx)))) ?_
    rintro v H1 h
    cases h
    by_cases hf : n ∈ F
    case neg =>
      rw [decide_eq_false hf, if_pos hf]
      repeat (first | refine Ev.s ?_ | refine Ev.newC fun _ _ _ => ?_ | refine Ev.boxC fun _ _ _ => ?_ | refine Ev.stC fun _ _ => ?_ | refine Ev.sc (by omega) ?_ | refine Ev.scg (by omega) ?_)
      exact Ev.ret ⟨rfl, _, B, ⟨Mo.refl B⟩, hP0, hS⟩
    rw [decide_eq_true hf, if_neg (by simpa using hf)]
    repeat (first | refine Ev.s ?_ | refine Ev.newC fun _ _ _ => ?_ | refine Ev.boxC fun _ _ _ => ?_ | refine Ev.stC fun _ _ => ?_ | refine Ev.sc (by omega) ?_ | refine Ev.scg (by omega) ?_)
    refine Ev.b2 (pWrite_spec (n := n) (kind := kind) hD hO hc ht hk (st_toD hS)) ?_
    generalize D.pwrite n kind t = w
    obtain ⟨w1, w2⟩ := w
    dsimp only
    rintro _ H2 ⟨rfl, Ld2, B2, hm2, hD2, hS2⟩
    dsimp only at hS2
    repeat (first | refine Ev.s ?_ | refine Ev.newC fun _ _ _ => ?_ | refine Ev.boxC fun _ _ _ => ?_ | refine Ev.stC fun _ _ => ?_ | refine Ev.sc (by omega) ?_ | refine Ev.scg (by omega) ?_)
    refine Ev.b2 (told_spec (.head _) (.head _) (st_toP hS2)) ?_
    rintro _ H3 ⟨rfl, hS3⟩
    exact Ev.ret ⟨rfl, _, B2, hm2, ⟨pb, mb, fv, Lf, Ld2, rfl, hD2, hF, rfl⟩, hS3⟩
theorem Read_specP {p dv : Value} {G : Pgr} {D : Dsk} {Ls : List (Nat × Blk)} {n : Int} (hP : PK p dv G D Ls) (hO : D.OK) (hc : D.cache.length < 1000000000000) (hS : St H0 B0 B (Ls ++ L) H) :
    Ev (fun k _ => rn k 33 [p, .int .i64 n] H) (PgP H0 B0 B L p dv (OpenV (G.read D n).1) (G.read D n).2 D) := by
  have hP0 := hP
  obtain ⟨pb, mb, fv, Lf, Ld, rfl, hD, hF, rfl⟩ := hP
  obtain ⟨d, rfl⟩ := hD.ptr
  have hcell := hF.cell
  obtain ⟨turn, root, U, F, dn⟩ := G
  dsimp only at hF hP0 hS
  simp only [List.cons_append] at hS
  refine Ev.fn (fun k => f33_eq k _ _ H) ?_
  have hn := hO.n2
  unfold Pgr.read
  dsimp only
  cases dn with
  | true =>
    rw [if_pos rfl]
    repeat (first | refine Ev.s ?_ | refine Ev.newC fun _ _ _ => ?_ | refine Ev.boxC fun _ _ _ => ?_ | refine Ev.stC fun _ _ => ?_ | refine Ev.sc (by omega) ?_ | refine Ev.scg (by omega) ?_)
    exact Ev.ret ⟨rfl, _, B, ⟨Mo.refl B⟩, hP0, hS⟩
  | false =>
    rw [if_neg (by decide)]
    repeat (first | refine Ev.s ?_ | refine Ev.newC fun _ _ _ => ?_ | refine Ev.boxC fun _ _ _ => ?_ | refine Ev.stC fun _ _ => ?_ | refine Ev.sc (by omega) ?_ | refine Ev.scg (by omega) ?_)
    by_cases h0 : n < 0
    · rw [decide_eq_true h0, if_pos (.inl h0)]
      repeat (first | refine Ev.s ?_ | refine Ev.newC fun _ _ _ => ?_ | refine Ev.boxC fun _ _ _ => ?_ | refine Ev.stC fun _ _ => ?_ | refine Ev.sc (by omega) ?_ | refine Ev.scg (by omega) ?_)
      exact Ev.ret ⟨rfl, _, B, ⟨Mo.refl B⟩, hP0, hS⟩
    rw [decide_eq_false h0]
    repeat (first | refine Ev.s ?_ | refine Ev.newC fun _ _ _ => ?_ | refine Ev.boxC fun _ _ _ => ?_ | refine Ev.stC fun _ _ => ?_ | refine Ev.sc (by omega) ?_ | refine Ev.scg (by omega) ?_)
    refine Ev.b2 (Pages_spec hP0 hO hS fun x hx => ?_) ?_
    · rcases List.mem_cons.1 hx with rfl | hx
      · exact .head _
      · rcases List.mem_cons.1 hx with rfl | hx
        · exact .tail _ (.head _)
        · exact .tail _ (.tail _ (List.mem_append_left _ hx))
    rintro v H1 h
    cases h
    repeat (first | refine Ev.s ?_ | refine Ev.newC fun _ _ _ => ?_ | refine Ev.boxC fun _ _ _ => ?_ | refine Ev.stC fun _ _ => ?_ | refine Ev.sc (by omega) ?_ | refine Ev.scg (by omega) ?_)
    by_cases h1 : ((D.n / 2 : Nat) : Int) ≤ n
    · rw [decide_eq_true h1, if_pos (.inr h1)]
      repeat (first | refine Ev.s ?_ | refine Ev.newC fun _ _ _ => ?_ | refine Ev.boxC fun _ _ _ => ?_ | refine Ev.stC fun _ _ => ?_ | refine Ev.sc (by omega) ?_ | refine Ev.scg (by omega) ?_)
      exact Ev.ret ⟨rfl, _, B, ⟨Mo.refl B⟩, hP0, hS⟩
    rw [decide_eq_false h1, if_neg (by omega)]
    repeat (first | refine Ev.s ?_ | refine Ev.newC fun _ _ _ => ?_ | refine Ev.boxC fun _ _ _ => ?_ | refine Ev.stC fun _ _ => ?_ | refine Ev.sc (by omega) ?_ | refine Ev.scg (by omega) ?_)
    refine Ev.b2 (pRead_spec (n := n) hD hO hc (st_toD hS)) ?_
    generalize D.pread n = w
    obtain ⟨w1, w2, w3⟩ := w
    dsimp only
    rintro _ H2 ⟨rfl, B2, hm2, hS2⟩
    try dsimp only at hS2
    unfold OpenV
    dsimp only
    repeat (first | refine Ev.s ?_ | refine Ev.newC fun _ _ _ => ?_ | refine Ev.boxC fun _ _ _ => ?_ | refine Ev.stC fun _ _ => ?_ | refine Ev.sc (by omega) ?_ | refine Ev.scg (by omega) ?_)
    refine Ev.b2 (told_spec (.head _) (.head _) (st_toP hS2)) ?_
    rintro _ H3 ⟨rfl, hS3⟩
    repeat (first | refine Ev.s ?_ | refine Ev.newC fun _ _ _ => ?_ | refine Ev.boxC fun _ _ _ => ?_ | refine Ev.stC fun _ _ => ?_ | refine Ev.sc (by omega) ?_ | refine Ev.scg (by omega) ?_)
    exact Ev.ret ⟨rfl, _, B2, hm2, ⟨pb, mb, fv, Lf, Ld, rfl, hD, hF, rfl⟩, hS3⟩
end
end Go.AM.W
set_option linter.unusedVariables false
set_option linter.unusedSimpArgs false
namespace Go.AM
section
variable {P : Program} {t : TypeId}
theorem shl8 {a : Nat} {k' : IntKind} (h : a < 36028797018963968) : bin P .shl t (i64 a) (.int k' 8) = some (i64 (a * 256)) := by
  rw [bin_shl (by omega), show min (8 : Int).toNat IntKind.i64.bits = 8 from rfl, show (2 : Int) ^ 8 = 256 from rfl]
  congr 2
  rw [wrap64 (by omega)]
  omega
theorem or8 {a b : Nat} (ha : a < 36028797018963968) (hb : b < 256) : bin P .or t (i64 (a * 256)) (i64 b) = some (i64 (a * 256 + b)) := by
  rw [bin_or]
  congr 2
  rw [BitVec.toNat_or]
  have e1 : (BitVec.ofInt IntKind.i64.bits ((a * 256 : Nat) : Int)).toNat = a * 256 := by
    show (BitVec.ofInt 64 _).toNat = _
    rw [BitVec.toNat_ofInt]; omega
  have e2 : (BitVec.ofInt IntKind.i64.bits (b : Int)).toNat = b := by
    show (BitVec.ofInt 64 _).toNat = _
    rw [BitVec.toNat_ofInt]; omega
  rw [e1, e2]
  have e3 : a * 256 ||| b = a * 256 + b := by
    have := Nat.two_pow_add_eq_or_of_lt (i := 8) (b := b) (by omega) a
    rw [show 2 ^ 8 * a = a * 256 by omega] at this
    exact this.symm
  rw [e3, wrap64 (by omega)]
end
end Go.AM
set_option linter.unusedVariables false
set_option linter.unusedSimpArgs false
namespace Go.AM
def Dsk.pg (D : Dsk) (n : Nat) : List UInt8 := D.look (2 * n) ++ D.look (2 * n + 1)
theorem Dsk.Up.hwrite {D : Dsk} {m t r : Nat} {U : List Int} (h : D.Up (2 * m)) (hm : 2 ≤ m) (hm2 : m ≤ 512) : ∃ D', hwrite D t (r : Int) U = (0, D') ∧ D'.Up (2 * m) ∧ D'.cache.length = D.cache.length + 2 ∧ ∀ n, D'.pg n = if n = t % 2 then sealL 1 (textH t (r : Int) U) else D.pg n := by
  have hl : (textH t (r : Int) U).length ≤ 120 := by rw [textH_len]; decide
  have h2 : t % 2 < m := by omega
  refine ⟨_, h.pwrite (n := t % 2) (k := 1) h2 (by omega) (by decide) (by decide) hl, h.pput h2 hl, ?_, fun n => ?_⟩
  · show ((D.cache ++ [_]) ++ [_]).length = _
    simp
  · unfold Dsk.pg
    rw [look_put, look_put, look_put, look_put]
    by_cases hn : n = t % 2
    · rw [if_pos hn, if_neg (by omega), if_pos (by omega), if_pos (by omega), List.take_append_drop]
    · rw [if_neg hn, if_neg (by omega), if_neg (by omega), if_neg (by omega), if_neg (by omega)]
theorem Dsk.Up.write2 {D : Dsk} {m n k : Nat} {t : List UInt8} (h : D.Up (2 * m)) (hn : n < m) (hm2 : m ≤ 512) (hk : 1 ≤ k) (hk9 : k ≤ 9) (ht : t.length ≤ 120) : ∃ D', D.pwrite (n : Int) (k : Int) t = (0, D') ∧ D'.Up (2 * m) ∧ D'.cache.length = D.cache.length + 2 ∧ ∀ i, D'.pg i = if i = n then sealL k t else D.pg i := by
  refine ⟨_, h.pwrite (n := n) (k := k) hn (by omega) hk hk9 ht, h.pput hn ht, ?_, fun i => ?_⟩
  · show ((D.cache ++ [_]) ++ [_]).length = _
    simp
  · unfold Dsk.pg
    rw [look_put, look_put, look_put, look_put]
    by_cases hi : i = n
    · rw [if_pos hi, if_neg (by omega), if_pos (by omega), if_pos (by omega), List.take_append_drop]
    · rw [if_neg hi, if_neg (by omega), if_neg (by omega), if_neg (by omega), if_neg (by omega)]
theorem Dsk.Up.barrier2 {D : Dsk} {m : Nat} (h : D.Up (2 * m)) : ∃ D', D.barrier = (0, D') ∧ D'.Up (2 * m) ∧ D'.cache = [] ∧ ∀ n, n < m → D'.pg n = D.pg n := by
  refine ⟨_, h.barrier, h.flush, rfl, fun n hn => ?_⟩
  unfold Dsk.pg
  rw [look_flush h.ok (by rw [h.n]; omega), look_flush h.ok (by rw [h.n]; omega)]
theorem Dsk.Up.lay {D : Dsk} {G : Pgr} {m r : Nat} {U : List Int} (h : D.Up (2 * m)) (hm : 2 ≤ m) (hm2 : m ≤ 512) : ∃ D', G.lay D (r : Int) U = (0, ⟨G.turn + 1, (r : Int), U, [], G.down⟩, D') ∧ D'.Up (2 * m) ∧ D'.cache = [] ∧ ∀ n, n < m → D'.pg n = if n = (G.turn + 1) % 2 then sealL 1 (textH (G.turn + 1) (r : Int) U) else D.pg n := by
  obtain ⟨D1, e1, u1, c1, p1⟩ := h.barrier2
  obtain ⟨D2, e2, u2, c2, p2⟩ := u1.hwrite (t := G.turn + 1) (r := r) (U := U) hm hm2
  obtain ⟨D3, e3, u3, c3, p3⟩ := u2.barrier2
  refine ⟨D3, ?_, u3, c3, fun n hn => ?_⟩
  · unfold Pgr.lay
    rw [e1]
    dsimp only
    rw [e2]
    dsimp only
    rw [e3, if_neg (by simp), if_neg (by simp), if_neg (by simp)]
  · rw [p3 n hn, p2 n]
    by_cases h2 : n = (G.turn + 1) % 2
    · rw [if_pos h2, if_pos h2]
    · rw [if_neg h2, if_neg h2, p1 n hn]
theorem Dsk.Up.format {D : Dsk} {m : Nat} (h : D.Up (2 * m)) (hm : 4 ≤ m) (hm2 : m ≤ 512) : ∃ D', D.format = (0, D') ∧ D'.Up (2 * m) ∧ D'.cache = [] ∧ ∀ n, n < m → D'.pg n = if n = 1 then sealL 1 (textH 1 0 [0, 1]) else D.pg n := by
  obtain ⟨D2, e2, u2, c2, p2⟩ := h.hwrite (t := 1) (r := 0) (U := [0, 1]) (by omega) hm2
  obtain ⟨D3, e3, u3, c3, p3⟩ := u2.barrier2
  refine ⟨D3, ?_, u3, c3, fun n hn => ?_⟩
  · unfold Dsk.format
    have hn := h.n
    rw [show ((0 : Nat) : Int) = 0 from rfl] at e2
    rw [if_neg (by omega), e2]
    dsimp only
    rw [if_neg (by simp), e3]
  · rw [p3 n hn, p2 n]
    rfl
def pagesI (m : Nat) : List Int := (List.range m).map fun (n : Nat) => (n : Int)
/-- The first ones that are handed out. -/
def frs (j : Nat) : List Int := (List.range j).map fun (n : Nat) => ((n + 2 : Nat) : Int)
theorem frs_succ (j : Nat) : frs (j + 1) = frs j ++ [((j + 2 : Nat) : Int)] := by
  unfold frs
  rw [List.range_succ, List.map_append]; rfl
theorem frs_len (j : Nat) : (frs j).length = j := by simp [frs]
theorem frs_mem {j : Nat} {x : Int} : x ∈ frs j ↔ 2 ≤ x ∧ x < j + 2 := by
  unfold frs
  constructor
  · intro h
    obtain ⟨i, hi, rfl⟩ := List.mem_map.1 h
    have := List.mem_range.1 hi
    omega
  · intro h
    exact List.mem_map.2 ⟨(x - 2).toNat, List.mem_range.2 (by omega), by omega⟩
theorem frs_take {i j : Nat} (h : i ≤ j) : (frs j).take i = frs i := by
  unfold frs
  rw [← List.map_take, List.take_range, Nat.min_eq_left h]
theorem alloc_frs {G : Pgr} {j m : Nat} (hd : G.down = false) (hu : G.used = [0, 1]) (hf : G.fresh = frs j) (hj : j + 2 < m) : G.alloc m = (((j + 2 : Nat) : Int), 0, { G with fresh := frs (j + 1) }) := by
  unfold Pgr.alloc
  rw [if_neg (by rw [hd]; decide), hu, hf]
  have e : (List.range m).find? (fun (n : Nat) => !decide ((n : Int) ∈ ([0, 1] : List Int)) && !decide ((n : Int) ∈ frs j)) = some (j + 2) := by
    rw [List.find?_range_eq_some]
    refine ⟨?_, List.mem_range.2 hj, fun i hi => ?_⟩
    · simp only [frs_mem]
      simp
      omega
    · simp only [frs_mem]
      simp
      omega
  rw [e]
  dsimp only
  rw [frs_succ]
theorem alloc_full {G : Pgr} {j m : Nat} (hd : G.down = false) (hu : G.used = [0, 1]) (hf : G.fresh = frs j) (hj : m ≤ j + 2) : G.alloc m = (0, 6, G) := by
  unfold Pgr.alloc
  rw [if_neg (by rw [hd]; decide)]
  have e : (List.range m).find? (fun (n : Nat) => !decide ((n : Int) ∈ G.used) && !decide ((n : Int) ∈ G.fresh)) = none := by
    rw [List.find?_eq_none]
    intro n hn
    have := List.mem_range.1 hn
    rw [hu, hf]
    simp only [frs_mem]
    simp
    omega
  rw [e]
/-- How many are left. -/
def Pgr.left (G : Pgr) (m : Nat) : Nat := ((pagesI m).filter fun x => !decide (x ∈ G.used) && !decide (x ∈ G.fresh)).length
theorem told0 {G : Pgr} : G.told 0 = G := by
  unfold Pgr.told
  cases G
  simp
theorem Dsk.Up.gwrite {D : Dsk} {G : Pgr} {m n k : Nat} {t : List UInt8} (h : D.Up (2 * m)) (hd : G.down = false) (hn : n < m) (hf : (n : Int) ∈ G.fresh) (hm2 : m ≤ 512) (hk : 1 ≤ k) (hk9 : k ≤ 9) (ht : t.length ≤ 120) :
    ∃ D', G.write D (n : Int) (k : Int) t = (0, G, D') ∧ D'.Up (2 * m) ∧ D'.cache.length = D.cache.length + 2 ∧ ∀ i, D'.pg i = if i = n then sealL k t else D.pg i := by
  obtain ⟨D', e, u, c, p⟩ := h.write2 (n := n) (k := k) hn hm2 hk hk9 ht
  refine ⟨D', ?_, u, c, p⟩
  unfold Pgr.write
  rw [if_neg (by rw [hd]; decide), if_neg (by simpa using hf), e]
  dsimp only
  rw [told0]
end Go.AM
set_option linter.unusedVariables false
set_option linter.unusedSimpArgs false
namespace Go.AM
def need (n : Nat) : Nat := if min n 1048576 = 0 then 1 else (min n 1048576 + 117) / 118
theorem need_pos (n : Nat) : 1 ≤ need n := by
  unfold need
  split
  · exact Nat.le_refl 1
  · omega
def pagesL (j k : Nat) : List Int := (List.range k).map fun (i : Nat) => ((j + 2 + i : Nat) : Int)
theorem pagesL_len (j k : Nat) : (pagesL j k).length = k := by simp [pagesL]
theorem pagesL_succ (j k : Nat) : pagesL j (k + 1) = pagesL j k ++ [((j + 2 + k : Nat) : Int)] := by
  unfold pagesL
  rw [List.range_succ, List.map_append]; rfl
theorem pagesL_mem {j k : Nat} {x : Int} : x ∈ pagesL j k ↔ (j : Int) + 2 ≤ x ∧ x < j + 2 + k := by
  unfold pagesL
  constructor
  · intro h
    obtain ⟨i, hi, rfl⟩ := List.mem_map.1 h
    have := List.mem_range.1 hi
    omega
  · intro h
    exact List.mem_map.2 ⟨(x - j - 2).toNat, List.mem_range.2 (by omega), by omega⟩
theorem pagesL_at {j k i : Nat} (h : i < k) : (pagesL j k)[i]? = some ((j + 2 + i : Nat) : Int) := by
  unfold pagesL
  rw [List.getElem?_map, List.getElem?_range h]; rfl
def nextB (j k i : Nat) : Nat := if i + 1 < k then j + 2 + (i + 1) else 0
def pieceT (s : List UInt8) (i : Nat) : List UInt8 := (s.drop (118 * i)).take 118
def hdr (n : Nat) : List UInt8 := [UInt8.ofNat (n / 256), UInt8.ofNat n]
def bpage (s : List UInt8) (j k i : Nat) : List UInt8 := hdr (nextB j k i) ++ pieceT s i
theorem bpage_len (s : List UInt8) (j k i : Nat) : (bpage s j k i).length ≤ 120 := by
  unfold bpage pieceT hdr
  simp; omega
/-- A text stands in a disk's pages, from j + 2 on. -/
def Dsk.Has (D : Dsk) (s : List UInt8) (j k : Nat) : Prop := ∀ i, i < k → D.pg (j + 2 + i) = sealL 2 (bpage s j k i)
theorem Dsk.Up.gread {D : Dsk} {G : Pgr} {m n k : Nat} {t : List UInt8} (h : D.Up (2 * m)) (hd : G.down = false) (hn : n < m) (hm2 : m ≤ 512) (hk : 1 ≤ k) (hk9 : k ≤ 9) (ht : t.length ≤ 120) (hp : D.pg n = sealL k t) : G.read D (n : Int) = (((k : Int), t, 0), G) := by
  have hdn : D.n / 2 = m := by have := h.n; omega
  have e2 : D.pread (n : Int) = ((k : Int), t, 0) := by
    rw [h.pread hn (by omega)]
    show openR (D.pg n) = _
    rw [hp]
    exact open_seal hk hk9 ht
  unfold Pgr.read
  rw [if_neg (by rw [hd]; decide), hdn, if_neg (by omega), e2]
  dsimp only
  rw [told0]
theorem drop_piece (s : List UInt8) (i : Nat) : (s.drop (118 * i)).drop (min (s.drop (118 * i)).length 118) = s.drop (118 * (i + 1)) := by
  rw [List.drop_drop]
  rcases Nat.le_total (s.drop (118 * i)).length 118 with h | h
  · rw [Nat.min_eq_left h]
    rw [List.length_drop] at h ⊢
    rw [List.drop_of_length_le (by omega), List.drop_of_length_le (by omega)]
  · rw [Nat.min_eq_right h]
    congr 1
theorem take_piece (s : List UInt8) (i : Nat) : (s.drop (118 * i)).take (min (s.drop (118 * i)).length 118) = pieceT s i := by
  unfold pieceT
  rcases Nat.le_total (s.drop (118 * i)).length 118 with h | h
  · rw [Nat.min_eq_left h, List.take_length, List.take_of_length_le h]
  · rw [Nat.min_eq_right h]
theorem piece_join (s : List UInt8) (a i : Nat) : (s.drop (118 * a)).take (118 * i) ++ pieceT s (a + i) = (s.drop (118 * a)).take (118 * (i + 1)) := by
  unfold pieceT
  rw [show 118 * (a + i) = 118 * a + 118 * i by omega, ← List.drop_drop, show 118 * (i + 1) = 118 * i + 118 by omega, List.take_add]
theorem need_all {s : List UInt8} (h : s.length ≤ 1048576) : s.length ≤ 118 * need s.length := by
  unfold need
  rw [Nat.min_eq_left h]
  split
  · omega
  · omega
theorem hdr_val (n : Nat) (h : n < 65536) : (UInt8.ofNat (n / 256)).toNat * 256 + (UInt8.ofNat n).toNat = n := by
  simp only [UInt8.toNat_ofNat']
  omega
theorem perm1 {α : Type} (A : List α) (x : α) (B R : List α) : (A ++ (x :: (B ++ R))).Perm (B ++ (x :: (A ++ R))) := by
  have h1 : (A ++ (x :: (B ++ R))).Perm (x :: (A ++ (B ++ R))) := List.perm_middle
  have h2 : (B ++ (x :: (A ++ R))).Perm (x :: (B ++ (A ++ R))) := List.perm_middle
  refine h1.trans ((List.Perm.cons x ?_).trans h2.symm)
  rw [← List.append_assoc, ← List.append_assoc]
  exact List.Perm.append_right _ List.perm_append_comm
theorem perm2 {α : Type} (A : List α) (x : α) (B C R : List α) : (A ++ (x :: (B ++ (C ++ R)))).Perm (C ++ (A ++ (x :: (B ++ R)))) := by
  have e1 : A ++ (x :: (B ++ (C ++ R))) = (A ++ (x :: B)) ++ (C ++ R) := by simp
  have e2 : A ++ (x :: (B ++ R)) = (A ++ (x :: B)) ++ R := by simp
  rw [e1, e2, ← List.append_assoc, ← List.append_assoc C]
  exact List.Perm.append_right _ List.perm_append_comm
theorem FRS.freeze {e : TypeId} {v : Value} {l : List Int} {Lx L : List (Nat × Blk)} {H0 B0 B H : AH} {n : Nat} (hn : l.length = n) (h : FRS e v l Lx) (hS : St H0 B0 B (Lx ++ L) H) : ∃ B', MoC B B' ∧ ScN B' v n 1 (intV l) ∧ St H0 B0 B' L H := by
  subst hn
  rcases h with ⟨rfl, hv, rfl⟩ | ⟨b, cap, rest, rfl, h1, h2, rfl⟩
  · refine ⟨B, ⟨Mo.refl B⟩, ?_, hS⟩
    rcases hv with rfl | ⟨b, off, rfl⟩
    · exact .inl ⟨rfl, rfl, rfl⟩
    · exact .inr ⟨b, off, 0, rfl, Nat.le_refl _, by simp [intV], .inl rfl⟩
  · obtain ⟨B', q1, q2, q3⟩ := St.freeze hS
    refine ⟨B', ⟨q1⟩, .inr ⟨b, 0, cap, rfl, h2, by simp [intV_len], .inr ⟨_, q2, ?_⟩⟩, q3⟩
    unfold rdN
    rw [if_pos (by simp [intV_len]), List.drop_zero, Nat.mul_one, List.take_append_of_le_length (by simp [intV_len]), List.take_of_length_le (by simp [intV_len])]
theorem perm3 {α : Type} (x y z : α) (A R : List α) : (A ++ (z :: x :: y :: R)).Perm (x :: y :: z :: (A ++ R)) := by
  have h1 : (A ++ ([z, x, y] ++ R)).Perm ([z, x, y] ++ (A ++ R)) := by
    rw [← List.append_assoc, ← List.append_assoc]
    exact List.Perm.append_right _ List.perm_append_comm
  refine List.Perm.trans h1 ?_
  exact (List.Perm.swap _ _ _).trans (List.Perm.cons _ (List.Perm.swap _ _ _))
theorem permB4 {α : Type} (x y z : α) (A R : List α) : (z :: x :: y :: (A ++ R)).Perm (A ++ (x :: y :: z :: R)) := by
  have h1 : ([x, y, z] ++ (A ++ R)).Perm (A ++ ([x, y, z] ++ R)) := by
    rw [← List.append_assoc, ← List.append_assoc]
    exact List.Perm.append_right _ List.perm_append_comm
  refine List.Perm.trans ?_ h1
  exact (List.Perm.swap _ _ _).trans (List.Perm.cons _ (List.Perm.swap _ _ _))
end Go.AM
set_option linter.unusedVariables false
set_option linter.unusedSimpArgs false
set_option maxRecDepth 100000
namespace Go.AM.W
open Go Go.AM Go.Proofs
attribute [local irreducible] run bin un ld st box newV mkS fldA fld ixA ix slc slc3 build buildS cv cvS ap cpy lenV gOp pickV b2 aIf aChk evalK resume iterD Option.bind

section
variable {B B0 H0 H : AH} {L : List (Nat × Blk)}
theorem Need_spec {n : Nat} (h : n < 4611686018427387904) : Ev (fun k _ => rn k 10 [i64 n] H) (fun r => r = (i64 (need n), H)) := by
  refine Ev.fn (fun k => f10_eq k _ H) ?_
  refine Ev.prim (show fold1 maxV [i64 n, .int .i64 0] = some (i64 n) from by rw [max_int]; congr 2; omega) ?_
  refine Ev.prim (show fold1 minV [i64 n, .int .i64 1048576] = some (i64 (min n 1048576)) from by rw [min_int]; congr 2; omega) ?_
  unfold need
  generalize hz : min n 1048576 = z
  repeat (first | refine Ev.s ?_ | refine Ev.newC fun _ _ _ => ?_ | refine Ev.boxC fun _ _ _ => ?_ | refine Ev.stC fun _ _ => ?_ | refine Ev.sc (by omega) ?_ | refine Ev.scg (by omega) ?_)
  by_cases h0 : z = 0
  · rw [if_pos h0, decide_eq_true h0]
    repeat (first | refine Ev.s ?_ | refine Ev.newC fun _ _ _ => ?_ | refine Ev.boxC fun _ _ _ => ?_ | refine Ev.stC fun _ _ => ?_ | refine Ev.sc (by omega) ?_ | refine Ev.scg (by omega) ?_)
    exact Ev.ret rfl
  · rw [if_neg h0, decide_eq_false h0]
    repeat (first | (first | refine Ev.s ?_ | refine Ev.newC fun _ _ _ => ?_ | refine Ev.boxC fun _ _ _ => ?_ | refine Ev.stC fun _ _ => ?_ | refine Ev.sc (by omega) ?_ | refine Ev.scg (by omega) ?_) | rw [decide_eq_true (by omega)] | rw [decide_eq_false (by omega)])
    exact Ev.ret (by rw [show z + 118 - 1 = z + 117 by omega])
theorem lay_alloc {p dv : Value} {D : Dsk} {m j k : Nat} {s1 : Value} (hU : D.Up (2 * m)) (hm2 : m ≤ 512) (hk : k < 100000) (hjm : j + 2 ≤ m) : ∀ (q i : Nat) (B H : AH) (Ls Lv : List (Nat × Blk)) (v : Value), i + q = k → j + i + 2 ≤ m → PK p dv ⟨1, 0, [0, 1], frs (j + i), false⟩ D Ls → FR v (pagesL j i) Lv → St H0 B0 B (Lv ++ (Ls ++ L)) H →
    Ev (fun K K2 => f18_L0 K p s1 v (i64 k) (i64 i) K2 H) (fun o =>
      (j + k + 2 ≤ m ∧ ∃ B' H' Ls' Lv' v', o = (.exit 0, f18_X_L0 p s1 unk unk v', H') ∧ MoC B B' ∧ PK p dv ⟨1, 0, [0, 1], frs (j + k), false⟩ D Ls' ∧ FR v' (pagesL j k) Lv' ∧ St H0 B0 B' (Lv' ++ (Ls' ++ L)) H') ∨
      (m < j + k + 2 ∧ ∃ B' H' Ls' w, o = (.ret, f18_X_L0 p s1 (.slice none 0 0) (.int .i64 6) w, H') ∧ MoC B B' ∧ PK p dv ⟨1, 0, [0, 1], frs (m - 2), false⟩ D Ls' ∧ St H0 B0 B' (Ls' ++ L) H')) := by
  have hdn : D.n / 2 = m := by have := hU.n; omega
  intro q
  induction q with
  | zero =>
    intro i B H Ls Lv v hi hj hP hF hS
    refine Ev.succ (fun K K2 => f18_L0_succ K _ _ _ _ _ K2 H) ?_
    have : i = k := by omega
    subst this
    repeat (first | (first | refine Ev.s ?_ | refine Ev.newC fun _ _ _ => ?_ | refine Ev.boxC fun _ _ _ => ?_ | refine Ev.stC fun _ _ => ?_ | refine Ev.sc (by omega) ?_ | refine Ev.scg (by omega) ?_) | rw [decide_eq_true (by omega)] | rw [decide_eq_false (by omega)])
    exact Ev.ret (.inl ⟨hj, B, H, Ls, Lv, v, rfl, ⟨Mo.refl B⟩, hP, hF, hS⟩)
  | succ q ih =>
    intro i B H Ls Lv v hi hj hP hF hS
    refine Ev.succ (fun K K2 => f18_L0_succ K _ _ _ _ _ K2 H) ?_
    repeat (first | (first | refine Ev.s ?_ | refine Ev.newC fun _ _ _ => ?_ | refine Ev.boxC fun _ _ _ => ?_ | refine Ev.stC fun _ _ => ?_ | refine Ev.sc (by omega) ?_ | refine Ev.scg (by omega) ?_) | rw [decide_eq_true (by omega)] | rw [decide_eq_false (by omega)])
    have hS2 : St H0 B0 B (Ls ++ (Lv ++ L)) H := hS.perm (permA Lv Ls L)
    refine Ev.b2 (Alloc_spec hP hU.ok (by rw [frs_len]; omega) hS2) ?_
    clear hS hS2
    rw [hdn]
    by_cases hr : j + i + 2 < m
    · rw [alloc_frs (j := j + i) rfl rfl rfl hr]
      rintro _ H1 ⟨rfl, Ls1, B1, hm1, hP1, hS1⟩
      dsimp only at hS1 hP1
      repeat (first | refine Ev.s ?_ | refine Ev.newC fun _ _ _ => ?_ | refine Ev.boxC fun _ _ _ => ?_ | refine Ev.stC fun _ _ => ?_ | refine Ev.sc (by omega) ?_ | refine Ev.scg (by omega) ?_)
      have hS3 : St H0 B0 B1 (Lv ++ (Ls1 ++ L)) H1 := hS1.perm (permA Ls1 Lv L)
      refine FRS.push (x := ((j + i + 2 : Nat) : Int)) eltI hF hS3 (by rw [pagesL_len]; omega) fun v' Lv' H' hF' hS' => ?_
      have e : pagesL j i ++ [((j + i + 2 : Nat) : Int)] = pagesL j (i + 1) := by rw [pagesL_succ, show j + i + 2 = j + 2 + i by omega]
      rw [e] at hF'
      clear hS1 hS3
      repeat (first | (first | refine Ev.s ?_ | refine Ev.newC fun _ _ _ => ?_ | refine Ev.boxC fun _ _ _ => ?_ | refine Ev.stC fun _ _ => ?_ | refine Ev.sc (by omega) ?_ | refine Ev.scg (by omega) ?_) | rw [decide_eq_true (by omega)] | rw [decide_eq_false (by omega)])
      refine (ih (i + 1) B1 H' Ls1 Lv' v' (by omega) (by omega) hP1 hF' hS').mono ?_
      rintro o (⟨h1, B', H2, Ls', Lv2, v2, rfl, hm', h2, h3, h4⟩ | ⟨h1, B', H2, Ls', w, rfl, hm', h2, h3⟩)
      · exact .inl ⟨h1, B', H2, Ls', Lv2, v2, rfl, ⟨hm1.mo.trans hm'.mo⟩, h2, h3, h4⟩
      · exact .inr ⟨h1, B', H2, Ls', w, rfl, ⟨hm1.mo.trans hm'.mo⟩, h2, h3⟩
    · rw [alloc_full (j := j + i) rfl rfl rfl (by omega)]
      rintro _ H1 ⟨rfl, Ls1, B1, hm1, hP1, hS1⟩
      dsimp only at hS1 hP1
      repeat (first | refine Ev.s ?_ | refine Ev.newC fun _ _ _ => ?_ | refine Ev.boxC fun _ _ _ => ?_ | refine Ev.stC fun _ _ => ?_ | refine Ev.sc (by omega) ?_ | refine Ev.scg (by omega) ?_)
      dsimp only
      rw [show decide ((6 : Int) ≠ 0) = true from rfl]
      repeat (first | refine Ev.s ?_ | refine Ev.newC fun _ _ _ => ?_ | refine Ev.boxC fun _ _ _ => ?_ | refine Ev.stC fun _ _ => ?_ | refine Ev.sc (by omega) ?_ | refine Ev.scg (by omega) ?_)
      rw [show j + i = m - 2 by omega] at hP1
      exact Ev.ret (.inr ⟨by omega, B1, H1, Ls1, v, rfl, hm1, hP1, hS1.drop (List.Sublist.append_left (List.sublist_append_right _ _) _)⟩)
theorem u8s (a b : Nat) : [u8 (a % 256), u8 (b % 256)] = byts [UInt8.ofNat a, UInt8.ofNat b] := by
  simp only [byts, List.map_cons, List.map_nil]
  rfl
theorem lay_write {p dv : Value} {m j k : Nat} {v : Value} {s : List UInt8} (hm2 : m ≤ 512) (hjm : j + k + 2 ≤ m) (hs : s.length ≤ 60000) : ∀ (q i : Nat) (B H : AH) (Ls Lv : List (Nat × Blk)) (D : Dsk), i + q = k → D.Up (2 * m) → D.cache.length < 100000 + 2 * i → PK p dv ⟨1, 0, [0, 1], frs (j + k), false⟩ D Ls → FR v (pagesL j k) Lv → St H0 B0 B (Lv ++ (Ls ++ L)) H →
    Ev (fun K K2 => f18_L1 K p (str (s.drop (118 * i))) v v (i64 k) (i64 i) K2 H) (fun o => ∃ B' H' Ls' D', o = (.exit 2, f18_X_L1 unk unk v, H') ∧ MoC B B' ∧ D'.Up (2 * m) ∧ D'.cache.length = D.cache.length + 2 * q ∧ PK p dv ⟨1, 0, [0, 1], frs (j + k), false⟩ D' Ls' ∧
      (∀ n, D'.pg n = if j + 2 + i ≤ n ∧ n < j + 2 + k then sealL 2 (bpage s j k (n - (j + 2))) else D.pg n) ∧ St H0 B0 B' (Lv ++ (Ls' ++ L)) H') := by
  intro q
  induction q with
  | zero =>
    intro i B H Ls Lv D hi hU hc hP hF hS
    refine Ev.succ (fun K K2 => f18_L1_succ K _ _ _ _ _ _ K2 H) ?_
    have : i = k := by omega
    subst this
    repeat (first | (first | refine Ev.s ?_ | refine Ev.newC fun _ _ _ => ?_ | refine Ev.boxC fun _ _ _ => ?_ | refine Ev.stC fun _ _ => ?_ | refine Ev.sc (by omega) ?_ | refine Ev.scg (by omega) ?_) | rw [decide_eq_true (by omega)] | rw [decide_eq_false (by omega)])
    exact Ev.ret ⟨B, H, Ls, D, rfl, ⟨Mo.refl B⟩, hU, rfl, hP, (fun n => by rw [if_neg (by omega)]), hS⟩
  | succ q ih =>
    intro i B H Ls Lv D hi hU hc hP hF hS
    refine Ev.succ (fun K K2 => f18_L1_succ K _ _ _ _ _ _ K2 H) ?_
    repeat (first | (first | refine Ev.s ?_ | refine Ev.newC fun _ _ _ => ?_ | refine Ev.boxC fun _ _ _ => ?_ | refine Ev.stC fun _ _ => ?_ | refine Ev.sc (by omega) ?_ | refine Ev.scg (by omega) ?_) | rw [decide_eq_true (by omega)] | rw [decide_eq_false (by omega)])
    have hN := hF.now hS fun x hx => List.mem_append_left _ hx
    rw [pagesL_len] at hN
    have hx : ∀ a, a < k → (intV (pagesL j k))[a]? = some (.int .i64 ((j + 2 + a : Nat) : Int)) := fun a ha => by unfold intV; rw [List.getElem?_map, pagesL_at ha]; rfl
    refine Ev.ixN (t := 31) hN i rfl (by omega) (hx i (by omega)) fun pp hp => ?_
    refine Ev.prim (hp.eq H (Mo.refl H)) ?_
    have hlv := hF.len (Und.eq (P := Tryd.prog) (t := 31))
    rw [pagesL_len] at hlv
    refine Ev.prim hlv ?_
    repeat (first | (first | refine Ev.s ?_ | refine Ev.newC fun _ _ _ => ?_ | refine Ev.boxC fun _ _ _ => ?_ | refine Ev.stC fun _ _ => ?_ | refine Ev.sc (by omega) ?_ | refine Ev.scg (by omega) ?_) | rw [decide_eq_true (by omega)] | rw [decide_eq_false (by omega)])
    have hlen : (s.drop (118 * i)).length < 9223372036854775808 := by rw [List.length_drop]; omega
    -- what is behind the next page's number
    have go : ∀ nx : Nat, nx = nextB j k i → Ev (fun K K2 => f18_J0 K K2 p (str (s.drop (118 * i))) v (i64 (j + 2 + i)) (i64 nx) v (i64 k) (i64 i) H) (fun o => ∃ B' H' Ls' D', o = (.exit 2, f18_X_L1 unk unk v, H') ∧ MoC B B' ∧ D'.Up (2 * m) ∧ D'.cache.length = D.cache.length + 2 * (q + 1) ∧ PK p dv ⟨1, 0, [0, 1], frs (j + k), false⟩ D' Ls' ∧
      (∀ n, D'.pg n = if j + 2 + i ≤ n ∧ n < j + 2 + k then sealL 2 (bpage s j k (n - (j + 2))) else D.pg n) ∧ St H0 B0 B' (Lv ++ (Ls' ++ L)) H') := by
      intro nx hnx
      refine Ev.eq (fun K K2 => f18_J0_eq K K2 _ _ _ _ _ _ _ _ H) ?_
      repeat (first | refine Ev.s ?_ | refine Ev.newC fun _ _ _ => ?_ | refine Ev.boxC fun _ _ _ => ?_ | refine Ev.stC fun _ _ => ?_ | refine Ev.sc (by omega) ?_ | refine Ev.scg (by omega) ?_)
      rw [show (if (118 : Int) < ((s.drop (118 * i)).length : Int) then (118 : Int) else ((s.drop (118 * i)).length : Int)) = ((min (s.drop (118 * i)).length 118 : Nat) : Int) by split <;> omega]
      refine Ev.prim (shrL (by decide)) ?_
      refine Ev.prim (toU8 (Und.eq (P := Tryd.prog) (t := 3)) (Und.eq (P := Tryd.prog) (t := 5))) ?_
      refine Ev.prim (toU8 (Und.eq (P := Tryd.prog) (t := 3)) (Und.eq (P := Tryd.prog) (t := 5))) ?_
      refine Ev.bsC (by decide) fun bb H1 hS1 => ?_
      rw [show nx / 2 ^ 8 = nx / 256 from rfl, u8s (nx / 256) nx] at hS1
      refine Ev.prim (cvS_part (d := 9) (bs := hdr nx) hS1 (.head _) (Nat.le_refl _) (by show 0 + 2 ≤ 2; decide)) ?_
      rw [show ((hdr nx).drop 0).take 2 = hdr nx from rfl]
      refine Ev.prim (slc_strT (l := s.drop (118 * i)) (i := min (s.drop (118 * i)).length 118) (Nat.min_le_left _ _)) ?_
      rw [take_piece]
      refine Ev.prim (add_str (a := hdr nx) (b := pieceT s i) (by unfold pieceT hdr; simp; omega)) ?_
      have eb : hdr nx ++ pieceT s i = bpage s j k i := by rw [hnx]; rfl
      rw [eb]
      obtain ⟨D2, e2, u2, c2, pg2⟩ := hU.gwrite (G := ⟨1, 0, [0, 1], frs (j + k), false⟩) (n := j + 2 + i) (k := 2) (t := bpage s j k i) rfl (by omega) (frs_mem.2 (by omega)) hm2 (by decide) (by decide) (bpage_len s j k i)
      have hS2 : St H0 B0 B (Ls ++ (Lv ++ L)) H1 := hS1.drop1.perm (permA Lv Ls L)
      have hbl := bpage_len s j k i
      refine Ev.b2 (Write_specP (n := ((j + 2 + i : Nat) : Int)) (kind := ((2 : Nat) : Int)) (t := bpage s j k i) hP hU.ok (by omega) (by show (frs (j + k)).length < 100000; rw [frs_len]; omega) (by omega) (by decide) hS2) ?_
      rw [e2]
      clear hS1 hS2
      rintro _ H2 ⟨rfl, Ls2, B2, hm2', hP2, hS2⟩
      dsimp only at hS2 hP2
      repeat (first | (first | refine Ev.s ?_ | refine Ev.newC fun _ _ _ => ?_ | refine Ev.boxC fun _ _ _ => ?_ | refine Ev.stC fun _ _ => ?_ | refine Ev.sc (by omega) ?_ | refine Ev.scg (by omega) ?_) | rw [decide_eq_true (by omega)] | rw [decide_eq_false (by omega)])
      refine Ev.prim (slc_str (l := s.drop (118 * i)) (min (s.drop (118 * i)).length 118) rfl (Nat.min_le_left _ _)) ?_
      rw [drop_piece]
      repeat (first | (first | refine Ev.s ?_ | refine Ev.newC fun _ _ _ => ?_ | refine Ev.boxC fun _ _ _ => ?_ | refine Ev.stC fun _ _ => ?_ | refine Ev.sc (by omega) ?_ | refine Ev.scg (by omega) ?_) | rw [decide_eq_true (by omega)] | rw [decide_eq_false (by omega)])
      have hS3 : St H0 B0 B2 (Lv ++ (Ls2 ++ L)) H2 := hS2.perm (permA Ls2 Lv L)
      refine (ih (i + 1) B2 H2 Ls2 Lv D2 (by omega) u2 (by omega) hP2 hF hS3).mono ?_
      rintro o ⟨B', H', Ls', D', rfl, hm', u', c', hP', hpg, hS'⟩
      refine ⟨B', H', Ls', D', rfl, ⟨hm2'.mo.trans hm'.mo⟩, u', by omega, hP', fun n => ?_, hS'⟩
      rw [hpg n, pg2 n]
      by_cases h1 : n = j + 2 + i
      · rw [if_neg (by omega), if_pos h1, if_pos (by omega), h1, show j + 2 + i - (j + 2) = i by omega]
      · by_cases h2 : j + 2 + (i + 1) ≤ n ∧ n < j + 2 + k
        · rw [if_pos h2, if_pos (by omega)]
        · rw [if_neg h2, if_neg h1, if_neg (by omega)]
    by_cases hlast : i + 1 < k
    · rw [decide_eq_true (by omega)]
      repeat (first | (first | refine Ev.s ?_ | refine Ev.newC fun _ _ _ => ?_ | refine Ev.boxC fun _ _ _ => ?_ | refine Ev.stC fun _ _ => ?_ | refine Ev.sc (by omega) ?_ | refine Ev.scg (by omega) ?_) | rw [decide_eq_true (by omega)] | rw [decide_eq_false (by omega)])
      refine Ev.ixN (t := 31) hN (i + 1) rfl (by omega) (hx (i + 1) (by omega)) fun pp2 hp2 => ?_
      refine Ev.prim (hp2.eq H (Mo.refl H)) ?_
      exact go (j + 2 + (i + 1)) (by unfold nextB; rw [if_pos hlast])
    · rw [decide_eq_false (by omega)]
      repeat (first | (first | refine Ev.s ?_ | refine Ev.newC fun _ _ _ => ?_ | refine Ev.boxC fun _ _ _ => ?_ | refine Ev.stC fun _ _ => ?_ | refine Ev.sc (by omega) ?_ | refine Ev.scg (by omega) ?_) | rw [decide_eq_true (by omega)] | rw [decide_eq_false (by omega)])
      exact go 0 (by unfold nextB; rw [if_neg hlast])
end
end Go.AM.W
set_option linter.unusedVariables false
set_option linter.unusedSimpArgs false
set_option maxRecDepth 100000
namespace Go.AM.W
open Go Go.AM Go.Proofs
attribute [local irreducible] run bin un ld st box newV mkS fldA fld ixA ix slc slc3 build buildS cv cvS ap cpy lenV gOp pickV b2 aIf aChk evalK resume iterD Option.bind

section
variable {B B0 H0 H : AH} {L : List (Nat × Blk)}
/-- Where a text stands, and what else does. -/
def Laid (s : List UInt8) (j k : Nat) (D D' : Dsk) : Prop := ∀ n, D'.pg n = if j + 2 ≤ n ∧ n < j + 2 + k then sealL 2 (bpage s j k (n - (j + 2))) else D.pg n
theorem blay_spec {p dv : Value} {D : Dsk} {m j : Nat} {s : List UInt8} {Ls : List (Nat × Blk)} (hU : D.Up (2 * m)) (hm2 : m ≤ 512) (hc : D.cache.length < 100000) (hjm : j + 2 ≤ m) (hs : s.length ≤ 60000) (hP : PK p dv ⟨1, 0, [0, 1], frs j, false⟩ D Ls) (hS : St H0 B0 B (Ls ++ L) H) :
    Ev (fun K _ => rn K 18 [p, str s] H) (fun r =>
      (j + need s.length + 2 ≤ m ∧ ∃ B' Ls' Lv' v' D', r.1 = .tuple #[v', .int .i64 0] ∧ MoC B B' ∧ D'.Up (2 * m) ∧ D'.cache.length = D.cache.length + 2 * need s.length ∧ Laid s j (need s.length) D D' ∧ PK p dv ⟨1, 0, [0, 1], frs (j + need s.length), false⟩ D' Ls' ∧ FR v' (pagesL j (need s.length)) Lv' ∧ St H0 B0 B' (Lv' ++ (Ls' ++ L)) r.2) ∨
      (m < j + need s.length + 2 ∧ ∃ B' Ls', r.1 = .tuple #[.slice none 0 0, .int .i64 6] ∧ MoC B B' ∧ PK p dv ⟨1, 0, [0, 1], frs (m - 2), false⟩ D Ls' ∧ St H0 B0 B' (Ls' ++ L) r.2)) := by
  refine Ev.fn (fun K => f18_eq K _ _ H) ?_
  have hneed : need s.length ≤ 10000 := by unfold need; split <;> omega
  repeat (first | refine Ev.s ?_ | refine Ev.newC fun _ _ _ => ?_ | refine Ev.boxC fun _ _ _ => ?_ | refine Ev.stC fun _ _ => ?_ | refine Ev.sc (by omega) ?_ | refine Ev.scg (by omega) ?_)
  refine Ev.b2 (Need_spec (n := s.length) (by omega)) ?_
  rintro v H1 h
  cases h
  generalize hk : need s.length = k at hneed ⊢
  refine Ev.bind (Ev.loop (lay_alloc (s1 := str s) hU hm2 (k := k) (by omega) hjm k 0 B H Ls [] (.slice none 0 0) (by omega) (by omega) hP FRS.nil hS)) ?_
  rintro _ (⟨h1, B1, H1, Ls1, Lv1, v1, rfl, hm1, hP1, hF1, hS1⟩ | ⟨h1, B1, H1, Ls1, w, rfl, hm1, hP1, hS1⟩)
  · refine Ev.eq (fun K _ => f18_A0_x0 K _ _ _ _ _ H1) ?_
    have hlv := hF1.len (Und.eq (P := Tryd.prog) (t := 31))
    rw [pagesL_len] at hlv
    refine Ev.prim hlv ?_
    refine Ev.bind (Ev.loop (lay_write (s := s) hm2 h1 hs k 0 B1 H1 Ls1 Lv1 D (by omega) hU (by omega) hP1 hF1 hS1)) ?_
    rintro _ ⟨B2, H2, Ls2, D2, rfl, hm2', u2, c2, hP2, hpg, hS2⟩
    refine Ev.eq (fun K _ => f18_A1_x2 K _ _ _ H2) ?_
    exact Ev.ret (.inl ⟨h1, B2, Ls2, Lv1, v1, D2, rfl, ⟨hm1.mo.trans hm2'.mo⟩, u2, c2, hpg, hP2, hF1, hS2⟩)
  · refine Ev.eq (fun K _ => f18_A0_ret K _ _ _ _ _ H1) ?_
    exact Ev.ret (.inr ⟨h1, B1, Ls1, rfl, hm1, hP1, hS1⟩)
theorem bWrite_spec {p dv : Value} {D : Dsk} {m j : Nat} {s : List UInt8} {Ls : List (Nat × Blk)} (hU : D.Up (2 * m)) (hm2 : m ≤ 512) (hc : D.cache.length < 100000) (hjm : j + 2 ≤ m) (hs : s.length ≤ 60000) (hP : PK p dv ⟨1, 0, [0, 1], frs j, false⟩ D Ls) (hS : St H0 B0 B (Ls ++ L) H) :
    Ev (fun K _ => rn K 9 [p, str s] H) (fun r =>
      (j + need s.length + 2 ≤ m ∧ ∃ B' Ls' D', r.1 = .tuple #[i64 (j + 2), .int .i64 0] ∧ MoC B B' ∧ D'.Up (2 * m) ∧ D'.cache.length = D.cache.length + 2 * need s.length ∧ Laid s j (need s.length) D D' ∧ PK p dv ⟨1, 0, [0, 1], frs (j + need s.length), false⟩ D' Ls' ∧ St H0 B0 B' (Ls' ++ L) r.2) ∨
      (m < j + need s.length + 2 ∧ ∃ B' Ls', r.1 = .tuple #[.int .i64 0, .int .i64 6] ∧ MoC B B' ∧ PK p dv ⟨1, 0, [0, 1], frs j, false⟩ D Ls' ∧ St H0 B0 B' (Ls' ++ L) r.2)) := by
  refine Ev.fn (fun K => f9_eq K _ _ H) ?_
  have hnp := need_pos s.length
  repeat (first | (first | refine Ev.s ?_ | refine Ev.newC fun _ _ _ => ?_ | refine Ev.boxC fun _ _ _ => ?_ | refine Ev.stC fun _ _ => ?_ | refine Ev.sc (by omega) ?_ | refine Ev.scg (by omega) ?_) | rw [decide_eq_true (by omega)] | rw [decide_eq_false (by omega)])
  refine Ev.b2 (Fresh_spec hP (by show (frs j).length < 100000; rw [frs_len]; omega) hS) ?_
  clear hS
  rintro v1 H1 ⟨B1, hm1, hsc1, hS1⟩
  dsimp only at hS1 hsc1
  rw [frs_len] at hsc1
  refine Ev.prim (hsc1.len (Und.eq (P := Tryd.prog) (t := 31))) ?_
  refine Ev.b2 (blay_spec hU hm2 hc hjm hs hP hS1) ?_
  clear hS1
  rintro _ H2 (⟨h1, B2, Ls2, Lv2, v2, D2, rfl, hm2', u2, c2, hL2, hP2, hF2, hS2⟩ | ⟨h1, B2, Ls2, rfl, hm2', hP2, hS2⟩)
  · dsimp only at hS2
    repeat (first | (first | refine Ev.s ?_ | refine Ev.newC fun _ _ _ => ?_ | refine Ev.boxC fun _ _ _ => ?_ | refine Ev.stC fun _ _ => ?_ | refine Ev.sc (by omega) ?_ | refine Ev.scg (by omega) ?_) | rw [decide_eq_true (by omega)] | rw [decide_eq_false (by omega)])
    have hN := hF2.now hS2 fun x hx => List.mem_append_left _ hx
    rw [pagesL_len] at hN
    refine Ev.ixN (t := 31) (x := i64 (j + 2)) hN 0 rfl (by omega) (by unfold intV; rw [List.getElem?_map, pagesL_at (by omega)]; rfl) fun pp hp => ?_
    refine Ev.prim (hp.eq H2 (Mo.refl H2)) ?_
    exact Ev.ret (.inl ⟨h1, B2, Ls2, D2, rfl, ⟨hm1.mo.trans hm2'.mo⟩, u2, c2, hL2, hP2, hS2.drop (List.sublist_append_right _ _)⟩)
  · dsimp only at hS2
    repeat (first | (first | refine Ev.s ?_ | refine Ev.newC fun _ _ _ => ?_ | refine Ev.boxC fun _ _ _ => ?_ | refine Ev.stC fun _ _ => ?_ | refine Ev.sc (by omega) ?_ | refine Ev.scg (by omega) ?_) | rw [decide_eq_true (by omega)] | rw [decide_eq_false (by omega)])
    refine Ev.b2 (Back_spec (many := (j : Int)) hP2 (by show (frs (m - 2)).length < 100000; rw [frs_len]; omega) hS2) ?_
    rw [show Pgr.back ⟨1, 0, [0, 1], frs (m - 2), false⟩ (j : Int) = ⟨1, 0, [0, 1], frs j, false⟩ by unfold Pgr.back; rw [Int.toNat_natCast, frs_take (by omega)]]
    rintro _ H3 ⟨rfl, Ls3, B3, hm3, hP3, hS3⟩
    dsimp only at hS3
    exact Ev.ret (.inr ⟨h1, B3, Ls3, rfl, ⟨hm1.mo.trans (hm2'.mo.trans hm3.mo)⟩, hP3, hS3⟩)
end
end Go.AM.W
set_option linter.unusedVariables false
set_option linter.unusedSimpArgs false
set_option maxRecDepth 100000
namespace Go.AM.W
open Go Go.AM Go.Proofs
attribute [local irreducible] run bin un ld st box newV mkS fldA fld ixA ix slc slc3 build buildS cv cvS ap cpy lenV gOp pickV b2 aIf aChk evalK resume iterD Option.bind

section
variable {B B0 H0 H : AH} {L : List (Nat × Blk)}
theorem parts_one {p dv x2 b m j k a t : Nat} {D : Dsk} {s : List UInt8} {G : Pgr} {J : Nat → List (Nat × Blk) → Prop} {B H : AH} {Ls Lm Lj : List (Nat × Blk)} {mv : Value} (hU : D.Up (2 * m)) (hm2 : m ≤ 512) (hc : D.cache.length < 1000000) (hd : G.down = false) (hH : D.Has s j k) (hjm : j + 2 + k ≤ m)
    (yl : ∀ i, i < k → ∀ (B H : AH) (Lj Lx : List (Nat × Blk)), J i Lj → St H0 B0 B (Lj ++ Lx) H → Ev (fun K _ => rn K (yOff + b) [.agg #[i64 (j + 2 + i), str (pieceT s i), .int .i64 0]] H) (fun r => r.1 = .bool true ∧ ∃ B' Lj', MoC B B' ∧ J (i + 1) Lj' ∧ St H0 B0 B' (Lj' ++ Lx) r.2))
    (htk : a + t < k) (hP : PK (ptr p 0) (ptr dv 0) G D Ls) (hF : FR mv (pagesL (j + a) t) Lm) (hJ : J (a + t) Lj) (hS : St H0 B0 B (Ls ++ ((x2, ⟨[ptr p 0], 28, .fix⟩) :: (Lm ++ (Lj ++ L)))) H)
    (next : a + t + 1 < k → ∀ (B1 H1 : AH) (Ls1 Lm1 Lj1 : List (Nat × Blk)) (mv1 : Value), MoC B B1 → PK (ptr p 0) (ptr dv 0) G D Ls1 → FR mv1 (pagesL (j + a) (t + 1)) Lm1 → J (a + (t + 1)) Lj1 → St H0 B0 B1 (Ls1 ++ ((x2, ⟨[ptr p 0], 28, .fix⟩) :: (Lm1 ++ (Lj1 ++ L)))) H1 →
      Ev (fun K K2 => f32_L0 K (.func (.yield b) #[] #[]) (ptr x2 0) mv1 (i64 (j + 2 + (a + (t + 1)))) K2 H1) (fun o => ∃ B' Ls' Lj' H', o = (.ret, f32_X_L0, H') ∧ MoC B B' ∧ PK (ptr p 0) (ptr dv 0) G D Ls' ∧ J k Lj' ∧ St H0 B0 B' (Ls' ++ (Lj' ++ L)) H')) :
    Ev (fun K K2 => f32_L0 K (.func (.yield b) #[] #[]) (ptr x2 0) mv (i64 (j + 2 + (a + t))) K2 H) (fun o => ∃ B' Ls' Lj' H', o = (.ret, f32_X_L0, H') ∧ MoC B B' ∧ PK (ptr p 0) (ptr dv 0) G D Ls' ∧ J k Lj' ∧ St H0 B0 B' (Ls' ++ (Lj' ++ L)) H') := by
  have hdn : D.n / 2 = m := by have := hU.n; omega
  refine Ev.succ (fun K K2 => f32_L0_succ K _ _ _ _ K2 H) ?_
  have ix2 : InL x2 ⟨[ptr p 0], 28, .fix⟩ (Ls ++ ((x2, ⟨[ptr p 0], 28, .fix⟩) :: (Lm ++ (Lj ++ L)))) := ⟨List.mem_append_right _ (.head _)⟩
  repeat (first | refine Ev.s ?_ | refine Ev.newC fun _ _ _ => ?_ | refine Ev.boxC fun _ _ _ => ?_ | refine Ev.stC fun _ _ => ?_ | refine Ev.sc (by omega) ?_ | refine Ev.scg (by omega) ?_)
  have er : G.read D ((j + 2 + (a + t) : Nat) : Int) = ((2, bpage s j k (a + t), 0), G) := hU.gread hd (by omega) hm2 (by decide) (by decide) (bpage_len s j k (a + t)) (hH (a + t) htk)
  refine Ev.b2 (Read_specP (n := ((j + 2 + (a + t) : Nat) : Int)) hP hU.ok (by omega) hS) ?_
  rw [er]
  clear hS ix2
  rintro _ H1 ⟨rfl, Ls1, B1, hm1, hP1, hS1⟩
  dsimp only at hS1 hP1
  unfold OpenV
  dsimp only
  have hl2 : (bpage s j k (a + t)).length = 2 + (pieceT s (a + t)).length := by unfold bpage hdr; simp; omega
  have hbl := bpage_len s j k (a + t)
  have hnlt : nextB j k (a + t) < m := by unfold nextB; split <;> omega
  have hn1 : nextB j k (a + t) ≠ 1 := by unfold nextB; split <;> omega
  have g0 : (bpage s j k (a + t)).getD 0 0 = UInt8.ofNat (nextB j k (a + t) / 256) := rfl
  have g1 : (bpage s j k (a + t)).getD 1 0 = UInt8.ofNat (nextB j k (a + t)) := rfl
  have gd : (bpage s j k (a + t)).drop 2 = pieceT s (a + t) := rfl
  have hnv := hdr_val (nextB j k (a + t)) (by omega)
  have hu0 := (UInt8.ofNat (nextB j k (a + t) / 256)).toNat_lt
  have hu1 := (UInt8.ofNat (nextB j k (a + t))).toNat_lt
  repeat (first | (first | refine Ev.s ?_ | refine Ev.newC fun _ _ _ => ?_ | refine Ev.boxC fun _ _ _ => ?_ | refine Ev.stC fun _ _ => ?_ | refine Ev.sc (by omega) ?_ | refine Ev.scg (by omega) ?_) | rw [decide_eq_true (by omega)] | rw [decide_eq_false (by omega)])
  have hlv := hF.len (Und.eq (P := Tryd.prog) (t := 31))
  rw [pagesL_len] at hlv
  refine Ev.gPrim hlv rfl ?_
  repeat (first | (first | refine Ev.s ?_ | refine Ev.newC fun _ _ _ => ?_ | refine Ev.boxC fun _ _ _ => ?_ | refine Ev.stC fun _ _ => ?_ | refine Ev.sc (by omega) ?_ | refine Ev.scg (by omega) ?_) | rw [decide_eq_true (by omega)] | rw [decide_eq_false (by omega)])
  have hS2 : St H0 B0 B1 (Lm ++ ((x2, ⟨[ptr p 0], 28, .fix⟩) :: (Ls1 ++ (Lj ++ L)))) H1 := hS1.perm (perm1 Lm _ Ls1 (Lj ++ L))
  refine FRS.push (x := ((j + 2 + (a + t) : Nat) : Int)) eltI hF hS2 (by rw [pagesL_len]; omega) fun mv' Lm' H2 hF' hS3 => ?_
  clear hS1 hS2
  have ep : pagesL (j + a) t ++ [((j + 2 + (a + t) : Nat) : Int)] = pagesL (j + a) (t + 1) := by rw [pagesL_succ, show j + a + 2 + t = j + 2 + (a + t) by omega]
  rw [ep] at hF'
  have hS4 : St H0 B0 B1 (Ls1 ++ ((x2, ⟨[ptr p 0], 28, .fix⟩) :: (Lm' ++ (Lj ++ L)))) H2 := hS3.perm (perm1 Ls1 _ Lm' (Lj ++ L))
  clear hS3
  refine Ev.prim (ix_str 0 rfl (by omega)) ?_
  rw [g0]
  repeat (first | refine Ev.s ?_ | refine Ev.newC fun _ _ _ => ?_ | refine Ev.boxC fun _ _ _ => ?_ | refine Ev.stC fun _ _ => ?_ | refine Ev.sc (by omega) ?_ | refine Ev.scg (by omega) ?_)
  refine Ev.prim (shl8 (by omega)) ?_
  refine Ev.prim (ix_str 1 rfl (by omega)) ?_
  rw [g1]
  repeat (first | refine Ev.s ?_ | refine Ev.newC fun _ _ _ => ?_ | refine Ev.boxC fun _ _ _ => ?_ | refine Ev.stC fun _ _ => ?_ | refine Ev.sc (by omega) ?_ | refine Ev.scg (by omega) ?_)
  refine Ev.prim (or8 (by omega) hu1) ?_
  rw [hnv]
  have ix2 : InL x2 ⟨[ptr p 0], 28, .fix⟩ (Ls1 ++ ((x2, ⟨[ptr p 0], 28, .fix⟩) :: (Lm' ++ (Lj ++ L)))) := ⟨List.mem_append_right _ (.head _)⟩
  repeat (first | refine Ev.s ?_ | refine Ev.newC fun _ _ _ => ?_ | refine Ev.boxC fun _ _ _ => ?_ | refine Ev.stC fun _ _ => ?_ | refine Ev.sc (by omega) ?_ | refine Ev.scg (by omega) ?_)
  rw [decide_eq_false hn1]
  repeat (first | refine Ev.s ?_ | refine Ev.newC fun _ _ _ => ?_ | refine Ev.boxC fun _ _ _ => ?_ | refine Ev.stC fun _ _ => ?_ | refine Ev.sc (by omega) ?_ | refine Ev.scg (by omega) ?_)
  refine Ev.b2 (Pages_spec hP1 hU.ok hS4 fun x hx => List.mem_append_left _ hx) ?_
  rintro v H3 h
  cases h
  rw [hdn]
  repeat (first | (first | refine Ev.s ?_ | refine Ev.newC fun _ _ _ => ?_ | refine Ev.boxC fun _ _ _ => ?_ | refine Ev.stC fun _ _ => ?_ | refine Ev.sc (by omega) ?_ | refine Ev.scg (by omega) ?_) | rw [decide_eq_true (by omega)] | rw [decide_eq_false (by omega)])
  -- the round of what is ranged
  have round : ∀ (H3 : AH), St H0 B0 B1 (Ls1 ++ ((x2, ⟨[ptr p 0], 28, .fix⟩) :: (Lm' ++ (Lj ++ L)))) H3 → Ev (fun K _ => rn K (yOff + b) [.agg #[i64 (j + 2 + (a + t)), str (pieceT s (a + t)), .int .i64 0]] H3) (fun r => r.1 = .bool true ∧ ∃ B' Lj', MoC B1 B' ∧ J (a + t + 1) Lj' ∧ St H0 B0 B' (Ls1 ++ ((x2, ⟨[ptr p 0], 28, .fix⟩) :: (Lm' ++ (Lj' ++ L)))) r.2) := by
    intro H3 hS5
    refine (yl (a + t) htk B1 H3 Lj (Ls1 ++ ((x2, ⟨[ptr p 0], 28, .fix⟩) :: (Lm' ++ L))) hJ (hS5.perm (perm2 Ls1 _ Lm' Lj L).symm)).mono ?_
    rintro r ⟨h1, B', Lj', hm', hJ', hS'⟩
    exact ⟨h1, B', Lj', hm', hJ', hS'.perm (perm2 Ls1 _ Lm' Lj' L)⟩
  by_cases hlast : a + t + 1 < k
  · have hnx : nextB j k (a + t) = j + 2 + (a + (t + 1)) := by unfold nextB; rw [if_pos hlast]; omega
    rw [hnx]
    repeat (first | (first | refine Ev.s ?_ | refine Ev.newC fun _ _ _ => ?_ | refine Ev.boxC fun _ _ _ => ?_ | refine Ev.stC fun _ _ => ?_ | refine Ev.sc (by omega) ?_ | refine Ev.scg (by omega) ?_) | rw [decide_eq_true (by omega)] | rw [decide_eq_false (by omega)])
    refine Ev.b2 (Contains_spec ((j + 2 + (a + (t + 1)) : Nat) : Int) hF' (by rw [pagesL_len]; omega) hS4 fun x hx => List.mem_append_right _ (.tail _ (List.mem_append_left _ hx))) ?_
    rintro v H4 h
    cases h
    rw [decide_eq_false (fun h => by have := (pagesL_mem.1 h).2; omega)]
    repeat (first | refine Ev.s ?_ | refine Ev.newC fun _ _ _ => ?_ | refine Ev.boxC fun _ _ _ => ?_ | refine Ev.stC fun _ _ => ?_ | refine Ev.sc (by omega) ?_ | refine Ev.scg (by omega) ?_)
    refine Ev.prim (slc_str (l := bpage s j k (a + t)) 2 rfl (by omega)) ?_
    rw [gd]
    repeat (first | refine Ev.s ?_ | refine Ev.newC fun _ _ _ => ?_ | refine Ev.boxC fun _ _ _ => ?_ | refine Ev.stC fun _ _ => ?_ | refine Ev.sc (by omega) ?_ | refine Ev.scg (by omega) ?_)
    refine Ev.b2 (round _ hS4) ?_
    rintro _ H5 ⟨rfl, B5, Lj5, hm5, hJ5, hS5⟩
    dsimp only at hS5
    repeat (first | (first | refine Ev.s ?_ | refine Ev.newC fun _ _ _ => ?_ | refine Ev.boxC fun _ _ _ => ?_ | refine Ev.stC fun _ _ => ?_ | refine Ev.sc (by omega) ?_ | refine Ev.scg (by omega) ?_) | rw [decide_eq_true (by omega)] | rw [decide_eq_false (by omega)])
    exact next hlast B5 H5 Ls1 Lm' Lj5 mv' ⟨hm1.mo.trans hm5.mo⟩ hP1 hF' hJ5 hS5
  · have hnx : nextB j k (a + t) = 0 := by unfold nextB; rw [if_neg hlast]
    rw [hnx]
    repeat (first | (first | refine Ev.s ?_ | refine Ev.newC fun _ _ _ => ?_ | refine Ev.boxC fun _ _ _ => ?_ | refine Ev.stC fun _ _ => ?_ | refine Ev.sc (by omega) ?_ | refine Ev.scg (by omega) ?_) | rw [decide_eq_true (by omega)] | rw [decide_eq_false (by omega)])
    refine Ev.prim (slc_str (l := bpage s j k (a + t)) 2 rfl (by omega)) ?_
    rw [gd]
    repeat (first | refine Ev.s ?_ | refine Ev.newC fun _ _ _ => ?_ | refine Ev.boxC fun _ _ _ => ?_ | refine Ev.stC fun _ _ => ?_ | refine Ev.sc (by omega) ?_ | refine Ev.scg (by omega) ?_)
    refine Ev.b2 (round _ hS4) ?_
    rintro _ H5 ⟨rfl, B5, Lj5, hm5, hJ5, hS5⟩
    dsimp only at hS5
    repeat (first | (first | refine Ev.s ?_ | refine Ev.newC fun _ _ _ => ?_ | refine Ev.boxC fun _ _ _ => ?_ | refine Ev.stC fun _ _ => ?_ | refine Ev.sc (by omega) ?_ | refine Ev.scg (by omega) ?_) | rw [decide_eq_true (by omega)] | rw [decide_eq_false (by omega)])
    rw [show a + t + 1 = k by omega] at hJ5
    refine Ev.ret ⟨B5, Ls1, Lj5, H5, rfl, ⟨hm1.mo.trans hm5.mo⟩, hP1, hJ5, ?_⟩
    exact hS5.drop (List.Sublist.append_left (.cons _ (List.sublist_append_right _ _)) _)
theorem parts_loop {p dv x2 b m j k a : Nat} {D : Dsk} {s : List UInt8} {G : Pgr} {J : Nat → List (Nat × Blk) → Prop} (hU : D.Up (2 * m)) (hm2 : m ≤ 512) (hc : D.cache.length < 1000000) (hd : G.down = false) (hH : D.Has s j k) (hjm : j + 2 + k ≤ m)
    (yl : ∀ i, i < k → ∀ (B H : AH) (Lj Lx : List (Nat × Blk)), J i Lj → St H0 B0 B (Lj ++ Lx) H → Ev (fun K _ => rn K (yOff + b) [.agg #[i64 (j + 2 + i), str (pieceT s i), .int .i64 0]] H) (fun r => r.1 = .bool true ∧ ∃ B' Lj', MoC B B' ∧ J (i + 1) Lj' ∧ St H0 B0 B' (Lj' ++ Lx) r.2)) :
    ∀ (q t : Nat) (B H : AH) (Ls Lm Lj : List (Nat × Blk)) (mv : Value), a + t + q + 1 = k → PK (ptr p 0) (ptr dv 0) G D Ls → FR mv (pagesL (j + a) t) Lm → J (a + t) Lj → St H0 B0 B (Ls ++ ((x2, ⟨[ptr p 0], 28, .fix⟩) :: (Lm ++ (Lj ++ L)))) H →
    Ev (fun K K2 => f32_L0 K (.func (.yield b) #[] #[]) (ptr x2 0) mv (i64 (j + 2 + (a + t))) K2 H) (fun o => ∃ B' Ls' Lj' H', o = (.ret, f32_X_L0, H') ∧ MoC B B' ∧ PK (ptr p 0) (ptr dv 0) G D Ls' ∧ J k Lj' ∧ St H0 B0 B' (Ls' ++ (Lj' ++ L)) H') := by
  intro q
  have hdn : D.n / 2 = m := by have := hU.n; omega
  induction q with
  | zero =>
    intro t B H Ls Lm Lj mv hq hP hF hJ hS
    exact parts_one hU hm2 hc hd hH hjm yl (by omega) hP hF hJ hS (fun h => by omega)
  | succ q ih =>
    intro t B H Ls Lm Lj mv hq hP hF hJ hS
    refine parts_one hU hm2 hc hd hH hjm yl (by omega) hP hF hJ hS (fun h B1 H1 Ls1 Lm1 Lj1 mv1 hm1 hP1 hF1 hJ1 hS1 => ?_)
    refine (ih (t + 1) B1 H1 Ls1 Lm1 Lj1 mv1 (by omega) hP1 hF1 hJ1 hS1).mono ?_
    rintro o ⟨B', Ls', Lj', H', rfl, hm', h1, h2, h3⟩
    exact ⟨B', Ls', Lj', H', rfl, ⟨hm1.mo.trans hm'.mo⟩, h1, h2, h3⟩
end
end Go.AM.W
set_option linter.unusedVariables false
set_option linter.unusedSimpArgs false
set_option maxRecDepth 100000
namespace Go.AM.W
open Go Go.AM Go.Proofs
attribute [local irreducible] run bin un ld st box newV mkS fldA fld ixA ix slc slc3 build buildS cv cvS ap cpy lenV gOp pickV b2 aIf aChk evalK resume iterD Option.bind

section
variable {B B0 H0 H : AH} {L : List (Nat × Blk)}
abbrev pgT (b4 b5 b6 : Nat) : List Value := f13_T_R0 (ptr b4 0) (ptr b5 0) (ptr b6 0)
def JP (b b4 b5 b6 j a i : Nat) (Lj : List (Nat × Blk)) : Prop := ∃ ov Lo, a ≤ i ∧ FR ov (pagesL (j + a) (i - a)) Lo ∧ Lj = (b, ⟨.int .i64 (0 : Nat) :: pgT b4 b5 b6, 4, .loop 13 4⟩) :: (b6, ⟨[ov], 31, .fix⟩) :: Lo
theorem pages_round {b b4 b5 b6 j a i : Nat} {s : List UInt8} (hi : i < 100000) {B H : AH} {Lj Lx : List (Nat × Blk)} (hJ : JP b b4 b5 b6 j a i Lj) (hS : St H0 B0 B (Lj ++ Lx) H) :
    Ev (fun K _ => rn K (yOff + b) [.agg #[i64 (j + 2 + i), str s, .int .i64 0]] H) (fun r => r.1 = .bool true ∧ ∃ B' Lj', MoC B B' ∧ JP b b4 b5 b6 j a (i + 1) Lj' ∧ St H0 B0 B' (Lj' ++ Lx) r.2) := by
  obtain ⟨ov, Lo, hai, hF, rfl⟩ := hJ
  have hcell := hF.cell
  simp only [List.cons_append] at hS
  refine Ev.fn (fun K => f13_Y0_eq K _ _ _ _ b H (hS.get (.head _))) ?_
  repeat (first | refine Ev.s ?_ | refine Ev.newC fun _ _ _ => ?_ | refine Ev.boxC fun _ _ _ => ?_ | refine Ev.stC fun _ _ => ?_ | refine Ev.sc (by omega) ?_ | refine Ev.scg (by omega) ?_)
  rename_i bp H1 hS1 H2 hS2
  clear hS hS1
  refine Ev.setSt (c := 0) (d := 1) hS2 (.tail _ (.head _)) (.tail _ (.head _)) fun H3 hS3 => ?_
  clear hS2
  repeat (first | refine Ev.s ?_ | refine Ev.newC fun _ _ _ => ?_ | refine Ev.boxC fun _ _ _ => ?_ | refine Ev.stC fun _ _ => ?_ | refine Ev.sc (by omega) ?_ | refine Ev.scg (by omega) ?_)
  have hS4 : St H0 B0 B (Lo ++ ((bp, _) :: (b, _) :: (b6, _) :: Lx)) H3 := hS3.perm (permA [_, _, _] Lo Lx)
  refine FRS.push (x := ((j + 2 + i : Nat) : Int)) eltI hF hS4 (by rw [pagesL_len]; omega) fun ov' Lo' H4 hF' hS5 => ?_
  have hcell' := hF'.cell
  have hS6 : St H0 B0 B ((bp, _) :: (b, _) :: (b6, _) :: (Lo' ++ Lx)) H4 := hS5.perm (permA Lo' [_, _, _] Lx)
  clear hS3 hS4 hS5
  repeat (first | refine Ev.s ?_ | refine Ev.newC fun _ _ _ => ?_ | refine Ev.boxC fun _ _ _ => ?_ | refine Ev.stC fun _ _ => ?_ | refine Ev.sc (by omega) ?_ | refine Ev.scg (by omega) ?_)
  rename_i H7 hS7
  refine Ev.setSt (c := 1) (d := 0) hS7 (.tail _ (.head _)) (.tail _ (.head _)) fun H8 hS8 => ?_
  refine Ev.ret ⟨rfl, B, _, ⟨Mo.refl B⟩, ⟨ov', Lo', by omega, ?_, rfl⟩, hS8.drop1⟩
  have e : pagesL (j + a) (i - a) ++ [((j + 2 + i : Nat) : Int)] = pagesL (j + a) (i + 1 - a) := by rw [show i + 1 - a = (i - a) + 1 by omega, pagesL_succ, show j + a + 2 + (i - a) = j + 2 + i by omega]
  rw [e] at hF'
  exact hF'
theorem bPages_spec {p dv m j k a : Nat} {D : Dsk} {s : List UInt8} {G : Pgr} {Ls : List (Nat × Blk)} (hU : D.Up (2 * m)) (hm2 : m ≤ 512) (hc : D.cache.length < 1000000) (hd : G.down = false) (hH : D.Has s j k) (hjm : j + 2 + k ≤ m) (ha : a < k) (hP : PK (ptr p 0) (ptr dv 0) G D Ls) (hS : St H0 B0 B (Ls ++ L) H) :
    Ev (fun K _ => rn K 13 [ptr p 0, i64 (j + 2 + a)] H) (fun r => ∃ v B' Ls', r.1 = .tuple #[v, .int .i64 0] ∧ MoC B B' ∧ ScN B' v (k - a) 1 (intV (pagesL (j + a) (k - a))) ∧ PK (ptr p 0) (ptr dv 0) G D Ls' ∧ St H0 B0 B' (Ls' ++ L) r.2) := by
  refine Ev.fn (fun K => f13_eq K _ _ H) ?_
  repeat (first | refine Ev.s ?_ | refine Ev.newC fun _ _ _ => ?_ | refine Ev.boxC fun _ _ _ => ?_ | refine Ev.stC fun _ _ => ?_ | refine Ev.sc (by omega) ?_ | refine Ev.scg (by omega) ?_)
  rename_i b4 H1 hS1 b5 H2 hS2 b6 H3 hS3
  clear hS hS1 hS2
  refine Ev.b2 (Q1 := fun r => ∃ x1 x2, r.1 = .func (.func 32) #[] #[ptr x1 0, ptr x2 0] ∧ St H0 B0 B ((x1, ⟨[i64 (j + 2 + a)], 3, .fix⟩) :: (x2, ⟨[ptr p 0], 28, .fix⟩) :: (b6, ⟨[.slice none 0 0], 31, .fix⟩) :: (b5, ⟨[.int .i64 0], 25, .fix⟩) :: (b4, ⟨[.slice none 0 0], 31, .fix⟩) :: (Ls ++ L)) r.2)
    (Ev.fn (fun K => f21_eq K _ _ H3) ?_) ?_
  · repeat (first | refine Ev.s ?_ | refine Ev.newC fun _ _ _ => ?_ | refine Ev.boxC fun _ _ _ => ?_ | refine Ev.stC fun _ _ => ?_ | refine Ev.sc (by omega) ?_ | refine Ev.scg (by omega) ?_)
    rename_i x2 H4 hS4 x1 H5 hS5
    exact Ev.ret ⟨x1, x2, rfl, hS5⟩
  rintro _ H4 ⟨x1, x2, rfl, hS4⟩
  clear hS3
  dsimp only at hS4
  simp only [callV_fn (show 32 < yOff by unfold yOff; omega), List.nil_append, List.cons_append]
  have hS5 := hS4.mkB' (.int .i64 (0 : Nat) :: pgT b4 b5 b6) 4 (.loop 13 4)
  clear hS4
  generalize hbb : H4.length = b at hS5 ⊢
  generalize hHH : mkB H4 (.int .i64 (0 : Nat) :: pgT b4 b5 b6) 4 (.loop 13 4) = H5 at hS5 ⊢
  have e5 : mkB H4 (.int .i64 0 :: f13_T_R0 (ptr b4 0) (ptr b5 0) (ptr b6 0)) 4 (.loop 13 4) = H5 := hHH
  try rw [e5]
  refine Ev.b2 (Q1 := fun r => ∃ B' Ls' Lj', MoC B B' ∧ PK (ptr p 0) (ptr dv 0) G D Ls' ∧ JP b b4 b5 b6 j a k Lj' ∧ St H0 B0 B' (Ls' ++ (Lj' ++ ((b5, ⟨[.int .i64 0], 25, .fix⟩) :: (b4, ⟨[.slice none 0 0], 31, .fix⟩) :: L))) r.2)
    (Ev.fn (fun K => f32_eq K _ _ _ H5) ?_) ?_
  · repeat (first | refine Ev.s ?_ | refine Ev.newC fun _ _ _ => ?_ | refine Ev.boxC fun _ _ _ => ?_ | refine Ev.stC fun _ _ => ?_ | refine Ev.sc (by omega) ?_ | refine Ev.scg (by omega) ?_)
    have hS6 : St H0 B0 B (Ls ++ ((x2, ⟨[ptr p 0], 28, .fix⟩) :: ([] ++ (([(b, ⟨.int .i64 (0 : Nat) :: pgT b4 b5 b6, 4, .loop 13 4⟩), (b6, ⟨[.slice none 0 0], 31, .fix⟩)] ++ ((b5, ⟨[.int .i64 0], 25, .fix⟩) :: (b4, ⟨[.slice none 0 0], 31, .fix⟩) :: L)))))) H5 := by
      have h6 : St H0 B0 B ((b, ⟨.int .i64 (0 : Nat) :: pgT b4 b5 b6, 4, .loop 13 4⟩) :: (x2, ⟨[ptr p 0], 28, .fix⟩) :: (b6, ⟨[.slice none 0 0], 31, .fix⟩) :: (b5, ⟨[.int .i64 0], 25, .fix⟩) :: (b4, ⟨[.slice none 0 0], 31, .fix⟩) :: (Ls ++ L)) H5 := hS5.drop (.cons_cons _ (.cons _ (List.Sublist.refl _)))
      have h7 : St H0 B0 B ((x2, ⟨[ptr p 0], 28, .fix⟩) :: (b, ⟨.int .i64 (0 : Nat) :: pgT b4 b5 b6, 4, .loop 13 4⟩) :: (b6, ⟨[.slice none 0 0], 31, .fix⟩) :: (b5, ⟨[.int .i64 0], 25, .fix⟩) :: (b4, ⟨[.slice none 0 0], 31, .fix⟩) :: (Ls ++ L)) H5 := h6.perm (List.Perm.swap _ _ _)
      exact h7.perm (permA [_, _, _, _, _] Ls L)
    refine Ev.bind (Ev.loop (parts_loop (J := JP b b4 b5 b6 j a) hU hm2 hc hd hH hjm (fun i hi B H Lj Lx hJ hS => pages_round (by omega) hJ hS) (k - a - 1) 0 B H5 Ls [] _ (.slice none 0 0) (by omega) hP FRS.nil ⟨_, [], by omega, by rw [Nat.add_zero, Nat.sub_self]; exact FRS.nil, rfl⟩ hS6)) ?_
    rintro _ ⟨B', Ls', Lj', H', rfl, hm', hP', hJ', hS'⟩
    refine Ev.eq (fun K _ => f32_A0_ret K H') ?_
    exact Ev.ret ⟨B', Ls', Lj', hm', hP', hJ', hS'⟩
  rintro v H6 ⟨B6, Ls6, Lj6, hm6, hP6, ⟨ov, Lo, hai, hF, rfl⟩, hS6⟩
  dsimp only at hS6
  clear hS5
  have hcell := hF.cell
  have hS7 : St H0 B0 B6 ((b, ⟨.int .i64 (xSt .normal : Nat) :: pgT b4 b5 b6, 4, .loop 13 4⟩) :: (b6, ⟨[ov], 31, .fix⟩) :: (b5, ⟨[.int .i64 0], 25, .fix⟩) :: (b4, ⟨[.slice none 0 0], 31, .fix⟩) :: (Lo ++ (Ls6 ++ L))) H6 := by
    have h7 : St H0 B0 B6 ((b, ⟨.int .i64 (xSt .normal : Nat) :: pgT b4 b5 b6, 4, .loop 13 4⟩) :: (b6, ⟨[ov], 31, .fix⟩) :: (Lo ++ (Ls6 ++ ((b5, ⟨[.int .i64 0], 25, .fix⟩) :: (b4, ⟨[.slice none 0 0], 31, .fix⟩) :: L)))) H6 := hS6.perm (permA Ls6 ((b, _) :: (b6, _) :: Lo) ((b5, _) :: (b4, _) :: L))
    refine h7.perm (List.Perm.cons _ (List.Perm.cons _ ?_))
    have e1 : ((b5, ⟨[.int .i64 0], 25, .fix⟩) :: (b4, ⟨[.slice none 0 0], 31, .fix⟩) :: (Lo ++ (Ls6 ++ L)) : List (Nat × Blk)) = [(b5, ⟨[.int .i64 0], 25, .fix⟩), (b4, ⟨[.slice none 0 0], 31, .fix⟩)] ++ ((Lo ++ Ls6) ++ L) := by simp
    have e2 : (Lo ++ (Ls6 ++ ((b5, ⟨[.int .i64 0], 25, .fix⟩) :: (b4, ⟨[.slice none 0 0], 31, .fix⟩) :: L)) : List (Nat × Blk)) = (Lo ++ Ls6) ++ ([(b5, ⟨[.int .i64 0], 25, .fix⟩), (b4, ⟨[.slice none 0 0], 31, .fix⟩)] ++ L) := by simp
    rw [e1, e2]
    exact permA (Lo ++ Ls6) [_, _] L
  clear hS6
  refine Ev.rgBack (e := .normal) hS7 fun H8 hS8 => ?_
  clear hS7
  refine Ev.eq (fun K _ => f13_B0_normal K _ _ _ H8) ?_
  repeat (first | refine Ev.s ?_ | refine Ev.newC fun _ _ _ => ?_ | refine Ev.boxC fun _ _ _ => ?_ | refine Ev.stC fun _ _ => ?_ | refine Ev.sc (by omega) ?_ | refine Ev.scg (by omega) ?_)
  rename_i H9 hS9 H10 hS10
  have hS11 : St H0 B0 B6 (Lo ++ (Ls6 ++ L)) H10 := hS10.drop1.drop1.drop1
  obtain ⟨B7, hm7, hsc, hS12⟩ : ∃ B7, MoC B6 B7 ∧ ScN B7 ov (k - a) 1 (intV (pagesL (j + a) (k - a))) ∧ St H0 B0 B7 (Ls6 ++ L) H10 := FRS.freeze (l := pagesL (j + a) (k - a)) (by rw [pagesL_len]) hF hS11
  exact Ev.ret ⟨ov, B7, Ls6, rfl, ⟨hm6.mo.trans hm7.mo⟩, hsc, hP6, hS12⟩
end
end Go.AM.W
set_option linter.unusedVariables false
set_option linter.unusedSimpArgs false
set_option maxRecDepth 100000
namespace Go.AM.W
open Go Go.AM Go.Proofs
attribute [local irreducible] run bin un ld st box newV mkS fldA fld ixA ix slc slc3 build buildS cv cvS ap cpy lenV gOp pickV b2 aIf aChk evalK resume iterD Option.bind

section
variable {B B0 H0 H : AH} {L : List (Nat × Blk)}
def BR (v : Value) (x : List UInt8) (Lb : List (Nat × Blk)) : Prop := (x = [] ∧ v = .slice none 0 0 ∧ Lb = []) ∨ (x ≠ [] ∧ ∃ b2, v = sl b2 0 x.length (x.length + 1) ∧ Lb = [(b2, ⟨(x.map UInt8.toNat).map u8, 5, .buf⟩)])
theorem BR.cell {v : Value} {x : List UInt8} {Lb : List (Nat × Blk)} (h : BR v x Lb) : IsCell v := by
  rcases h with ⟨_, rfl, _⟩ | ⟨_, b2, rfl, _⟩ <;> exact inferInstance
theorem BR.acc {v : Value} {x : List UInt8} {Lb : List (Nat × Blk)} (h : BR v x Lb) (hS : St H0 B0 B (Lb ++ L) H) : BAcc 5 H0 B0 B L H v (x.map UInt8.toNat) := by
  rcases h with ⟨rfl, rfl, rfl⟩ | ⟨_, b2, rfl, rfl⟩
  · exact .inl ⟨rfl, rfl, hS⟩
  · exact .inr ⟨b2, by rw [List.length_map], hS⟩
theorem BAcc.br {v : Value} {x : List UInt8} (hx : x ≠ []) (h : BAcc 5 H0 B0 B L H v (x.map UInt8.toNat)) : ∃ Lb, BR v x Lb ∧ St H0 B0 B (Lb ++ L) H := by
  rcases h with ⟨h, _⟩ | ⟨b2, rfl, hS⟩
  · exact (hx (List.map_eq_nil_iff.1 h)).elim
  · exact ⟨_, .inr ⟨hx, b2, by rw [List.length_map], rfl⟩, hS⟩
theorem WriteNil_spec {p : Nat} {c0 : Value} (hc : c0 = .pointer none ∨ c0 = ptr p 0) (hS : St H0 B0 B ((p, ⟨[c0, .slice none 0 0], 61, .fix⟩) :: L) H) :
    Ev (fun k _ => rn k 22 [ptr p 0, str []] H) (fun r => r.1 = .tuple #[i64 0, .nilIface] ∧ St H0 B0 B ((p, ⟨[ptr p 0, .slice none 0 0], 61, .fix⟩) :: L) r.2) := by
  refine Ev.fn (fun k => f22_eq k _ _ H) ?_
  refine Ev.b2 (copy_spec (rest := []) (ds := []) bldT_mem bld_sz hc (BAcc.nil hS)) fun v1 H1 h1 => ?_
  obtain ⟨h1, hA1⟩ := h1
  simp only at h1 hA1
  have hSt := hA1.st
  clear hS
  repeat (first | refine Ev.s ?_ | refine Ev.newC fun _ _ _ => ?_ | refine Ev.boxC fun _ _ _ => ?_ | refine Ev.stC fun _ _ => ?_ | refine Ev.sc (by omega) ?_ | refine Ev.scg (by omega) ?_)
  refine Ev.prim2 (v := .slice none 0 0) (H := H1) (by kernel_rfl) ?_
  repeat (first | refine Ev.s ?_ | refine Ev.newC fun _ _ _ => ?_ | refine Ev.boxC fun _ _ _ => ?_ | refine Ev.stC fun _ _ => ?_ | refine Ev.sc (by omega) ?_ | refine Ev.scg (by omega) ?_)
  refine Ev.ret ⟨rfl, ?_⟩
  assumption
abbrev rdT (b4 b5 b6 : Nat) : List Value := f12_T_R0 (ptr b4 0) (ptr b5 0) (ptr b6 0)
def textA (s : List UInt8) (a i : Nat) : List UInt8 := (s.drop (118 * a)).take (118 * (i - a))
def JR (s : List UInt8) (b b4 b5 b6 a i : Nat) (Lj : List (Nat × Blk)) : Prop := ∃ c0 v Lb, a ≤ i ∧ (c0 = .pointer none ∨ c0 = ptr b6 0) ∧ BR v (textA s a i) Lb ∧ Lj = (b, ⟨.int .i64 (0 : Nat) :: rdT b4 b5 b6, 4, .loop 12 4⟩) :: (b6, ⟨[c0, v], 61, .fix⟩) :: Lb
theorem textA_len (s : List UInt8) (a i : Nat) : (textA s a i).length ≤ s.length := by
  unfold textA
  rw [List.length_take, List.length_drop]; omega
theorem read_round {b b4 b5 b6 j a i : Nat} {s : List UInt8} (hs : s.length ≤ 60000) {B H : AH} {Lj Lx : List (Nat × Blk)} (hJ : JR s b b4 b5 b6 a i Lj) (hS : St H0 B0 B (Lj ++ Lx) H) :
    Ev (fun K _ => rn K (yOff + b) [.agg #[i64 (j + 2 + i), str (pieceT s i), .int .i64 0]] H) (fun r => r.1 = .bool true ∧ ∃ B' Lj', MoC B B' ∧ JR s b b4 b5 b6 a (i + 1) Lj' ∧ St H0 B0 B' (Lj' ++ Lx) r.2) := by
  obtain ⟨c0, v, Lb, hai, hc0, hR, rfl⟩ := hJ
  have hcell := hR.cell
  have hc0c : IsCell c0 := by rcases hc0 with rfl | rfl <;> exact inferInstance
  simp only [List.cons_append] at hS
  refine Ev.fn (fun K => f12_Y0_eq K _ _ _ _ b H (hS.get (.head _))) ?_
  repeat (first | refine Ev.s ?_ | refine Ev.newC fun _ _ _ => ?_ | refine Ev.boxC fun _ _ _ => ?_ | refine Ev.stC fun _ _ => ?_ | refine Ev.sc (by omega) ?_ | refine Ev.scg (by omega) ?_)
  rename_i bp H1 hS1 H2 hS2
  clear hS hS1
  refine Ev.setSt (c := 0) (d := 1) hS2 (.tail _ (.head _)) (.tail _ (.head _)) fun H3 hS3 => ?_
  clear hS2
  repeat (first | refine Ev.s ?_ | refine Ev.newC fun _ _ _ => ?_ | refine Ev.boxC fun _ _ _ => ?_ | refine Ev.stC fun _ _ => ?_ | refine Ev.sc (by omega) ?_ | refine Ev.scg (by omega) ?_)
  have hjoin : textA s a i ++ pieceT s i = textA s a (i + 1) := by
    unfold textA
    have := piece_join s a (i - a)
    rw [show a + (i - a) = i by omega] at this
    rw [this, show i + 1 - a = i - a + 1 by omega]
  have hl1 := textA_len s a i
  have hl2 : (pieceT s i).length ≤ 118 := by unfold pieceT; rw [List.length_take]; omega
  by_cases he : textA s a (i + 1) = []
  · have hx : textA s a i = [] := (List.append_eq_nil_iff.1 (hjoin.trans he)).1
    have hp : pieceT s i = [] := (List.append_eq_nil_iff.1 (hjoin.trans he)).2
    rcases hR with ⟨_, rfl, rfl⟩ | ⟨h, _⟩
    case inr => exact (h hx).elim
    rw [hp]
    have hS4 : St H0 B0 B ((b6, ⟨[c0, .slice none 0 0], 61, .fix⟩) :: (bp, _) :: (b, _) :: Lx) H3 := hS3.perm (by
      refine List.Perm.symm ?_
      exact (List.Perm.cons _ (List.Perm.swap _ _ _)).trans (List.Perm.swap _ _ _))
    refine Ev.b2 (WriteNil_spec hc0 hS4) ?_
    rintro _ H5 ⟨rfl, hS5⟩
    dsimp only at hS5
    refine Ev.setSt (c := 1) (d := 0) hS5 (.tail _ (.tail _ (.head _))) (.tail _ (.tail _ (.head _))) fun H8 hS8 => ?_
    refine Ev.ret ⟨rfl, B, _, ⟨Mo.refl B⟩, ⟨ptr b6 0, .slice none 0 0, [], by omega, .inr rfl, .inl ⟨he, rfl, rfl⟩, rfl⟩, ?_⟩
    have h9 := hS8.perm (List.Perm.swap _ _ _)
    exact h9.drop1.perm (List.Perm.swap _ _ _)
  · have hS4 := hS3.perm (perm3 _ _ _ Lb Lx)
    have hA := hR.acc hS4
    refine Ev.b2 (WriteString_spec (l := pieceT s i) (rest := []) bldT_mem bld_sz hc0 (by rw [List.length_map]; omega) hA) ?_
    rintro v5 H5 ⟨_, v', B5, hm5, hA5⟩
    dsimp only at hA5
    rw [← List.map_append, hjoin] at hA5
    obtain ⟨Lb', hR', hS5⟩ := BAcc.br he hA5
    have hS6 := St.perm hS5 (permB4 _ _ _ Lb' Lx)
    refine Ev.setSt (c := 1) (d := 0) hS6 (.head _) (.head _) fun H8 hS8 => ?_
    refine Ev.ret ⟨rfl, B5, _, hm5, ⟨ptr b6 0, v', Lb', by omega, .inr rfl, hR', rfl⟩, ?_⟩
    exact hS8.drop (.cons_cons _ (.cons_cons _ (.cons _ (List.Sublist.refl _))))
theorem bRead_spec {p dv m j k a : Nat} {D : Dsk} {s : List UInt8} {G : Pgr} {Ls : List (Nat × Blk)} (hU : D.Up (2 * m)) (hm2 : m ≤ 512) (hc : D.cache.length < 1000000) (hd : G.down = false) (hH : D.Has s j k) (hjm : j + 2 + k ≤ m) (ha : a < k) (hs : s.length ≤ 60000) (hsk : s.length ≤ 118 * k) (hP : PK (ptr p 0) (ptr dv 0) G D Ls) (hS : St H0 B0 B (Ls ++ L) H) :
    Ev (fun K _ => rn K 12 [ptr p 0, i64 (j + 2 + a)] H) (fun r => ∃ B' Ls', r.1 = .tuple #[str (s.drop (118 * a)), .int .i64 0] ∧ MoC B B' ∧ PK (ptr p 0) (ptr dv 0) G D Ls' ∧ St H0 B0 B' (Ls' ++ L) r.2) := by
  refine Ev.fn (fun K => f12_eq K _ _ H) ?_
  repeat (first | refine Ev.s ?_ | refine Ev.newC fun _ _ _ => ?_ | refine Ev.boxC fun _ _ _ => ?_ | refine Ev.stC fun _ _ => ?_ | refine Ev.sc (by omega) ?_ | refine Ev.scg (by omega) ?_)
  rename_i b4 H1 hS1 b5 H2 hS2 b6 H3 hS3
  clear hS hS1 hS2
  refine Ev.b2 (Q1 := fun r => ∃ x1 x2, r.1 = .func (.func 32) #[] #[ptr x1 0, ptr x2 0] ∧ St H0 B0 B ((x1, ⟨[i64 (j + 2 + a)], 3, .fix⟩) :: (x2, ⟨[ptr p 0], 28, .fix⟩) :: (b6, ⟨[.pointer none, .slice none 0 0], 61, .fix⟩) :: (b5, ⟨[.int .i64 0], 25, .fix⟩) :: (b4, ⟨[.string ByteArray.empty], 9, .fix⟩) :: (Ls ++ L)) r.2)
    (Ev.fn (fun K => f21_eq K _ _ H3) ?_) ?_
  · repeat (first | refine Ev.s ?_ | refine Ev.newC fun _ _ _ => ?_ | refine Ev.boxC fun _ _ _ => ?_ | refine Ev.stC fun _ _ => ?_ | refine Ev.sc (by omega) ?_ | refine Ev.scg (by omega) ?_)
    rename_i x2 H4 hS4 x1 H5 hS5
    exact Ev.ret ⟨x1, x2, rfl, hS5⟩
  rintro _ H4 ⟨x1, x2, rfl, hS4⟩
  clear hS3
  dsimp only at hS4
  simp only [callV_fn (show 32 < yOff by unfold yOff; omega), List.nil_append, List.cons_append]
  have hS5 := hS4.mkB' (.int .i64 (0 : Nat) :: rdT b4 b5 b6) 4 (.loop 12 4)
  clear hS4
  generalize hbb : H4.length = b at hS5 ⊢
  generalize hHH : mkB H4 (.int .i64 (0 : Nat) :: rdT b4 b5 b6) 4 (.loop 12 4) = H5 at hS5 ⊢
  have e5 : mkB H4 (.int .i64 0 :: f12_T_R0 (ptr b4 0) (ptr b5 0) (ptr b6 0)) 4 (.loop 12 4) = H5 := hHH
  try rw [e5]
  refine Ev.b2 (Q1 := fun r => ∃ B' Ls' Lj', MoC B B' ∧ PK (ptr p 0) (ptr dv 0) G D Ls' ∧ JR s b b4 b5 b6 a k Lj' ∧ St H0 B0 B' (Ls' ++ (Lj' ++ ((b5, ⟨[.int .i64 0], 25, .fix⟩) :: (b4, ⟨[.string ByteArray.empty], 9, .fix⟩) :: L))) r.2)
    (Ev.fn (fun K => f32_eq K _ _ _ H5) ?_) ?_
  · repeat (first | refine Ev.s ?_ | refine Ev.newC fun _ _ _ => ?_ | refine Ev.boxC fun _ _ _ => ?_ | refine Ev.stC fun _ _ => ?_ | refine Ev.sc (by omega) ?_ | refine Ev.scg (by omega) ?_)
    have hS6 : St H0 B0 B (Ls ++ ((x2, ⟨[ptr p 0], 28, .fix⟩) :: ([] ++ (([(b, ⟨.int .i64 (0 : Nat) :: rdT b4 b5 b6, 4, .loop 12 4⟩), (b6, ⟨[.pointer none, .slice none 0 0], 61, .fix⟩)] ++ ((b5, ⟨[.int .i64 0], 25, .fix⟩) :: (b4, ⟨[.string ByteArray.empty], 9, .fix⟩) :: L)))))) H5 := by
      have h6 : St H0 B0 B ((b, ⟨.int .i64 (0 : Nat) :: rdT b4 b5 b6, 4, .loop 12 4⟩) :: (x2, ⟨[ptr p 0], 28, .fix⟩) :: (b6, ⟨[.pointer none, .slice none 0 0], 61, .fix⟩) :: (b5, ⟨[.int .i64 0], 25, .fix⟩) :: (b4, ⟨[.string ByteArray.empty], 9, .fix⟩) :: (Ls ++ L)) H5 := hS5.drop (.cons_cons _ (.cons _ (List.Sublist.refl _)))
      have h7 : St H0 B0 B ((x2, ⟨[ptr p 0], 28, .fix⟩) :: (b, ⟨.int .i64 (0 : Nat) :: rdT b4 b5 b6, 4, .loop 12 4⟩) :: (b6, ⟨[.pointer none, .slice none 0 0], 61, .fix⟩) :: (b5, ⟨[.int .i64 0], 25, .fix⟩) :: (b4, ⟨[.string ByteArray.empty], 9, .fix⟩) :: (Ls ++ L)) H5 := h6.perm (List.Perm.swap _ _ _)
      exact h7.perm (permA [_, _, _, _, _] Ls L)
    have h0 : textA s a a = [] := by unfold textA; simp
    refine Ev.bind (Ev.loop (parts_loop (J := JR s b b4 b5 b6 a) hU hm2 hc hd hH hjm (fun i hi B H Lj Lx hJ hS => read_round hs hJ hS) (k - a - 1) 0 B H5 Ls [] _ (.slice none 0 0) (by omega) hP FRS.nil ⟨.pointer none, .slice none 0 0, [], by omega, .inl rfl, .inl ⟨h0, rfl, rfl⟩, rfl⟩ hS6)) ?_
    rintro _ ⟨B', Ls', Lj', H', rfl, hm', hP', hJ', hS'⟩
    refine Ev.eq (fun K _ => f32_A0_ret K H') ?_
    exact Ev.ret ⟨B', Ls', Lj', hm', hP', hJ', hS'⟩
  rintro v H6 ⟨B6, Ls6, Lj6, hm6, hP6, ⟨c0, ov, Lb, hai, hc0, hR, rfl⟩, hS6⟩
  dsimp only at hS6
  clear hS5
  have htx : textA s a k = s.drop (118 * a) := by
    unfold textA
    rw [List.take_of_length_le (by rw [List.length_drop]; omega)]
  rw [htx] at hR
  have hcell := hR.cell
  have hc0c : IsCell c0 := by rcases hc0 with rfl | rfl <;> exact inferInstance
  have hS7 : St H0 B0 B6 ((b, ⟨.int .i64 (xSt .normal : Nat) :: rdT b4 b5 b6, 4, .loop 12 4⟩) :: (b6, ⟨[c0, ov], 61, .fix⟩) :: (b5, ⟨[.int .i64 0], 25, .fix⟩) :: (b4, ⟨[.string ByteArray.empty], 9, .fix⟩) :: (Lb ++ (Ls6 ++ L))) H6 := by
    have h7 : St H0 B0 B6 ((b, ⟨.int .i64 (xSt .normal : Nat) :: rdT b4 b5 b6, 4, .loop 12 4⟩) :: (b6, ⟨[c0, ov], 61, .fix⟩) :: (Lb ++ (Ls6 ++ ((b5, ⟨[.int .i64 0], 25, .fix⟩) :: (b4, ⟨[.string ByteArray.empty], 9, .fix⟩) :: L)))) H6 := hS6.perm (permA Ls6 ((b, _) :: (b6, _) :: Lb) ((b5, _) :: (b4, _) :: L))
    refine h7.perm (List.Perm.cons _ (List.Perm.cons _ ?_))
    have e1 : ((b5, ⟨[.int .i64 0], 25, .fix⟩) :: (b4, ⟨[.string ByteArray.empty], 9, .fix⟩) :: (Lb ++ (Ls6 ++ L)) : List (Nat × Blk)) = [(b5, ⟨[.int .i64 0], 25, .fix⟩), (b4, ⟨[.string ByteArray.empty], 9, .fix⟩)] ++ ((Lb ++ Ls6) ++ L) := by simp
    have e2 : (Lb ++ (Ls6 ++ ((b5, ⟨[.int .i64 0], 25, .fix⟩) :: (b4, ⟨[.string ByteArray.empty], 9, .fix⟩) :: L)) : List (Nat × Blk)) = (Lb ++ Ls6) ++ ([(b5, ⟨[.int .i64 0], 25, .fix⟩), (b4, ⟨[.string ByteArray.empty], 9, .fix⟩)] ++ L) := by simp
    rw [e1, e2]
    exact permA (Lb ++ Ls6) [_, _] L
  clear hS6
  refine Ev.rgBack (e := .normal) hS7 fun H8 hS8 => ?_
  clear hS7
  refine Ev.eq (fun K _ => f12_B0_normal K _ _ _ H8) ?_
  refine Ev.b2 (Q1 := fun r => r.1 = str (s.drop (118 * a)) ∧ St H0 B0 B6 ((b6, ⟨[c0, ov], 61, .fix⟩) :: (b5, ⟨[.int .i64 0], 25, .fix⟩) :: (b4, ⟨[.string ByteArray.empty], 9, .fix⟩) :: (Ls6 ++ L)) r.2) ?_ ?_
  · rcases hR with ⟨h0, rfl, rfl⟩ | ⟨h0, b2, rfl, rfl⟩
    · rw [h0]
      refine Ev.fn (fun k => f23_eq k _ H8) ?_
      repeat (first | refine Ev.s ?_ | refine Ev.newC fun _ _ _ => ?_ | refine Ev.boxC fun _ _ _ => ?_ | refine Ev.stC fun _ _ => ?_ | refine Ev.sc (by omega) ?_ | refine Ev.scg (by omega) ?_)
      refine Ev.prim (show sdV (.slice none 0 0) = some (.pointer none) from rfl) ?_
      repeat (first | refine Ev.s ?_ | refine Ev.newC fun _ _ _ => ?_ | refine Ev.boxC fun _ _ _ => ?_ | refine Ev.stC fun _ _ => ?_ | refine Ev.sc (by omega) ?_ | refine Ev.scg (by omega) ?_)
      refine Ev.prim2 (v := str []) (H := H8) (by kernel_rfl) ?_
      exact Ev.ret ⟨rfl, hS8⟩
    · have hS9 : St H0 B0 B6 ((b2, ⟨((s.drop (118 * a)).map UInt8.toNat).map u8, 5, .buf⟩) :: (b6, ⟨[c0, sl b2 0 (s.drop (118 * a)).length ((s.drop (118 * a)).length + 1)], 61, .fix⟩) :: (b5, ⟨[.int .i64 0], 25, .fix⟩) :: (b4, ⟨[.string ByteArray.empty], 9, .fix⟩) :: (Ls6 ++ L)) H8 := hS8.perm (permA [_, _, _] [_] (Ls6 ++ L))
      have hA : BAcc 5 H0 B0 B6 ((b6, ⟨[c0, sl b2 0 (s.drop (118 * a)).length ((s.drop (118 * a)).length + 1)], 61, .fix⟩) :: (b5, ⟨[.int .i64 0], 25, .fix⟩) :: (b4, ⟨[.string ByteArray.empty], 9, .fix⟩) :: (Ls6 ++ L)) H8 (sl b2 0 (s.drop (118 * a)).length ((s.drop (118 * a)).length + 1)) ((s.drop (118 * a)).map UInt8.toNat) := .inr ⟨b2, by rw [List.length_map], hS9⟩
      refine (String_spec (rest := []) (by rw [List.length_map, List.length_drop]; omega) (by simpa using h0) hA).mono ?_
      rintro r ⟨h1, h2⟩
      refine ⟨?_, h2⟩
      rw [h1, List.map_map]
      congr 2
      exact List.map_id'' (fun x => by simp) _
  rintro _ H9 ⟨rfl, hS9⟩
  dsimp only at hS9
  clear hS8
  repeat (first | refine Ev.s ?_ | refine Ev.newC fun _ _ _ => ?_ | refine Ev.boxC fun _ _ _ => ?_ | refine Ev.stC fun _ _ => ?_ | refine Ev.sc (by omega) ?_ | refine Ev.scg (by omega) ?_)
  rename_i H10 hS10 H11 hS11
  exact Ev.ret ⟨B6, Ls6, rfl, hm6, hP6, hS11.drop1.drop1.drop1⟩
end
end Go.AM.W
set_option linter.unusedVariables false
set_option linter.unusedSimpArgs false
set_option maxRecDepth 100000
namespace Go.AM.W
open Go Go.AM Go.Proofs
attribute [local irreducible] run bin un ld st box newV mkS fldA fld ixA ix slc slc3 build buildS cv cvS ap cpy lenV gOp pickV b2 aIf aChk evalK resume iterD Option.bind

section
variable {B B0 H0 H : AH} {L : List (Nat × Blk)}
theorem PK.ptr {p dv : Value} {G : Pgr} {D : Dsk} {Ls : List (Nat × Blk)} (h : PK p dv G D Ls) : ∃ b, p = ptr b 0 := by obtain ⟨pb, mb, fv, Lf, Ld, hp, _⟩ := h; exact ⟨pb, hp⟩
/-- A new disk with a pager. -/
theorem Format_up {dv : Value} {D : Dsk} {Ls : List (Nat × Blk)} {m : Nat} (hD : DK dv D Ls) (hU : D.Up (2 * m)) (hm : 4 ≤ m) (hm2 : m ≤ 512) (hc : D.cache.length < 100000) (hS : St H0 B0 B (Ls ++ L) H) :
    Ev (fun k _ => rn k 8 [dv] H) (fun r => ∃ b D', PgP H0 B0 B L (ptr b 0) dv (.tuple #[ptr b 0, .int .i64 0]) ⟨1, 0, [0, 1], [], false⟩ D' r ∧ D'.Up (2 * m) ∧ D'.cache = [] ∧ ∀ n, n < m → D'.pg n = if n = 1 then sealL 1 (textH 1 0 [0, 1]) else D.pg n) := by
  obtain ⟨D', e, u, c, pg⟩ := hU.format hm hm2
  refine (Format_spec hD hU.ok (by omega) hS).mono ?_
  rintro r (⟨h, _⟩ | ⟨_, p, hp⟩)
  · rw [e] at h; exact (h rfl).elim
  · rw [e] at hp
    obtain ⟨hv, Ls', B', hm', hP, hS'⟩ := hp
    obtain ⟨b, rfl⟩ := hP.ptr
    exact ⟨b, D', ⟨hv, Ls', B', hm', hP, hS'⟩, u, c, pg⟩
theorem numbers_spec {va vb : Value} {l : List Int} {n : Nat} (hl : l.length = n) (hn : n < 1000000) (ha : ScN H va n 1 (intV l)) (hb : ScN H vb n 1 (intV l)) :
    Ev (fun k _ => rn k 14 [va, vb] H) (fun r => r = (.bool true, H)) := by
  refine Ev.fn (fun k => f14_eq k _ _ H) ?_
  have la := ha.len (Und.eq (P := Tryd.prog) (t := 31))
  have lb := hb.len (Und.eq (P := Tryd.prog) (t := 31))
  refine Ev.prim la ?_
  refine Ev.prim lb ?_
  repeat (first | refine Ev.s ?_ | refine Ev.newC fun _ _ _ => ?_ | refine Ev.boxC fun _ _ _ => ?_ | refine Ev.stC fun _ _ => ?_ | refine Ev.sc (by omega) ?_ | refine Ev.scg (by omega) ?_)
  have key : ∀ (q i : Nat), i + q = n → Ev (fun k K => f14_L0 k va vb (i64 i) K H) (fun o => o = (.exit 0, f14_X_L0 unk, H)) := by
    intro q
    induction q with
    | zero =>
      intro i hi
      refine Ev.succ (fun k K => f14_L0_succ k _ _ _ K H) ?_
      refine Ev.prim la ?_
      repeat (first | refine Ev.s ?_ | refine Ev.newC fun _ _ _ => ?_ | refine Ev.boxC fun _ _ _ => ?_ | refine Ev.stC fun _ _ => ?_ | refine Ev.sc (by omega) ?_ | refine Ev.scg (by omega) ?_)
      rw [decide_eq_false (by omega)]
      repeat (first | refine Ev.s ?_ | refine Ev.newC fun _ _ _ => ?_ | refine Ev.boxC fun _ _ _ => ?_ | refine Ev.stC fun _ _ => ?_ | refine Ev.sc (by omega) ?_ | refine Ev.scg (by omega) ?_)
      exact Ev.ret rfl
    | succ q ih =>
      intro i hi
      refine Ev.succ (fun k K => f14_L0_succ k _ _ _ K H) ?_
      refine Ev.prim la ?_
      repeat (first | refine Ev.s ?_ | refine Ev.newC fun _ _ _ => ?_ | refine Ev.boxC fun _ _ _ => ?_ | refine Ev.stC fun _ _ => ?_ | refine Ev.sc (by omega) ?_ | refine Ev.scg (by omega) ?_)
      rw [decide_eq_true (by omega)]
      repeat (first | refine Ev.s ?_ | refine Ev.newC fun _ _ _ => ?_ | refine Ev.boxC fun _ _ _ => ?_ | refine Ev.stC fun _ _ => ?_ | refine Ev.sc (by omega) ?_ | refine Ev.scg (by omega) ?_)
      have hx : (intV l)[i]? = some (.int .i64 l[i]) := by unfold intV; rw [List.getElem?_map, List.getElem?_eq_getElem (by omega)]; rfl
      refine Ev.ixN (t := 31) ha i rfl (by omega) hx fun p hp => ?_
      refine Ev.prim (hp.eq H (Mo.refl H)) ?_
      refine Ev.ixN (t := 31) hb i rfl (by omega) hx fun p2 hp2 => ?_
      refine Ev.prim (hp2.eq H (Mo.refl H)) ?_
      repeat (first | (first | refine Ev.s ?_ | refine Ev.newC fun _ _ _ => ?_ | refine Ev.boxC fun _ _ _ => ?_ | refine Ev.stC fun _ _ => ?_ | refine Ev.sc (by omega) ?_ | refine Ev.scg (by omega) ?_) | rw [decide_eq_true (by omega)] | rw [decide_eq_false (by omega)])
      exact ih (i + 1) (by omega)
  refine Ev.bind (Ev.loop (key n 0 (by omega))) ?_
  rintro _ rfl
  refine Ev.eq (fun k _ => f14_A0_x0 k _ H) ?_
  exact Ev.ret rfl
theorem Laid.has {s : List UInt8} {j k : Nat} {D D' : Dsk} (h : Laid s j k D D') : D'.Has s j k := fun i hi => by
  rw [h (j + 2 + i), if_pos (by omega), show j + 2 + i - (j + 2) = i by omega]
theorem examples_spec (hS : St H0 B0 B L H) : Ev (fun k _ => rn k 6 [] H) (fun r => r.1 = .bool true ∧ ∃ B', MoC B B' ∧ St H0 B0 B' L r.2) := by
  refine Ev.fn (fun k => f6_eq k H) ?_
  refine Ev.b2 (New_spec (n := 20) (by decide) (by decide) hS) ?_
  rintro _ H1 ⟨p1, Ls1, B1, rfl, hm1, hD1, hS1⟩
  obtain ⟨d1, rfl⟩ := hD1.ptr
  dsimp only at hS1
  clear hS
  repeat (first | refine Ev.s ?_ | refine Ev.newC fun _ _ _ => ?_ | refine Ev.boxC fun _ _ _ => ?_ | refine Ev.stC fun _ _ => ?_ | refine Ev.sc (by omega) ?_ | refine Ev.scg (by omega) ?_)
  refine Ev.b2 (Format_up (m := 10) hD1 (Dsk.up_new (by decide) (by decide)) (by decide) (by decide) (by decide) hS1) ?_
  clear hS1
  rintro _ H2 ⟨b, D2, ⟨rfl, Ls2, B2, hm2, hP2, hS2⟩, u2, c2, pg2⟩
  dsimp only at hS2
  repeat (first | refine Ev.s ?_ | refine Ev.newC fun _ _ _ => ?_ | refine Ev.boxC fun _ _ _ => ?_ | refine Ev.stC fun _ _ => ?_ | refine Ev.sc (by omega) ?_ | refine Ev.scg (by omega) ?_)
  refine Ev.mkS (t := 44) (m := 119) inferInstance hS2 (by omega) (by omega) fun bb B3 H3 hm3 hS3 => ?_
  clear hS2
  refine Ev.prim (cvS_part (d := 9) (bs := List.replicate 119 0) (by rw [byts_rep]; exact hS3) (.head _) (Nat.le_refl _) (by simp)) ?_
  rw [show ((List.replicate 119 (0 : UInt8)).drop 0).take 119 = List.replicate 119 0 from rfl]
  refine Ev.prim (show bin Tryd.prog .add 9 (str (List.replicate 119 0)) (.string ⟨#[120]⟩) = some (str (List.replicate 119 0 ++ [120])) from add_str (a := List.replicate 119 0) (b := [120]) (by simp)) ?_
  have hsl : (List.replicate 119 (0 : UInt8) ++ [120]).length = 120 := rfl
  generalize hs : List.replicate 119 (0 : UInt8) ++ [120] = s at hsl ⊢
  have hneed : need s.length = 2 := by rw [hsl]; rfl
  have hS4 := hS3.drop1
  clear hS3
  refine Ev.b2 (bWrite_spec (j := 0) (s := s) u2 (by decide) (by rw [c2]; decide) (by decide) (by omega) hP2 hS4) ?_
  rw [hneed]
  clear hS4
  rintro _ H4 (⟨h1, B4, Ls4, D4, rfl, hm4, u4, c4, hL4, hP4, hS4⟩ | ⟨h1, _⟩)
  case inr => omega
  dsimp only at hS4
  repeat (first | refine Ev.s ?_ | refine Ev.newC fun _ _ _ => ?_ | refine Ev.boxC fun _ _ _ => ?_ | refine Ev.stC fun _ _ => ?_ | refine Ev.sc (by omega) ?_ | refine Ev.scg (by omega) ?_)
  refine Ev.b2 (bRead_spec (j := 0) (k := 2) (a := 0) (s := s) u4 (by decide) (by rw [c4, c2]; decide) rfl hL4.has (by decide) (by decide) (by omega) (by omega) hP4 hS4) ?_
  clear hS4
  rintro _ H5 ⟨B5, Ls5, rfl, hm5, hP5, hS5⟩
  dsimp only at hS5
  repeat (first | refine Ev.s ?_ | refine Ev.newC fun _ _ _ => ?_ | refine Ev.boxC fun _ _ _ => ?_ | refine Ev.stC fun _ _ => ?_ | refine Ev.sc (by omega) ?_ | refine Ev.scg (by omega) ?_)
  refine Ev.b2 (bPages_spec (j := 0) (k := 2) (a := 0) (s := s) u4 (by decide) (by rw [c4, c2]; decide) rfl hL4.has (by decide) (by decide) hP5 hS5) ?_
  clear hS5
  rintro _ H6 ⟨v6, B6, Ls6, rfl, hm6, hsc6, hP6, hS6⟩
  dsimp only at hS6
  repeat (first | refine Ev.s ?_ | refine Ev.newC fun _ _ _ => ?_ | refine Ev.boxC fun _ _ _ => ?_ | refine Ev.stC fun _ _ => ?_ | refine Ev.sc (by omega) ?_ | refine Ev.scg (by omega) ?_)
  refine Ev.bsC (by decide) fun b7 H7 hS7 => ?_
  have hsc7 : ScN H7 v6 2 1 (intV [2, 3]) := ScN.mono hS7.le hsc6
  have hsc8 : ScN H7 (sl b7 0 2 2) 2 1 (intV [2, 3]) := .inr ⟨b7, 0, 2, rfl, Nat.le_refl _, rfl, .inr ⟨_, hS7.get (.head _), rfl⟩⟩
  refine Ev.b2 (numbers_spec (l := [2, 3]) rfl (by decide) hsc7 hsc8) ?_
  rintro _ _ h
  cases h
  refine Ev.b2 (Need_spec (n := 0) (by decide)) ?_
  rintro _ _ h
  cases h
  rw [show need 0 = 1 from rfl]
  repeat (first | (first | refine Ev.s ?_ | refine Ev.newC fun _ _ _ => ?_ | refine Ev.boxC fun _ _ _ => ?_ | refine Ev.stC fun _ _ => ?_ | refine Ev.sc (by omega) ?_ | refine Ev.scg (by omega) ?_) | rw [decide_eq_true (by omega)] | rw [decide_eq_false (by omega)])
  refine Ev.b2 (Need_spec (n := 119) (by decide)) ?_
  rintro _ _ h
  cases h
  rw [show need 119 = 2 from rfl]
  repeat (first | (first | refine Ev.s ?_ | refine Ev.newC fun _ _ _ => ?_ | refine Ev.boxC fun _ _ _ => ?_ | refine Ev.stC fun _ _ => ?_ | refine Ev.sc (by omega) ?_ | refine Ev.scg (by omega) ?_) | rw [decide_eq_true (by omega)] | rw [decide_eq_false (by omega)])
  rw [show s.drop (118 * 0) = s by simp]
  repeat (first | (first | refine Ev.s ?_ | refine Ev.newC fun _ _ _ => ?_ | refine Ev.boxC fun _ _ _ => ?_ | refine Ev.stC fun _ _ => ?_ | refine Ev.sc (by omega) ?_ | refine Ev.scg (by omega) ?_) | rw [decide_eq_true (by omega)] | rw [decide_eq_false (by omega)])
  rw [show decide (s = s) = true from decide_eq_true rfl]
  repeat (first | (first | refine Ev.s ?_ | refine Ev.newC fun _ _ _ => ?_ | refine Ev.boxC fun _ _ _ => ?_ | refine Ev.stC fun _ _ => ?_ | refine Ev.sc (by omega) ?_ | refine Ev.scg (by omega) ?_) | rw [decide_eq_true (by omega)] | rw [decide_eq_false (by omega)])
  exact Ev.ret ⟨rfl, B6, ⟨hm1.mo.trans (hm2.mo.trans (hm3.trans (hm4.mo.trans (hm5.mo.trans hm6.mo))))⟩, hS7.drop1.drop (List.sublist_append_right _ _)⟩
end
end Go.AM.W
set_option linter.unusedVariables false
set_option linter.unusedSimpArgs false
namespace Go.AM
open Go.ChangeShapes Go.WideShapes Go.Deep Go.RowKit
variable {P : Program}

structure Ro (P : Program) (W : World) (m : Mp) (H : AH) : Prop where
  rel : Rel P W.heap.size W m H W
  ro : ∀ b k, blk H b = some k → k.kind = .ro
def Sub (m m' : Mp) : Prop := ∀ b L, m b = some L → m' b = some L
theorem Sub.refl (m : Mp) : Sub m m := fun _ _ h => h
theorem Sub.trans {a b c : Mp} (h : Sub a b) (k : Sub b c) : Sub a c := fun x L hx => k x L (h x L hx)
theorem Ro.empty (W : World) : Ro P W (fun _ => none) [] :=
  ⟨⟨Below.refl _ _, Nat.le_refl _, fun _ _ h => (by cases h), fun _ _ _ h => (by cases h), fun _ _ _ _ _ _ h => (by cases h)⟩, fun b k h => (by simp [blk] at h)⟩
def SlOK (W : World) (cs : List Value) : Prop := ∀ a len cap, Value.slice (some a) len cap ∈ cs → a.spot = none ∧ ∃ c e fr, W.heap[a.block]? = some (.cells c e fr)

/-- One more that came in. -/
theorem Ro.add {W : World} {m : Mp} {H : AH} {ks : List Value} {e : TypeId} {bl base : Nat} {c : Array Value} {te : TypeId} {fr : Nat × Nat} (R : Ro P W m H) (hb : W.heap[bl]? = some (.cells c te fr))
    (hl : LRel m ks ((c.toList.drop base).take ks.length)) :
    ∃ m' : Mp, Sub m m' ∧ m' H.length = some ⟨bl, base, .ro, 0, 0⟩ ∧ Ro P W m' (mkB H ks e .ro) := by
  refine ⟨fun b => if b = H.length then some ⟨bl, base, .ro, 0, 0⟩ else m b, ?_, if_pos rfl, ?_⟩
  · intro b L h
    have := (R.rel.dom b L h).1
    show (if b = H.length then _ else m b) = _
    rw [if_neg (by omega)]; exact h
  have hsub : Sub m (fun b => if b = H.length then some ⟨bl, base, .ro, 0, 0⟩ else m b) := by
    intro b L h
    have := (R.rel.dom b L h).1
    show (if b = H.length then _ else m b) = _
    rw [if_neg (by omega)]; exact h
  have hro : ∀ b k, blk (mkB H ks e .ro) b = some k → k.kind = .ro := by
    intro b k h
    by_cases hbn : b < H.length
    · rw [blk_mkB_old hbn] at h; exact R.ro b k h
    · have := blk_lt h
      rw [length_mkB] at this
      have : b = H.length := by omega
      subst this
      rw [blk_mkB_new] at h; cases h; rfl
  refine ⟨⟨R.rel.below, R.rel.hB, ?_, ?_, ?_⟩, hro⟩
  · intro b L h
    replace h : (if b = H.length then some _ else m b) = some L := h
    rw [length_mkB]
    by_cases hb2 : b = H.length
    · rw [if_pos hb2] at h; cases h
      exact ⟨by omega, (Array.getElem?_eq_some_iff.1 hb).1⟩
    · rw [if_neg hb2] at h
      have := R.rel.dom b L h
      exact ⟨by omega, this.2⟩
  · intro b L k h hk
    replace h : (if b = H.length then some _ else m b) = some L := h
    by_cases hb2 : b = H.length
    · rw [if_pos hb2] at h; cases h
      subst hb2
      rw [blk_mkB_new] at hk; cases hk
      exact ⟨rfl, fun _ => ⟨c, te, fr, hb, hl.mono hsub, fun hh => absurd rfl hh, fun hh => (by cases hh), fun hh => (by cases hh), fun hh => (by cases hh), fun hh => (by cases hh)⟩, fun hh => (by cases hh), fun _ _ hh => (by cases hh), fun hh => absurd rfl hh, fun hh => (by cases hh)⟩
    · rw [if_neg hb2] at h
      have hlt := (R.rel.dom b L h).1
      rw [blk_mkB_old hlt] at hk
      have h1 := R.rel.blks b L k h hk
      exact h1.at hsub rfl
  · intro b1 b2 L1 L2 k1 k2 _ _ h1 _ hne _
    exact absurd (hro b1 k1 h1) hne

/-- A kind of datum over the abstract heap. -/
structure Kn (α : Type) where
  K : AH → α → List Value → Prop
  mono : ∀ {H H' : AH} {a : α} {cs : List Value}, Mo H H' → K H a cs → K H' a cs
def Kn.int (k : IntKind) : Kn Int := ⟨fun _ n cs => cs = [.int k n], fun _ h => h⟩
def Kn.bool : Kn Bool := ⟨fun _ n cs => cs = [.bool n], fun _ h => h⟩
def Kn.string : Kn ByteArray := ⟨fun _ n cs => cs = [.string n], fun _ h => h⟩
/-- A slice that came in. -/
def Kn.slice {α : Type} (e : TypeId) (sz : Nat) (d : Kn α) : Kn (List α) :=
  ⟨fun H l cs => (cs = [.slice none 0 0] ∧ l = []) ∨ ∃ (b : Nat) (css : List (List Value)), cs = [sl b 0 l.length (l.length + 1)] ∧ blk H b = some ⟨css.flatten, e, .ro⟩ ∧ css.length = l.length ∧ ∀ (i : Nat) (a : α) (c : List Value), l[i]? = some a → css[i]? = some c → c.length = sz ∧ d.K H a c,
   by
    intro H H' l cs hm h
    rcases h with h | ⟨b, css, h1, h2, h3, h4⟩
    · exact .inl h
    · exact .inr ⟨b, css, h1, hm _ _ h2, h3, fun i a c h5 h6 => ⟨(h4 i a c h5 h6).1, d.mono hm (h4 i a c h5 h6).2⟩⟩⟩
/-- What follows from a cells' list: each is one. -/
def OpA (P : Program) (t : TypeId) {α : Type} (d : Kn α) (G : α → Prop) : Prop :=
  ∀ (Hh : Type) (enc : TypeId × Value → Hh) (W : World) (spare : Nat → Bool) (held : Bool) (fuel : Nat) (cs : List Value) (x : DataW Hh × List MemPlace),
    DataW.trod enc P W 0 spare held fuel t cs = some x → SlOK W cs → ∀ (m : Mp) (H : AH), Ro P W m H →
    ∃ m' H' cs' a, Ro P W m' H' ∧ Sub m m' ∧ Fr H H' ∧ LRel m' cs' cs ∧ d.K H' a cs' ∧ G a
theorem LRel.one {m : Mp} {x y : Value} (h : VRel m x y) : LRel m [x] [y] := LRel.cons h (LRel.nil m)
theorem opA_string {t : TypeId} (ht : P.underlying t = some .string) : OpA P t Kn.string (fun s => s.size ≤ maxLen) := by
  intro Hh enc W spare held fuel cs x h _ m H R
  obtain ⟨n, rfl, _, hw⟩ := DataW.trod_string ht h
  exact ⟨m, H, _, n, R, Sub.refl m, Fr.refl H, LRel.one (.flat _ rfl), rfl, hw⟩
/-- No slice among a type's cells. -/
def NoSl (P : Program) (t : TypeId) : Prop :=
  ∀ (Hh : Type) (enc : TypeId × Value → Hh) (W : World) (spare : Nat → Bool) (held : Bool) (fuel : Nat) (cs : List Value) (x : DataW Hh × List MemPlace), DataW.trod enc P W 0 spare held fuel t cs = some x → SlOK W cs
theorem noSl_string {t : TypeId} (ht : P.underlying t = some .string) : NoSl P t := by
  intro Hh enc W spare held fuel cs x h
  obtain ⟨n, rfl, _, hw⟩ := DataW.trod_string ht h
  intro a l c hm; simp at hm

theorem flatten_snoc {α : Type} (l : List (List α)) (x : List α) : (l ++ [x]).flatten = l.flatten ++ x := by simp
theorem opA_slice {t e : TypeId} {α : Type} {d : Kn α} {G : α → Prop} {sz : Nat} (ht : P.underlying t = some (.slice e)) (hsz : P.cellsOf e = sz) (he : OpA P e d G) (hn : NoSl P e) :
    OpA P t (Kn.slice e sz d) (fun l => l.length ≤ maxLen ∧ ∀ x ∈ l, G x) := by
  intro Hh enc W spare held fuel cs x h hs m H R
  rcases open_slice ht h with ⟨rfl, _⟩ | ⟨a, len, cap, mm, n, D, Pl, rfl, _, hlc, hcm, hm, _, hel⟩
  · exact ⟨m, H, [.slice none 0 0], [], R, Sub.refl m, Fr.refl H, LRel.one (.flat _ rfl), Or.inl ⟨rfl, rfl⟩, by simp, fun x hx => by simp at hx⟩
  · have hlm : len ≤ mm := by rw [hm]; split <;> omega
    obtain ⟨hsp, c, te, fr, hb⟩ := hs a len cap (by simp)
    have hcell : ∀ i, i < mm → ∃ cs', cs' = (c.toList.drop (a.off + i * sz)).take sz ∧ cs'.length = sz ∧ DataW.trod enc P W 0 spare held n e cs' = some (D i, Pl i) := by
      intro i hi
      obtain ⟨cs', h1, h2⟩ := hel i hi
      obtain ⟨_, h3, h4⟩ := World.cells?_some h1
      rw [hsz] at h3 h4
      refine ⟨cs', ?_, h3, h2⟩
      apply List.ext_getElem?
      intro j
      by_cases hj : j < sz
      · rw [List.getElem?_take_of_lt hj, List.getElem?_drop, ← h4 j hj]
        have e1 : (a.add (i * sz)).add j = a.add (i * sz + j) := add_add _ _ _
        have e2 : (a.add (i * sz + j)).block = a.block ∧ (a.add (i * sz + j)).spot = none ∧ (a.add (i * sz + j)).off = a.off + (i * sz + j) := by
          unfold Addr.add
          by_cases h0 : i * sz + j = 0
          · rw [if_pos h0, h0]; exact ⟨rfl, hsp, rfl⟩
          · rw [if_neg h0]; exact ⟨rfl, rfl, rfl⟩
        rw [e1]
        unfold World.cell?
        rw [e2.1, hb]
        simp only [e2.2.1, e2.2.2]
        simp [Nat.add_assoc]
      · rw [List.getElem?_eq_none (by omega), List.getElem?_eq_none (by rw [List.length_take]; omega)]
    have key : ∀ q, q ≤ len → ∃ (m' : Mp) (H' : AH) (l : List α) (css : List (List Value)), Ro P W m' H' ∧ Sub m m' ∧ Fr H H' ∧ l.length = q ∧ css.length = q ∧ (∀ x ∈ l, G x) ∧ css.flatten.length = q * sz ∧ LRel m' css.flatten ((c.toList.drop a.off).take (q * sz)) ∧
        ∀ (i : Nat) (y : α) (c : List Value), l[i]? = some y → css[i]? = some c → c.length = sz ∧ d.K H' y c := by
      intro q
      induction q with
      | zero => exact fun _ => ⟨m, H, [], [], R, Sub.refl m, Fr.refl H, rfl, rfl, fun x hx => by simp at hx, by simp, by simpa using LRel.nil m, fun i y c h => by simp at h⟩
      | succ q ih =>
        intro hq
        obtain ⟨m1, H1, l, css, R1, s1, f1, hl, hcs, hG, hfl, hLR, hK⟩ := ih (by omega)
        obtain ⟨cs', e1, e2, e3⟩ := hcell q (by omega)
        obtain ⟨m2, H2, ds, y, R2, s2, f2, hLR2, hK2, hG2⟩ := he Hh enc W spare held n cs' _ e3 (hn Hh enc W spare held n cs' _ e3) m1 H1 R1
        refine ⟨m2, H2, l ++ [y], css ++ [ds], R2, s1.trans s2, f1.trans f2, by simp [hl], by simp [hcs], ?_, ?_, ?_, ?_⟩
        · intro x hx
          rcases List.mem_append.1 hx with hx | hx
          · exact hG x hx
          · simp at hx; subst hx; exact hG2
        · rw [flatten_snoc, List.length_append, hfl, hLR2.1, e2, Nat.succ_mul]
        · rw [flatten_snoc, Nat.succ_mul, List.take_add, List.drop_drop, ← e1]
          exact (hLR.mono s2).append hLR2
        · intro i y' c' h1 h2
          by_cases hi : i < q
          · rw [List.getElem?_append_left (by omega)] at h1 h2
            exact ⟨(hK i y' c' h1 h2).1, d.mono f2.mo (hK i y' c' h1 h2).2⟩
          · have hi2 := (List.getElem?_eq_some_iff.1 h1).1
            have : i = q := by simp [hl] at hi2; omega
            subst this
            rw [List.getElem?_append_right (by omega), hl, Nat.sub_self] at h1
            rw [List.getElem?_append_right (by omega), hcs, Nat.sub_self] at h2
            simp at h1 h2
            subst h1 h2
            exact ⟨by rw [hLR2.1, e2], hK2⟩
    obtain ⟨m1, H1, l, css, R1, s1, f1, hl, hcs, hG, hfl, hLR, hK⟩ := key len (Nat.le_refl _)
    obtain ⟨m2, s2, hm2, R2⟩ := R1.add (ks := css.flatten) (e := e) (base := a.off) hb (by rw [hfl]; exact hLR)
    have fnew : Fr H1 (mkB H1 css.flatten e .ro) := ⟨by rw [length_mkB]; omega, fun b hb => blk_mkB_old hb⟩
    refine ⟨m2, mkB H1 css.flatten e .ro, [sl H1.length 0 l.length (l.length + 1)], l, R2, s1.trans s2, f1.trans fnew, ?_, Or.inr ⟨H1.length, css, rfl, blk_mkB_new, by omega, fun i y c h1 h2 => ⟨(hK i y c h1 h2).1, d.mono fnew.mo (hK i y c h1 h2).2⟩⟩, by omega, hG⟩
    refine LRel.one ?_
    rw [hl]
    have ea : a = ⟨a.block, a.off, none⟩ := by rw [← hsp]
    rw [ea]
    exact .slice H1.length 0 a.off len (len + 1) cap ⟨a.block, a.off, .ro, 0, 0⟩ hm2 rfl (by omega) hlc (.inl (by simp)) (fun h => (by cases h)) (fun h => (by cases h)) (fun _ => .inl (by omega))

theorem slOK_cell {W : World} {base : Nat} {u : TypeId} {a : Addr} {len cap : Nat} (h : Cell.okWide P W .any base u (.slice (some a) len cap)) : a.spot = none ∧ ∃ c e fr, W.heap[a.block]? = some (.cells c e fr) := by
  have hc : ∃ e n, W.has P .any base a e n := by
    unfold Cell.okWide at h
    cases hu : P.underlying u with
    | none => rw [hu] at h; simp [Cell.ok, hu] at h
    | some D =>
      rw [hu] at h
      cases D <;> simp [Cell.ok, hu] at h
      exact ⟨_, _, h.2.2⟩
  obtain ⟨e, n, hh⟩ := hc
  obtain ⟨_, h1, row, cells, h2, _⟩ := hh
  refine ⟨h1, ?_⟩
  unfold World.shape? at h2
  split at h2
  · rename_i c' e' fr' hb; exact ⟨c', e', fr', hb⟩
  · cases h2
theorem slOK_of {W : World} {base : Nat} {t : TypeId} {v : Value} (h : Value.okWide P W .any base t v) : SlOK W v.cells.toList := by
  intro a len cap hm
  have key : (∃ u, Cell.okWide P W .any base u (.slice (some a) len cap)) := by
    unfold Value.okWide at h
    split at h
    · obtain ⟨cs, rfl, _, ts, _, _, hr⟩ := h
      obtain ⟨i, hi⟩ := List.getElem?_of_mem hm
      obtain ⟨u, _, hu⟩ := hr i _ (by simpa [Value.cells] using hi)
      exact ⟨u, hu⟩
    · obtain ⟨cs, rfl, _, ts, _, _, hr⟩ := h
      obtain ⟨i, hi⟩ := List.getElem?_of_mem hm
      obtain ⟨u, _, hu⟩ := hr i _ (by simpa [Value.cells] using hi)
      exact ⟨u, hu⟩
    · cases v with
      | agg cs =>
        exfalso
        unfold Cell.okWide at h
        cases hu : P.underlying t with
        | none => rw [hu] at h; simp [Cell.ok, hu] at h
        | some D => rw [hu] at h; cases D <;> simp [Cell.ok, hu] at h
      | slice p l c =>
        simp [Value.cells] at hm
        obtain ⟨rfl, rfl, rfl⟩ := hm
        exact ⟨t, h⟩
      | _ => simp [Value.cells] at hm
  obtain ⟨u, hu⟩ := key
  exact slOK_cell hu
/-- An argument. -/
structure OpV (P : Program) (t : TypeId) {α : Type} (d : Kn α) (G : α → Prop) (KV : AH → α → Value → Prop) : Prop where
  op : OpA P t d G
  val : ∀ (W : World) (base : Nat) (v : Value), Value.okWide P W .any base t v → (∃ cs, v = .agg cs) ∧ (∀ H a cs, d.K H a cs → KV H a (.agg cs.toArray)) ∨ v.cells = #[v] ∧ (∀ H a v, d.K H a [v] → KV H a v)
  mono : ∀ {H H' : AH} {a : α} {v : Value}, Mo H H' → KV H a v → KV H' a v
def KvC {α : Type} (d : Kn α) (H : AH) (a : α) (v : Value) : Prop := d.K H a [v]
theorem opV_cell {t : TypeId} {D : TypeDesc} {α : Type} {d : Kn α} {G : α → Prop} (ht : P.underlying t = some D) (hD : (∀ fs, D ≠ .struct fs) ∧ ∀ n e, D ≠ .array n e) (A : OpA P t d G) : OpV P t d G (KvC d) := by
  refine ⟨A, fun W base v h => .inr ⟨?_, fun H a v h => h⟩, fun hm h => d.mono hm h⟩
  unfold Value.okWide at h
  rw [ht] at h
  have h' : Cell.okWide P W .any base t v := by
    cases D with
    | struct fs => exact absurd rfl (hD.1 fs)
    | array n e => exact absurd rfl (hD.2 n e)
    | _ => exact h
  cases v with
  | agg cs =>
    exfalso
    unfold Cell.okWide at h'
    rw [ht] at h'
    cases D <;> simp [Cell.ok, ht] at h'
  | _ => rfl
/-- All arguments. -/
structure OpAs (P : Program) (ts : List TypeId) {α : Type} (G : α → Prop) (KV : AH → α → List Value → Prop) : Prop where
  op : ∀ (Hh : Type) (enc : TypeId × Value → Hh) (W : World) (base : Nat) (spare : Nat → Bool) (held : Bool) (vs : List Value) (ds : List (DataW Hh)) (ps : List MemPlace),
    DataW.TrodAll enc P W 0 spare held ts vs ds ps → (∀ (j : Nat) t v, ts[j]? = some t → vs[j]? = some v → Value.okWide P W .any base t v) → ∀ (m : Mp) (H : AH), Ro P W m H →
    ∃ m' H' vs' a, Ro P W m' H' ∧ Sub m m' ∧ Fr H H' ∧ LRel m' vs' vs ∧ KV H' a vs' ∧ G a
  mono : ∀ {H H' : AH} {a : α} {vs : List Value}, Mo H H' → KV H a vs → KV H' a vs
theorem opAs_nil : OpAs P [] (fun _ : Unit => True) (fun _ _ vs => vs = []) := by
  refine ⟨?_, fun _ h => h⟩
  intro Hh enc W base spare held vs ds ps h _ m H R
  obtain ⟨rfl, rfl, rfl⟩ := trodAll_nil h
  exact ⟨m, H, [], (), R, Sub.refl m, Fr.refl H, LRel.nil m, rfl, trivial⟩
theorem opAs_cons {t : TypeId} {ts : List TypeId} {α β : Type} {d : Kn α} {G : α → Prop} {KV : AH → α → Value → Prop} {G' : β → Prop} {KV' : AH → β → List Value → Prop} (A : OpV P t d G KV) (B : OpAs P ts G' KV') :
    OpAs P (t :: ts) (fun x : α × β => G x.1 ∧ G' x.2) (fun H x vs => ∃ v vs', vs = v :: vs' ∧ KV H x.1 v ∧ KV' H x.2 vs') := by
  refine ⟨?_, fun hm ⟨v, vs', h1, h2, h3⟩ => ⟨v, vs', h1, A.mono hm h2, B.mono hm h3⟩⟩
  intro Hh enc W base spare held vs ds ps h hv m H R
  obtain ⟨v, vs', d0, ds', p, q, rfl, rfl, rfl, ⟨fuel, h0⟩, hr⟩ := trodAll_cons h
  have hok := hv 0 t v rfl rfl
  obtain ⟨m2, H2, us, y2, R2, s2, f2, l2, k2, g2⟩ := B.op Hh enc W base spare held vs' ds' q hr (fun j t' v' h1 h2 => hv (j + 1) t' v' h1 h2) m H R
  obtain ⟨m1, H1, cs', y1, R1, s1, f1, l1, k1, g1⟩ := A.op Hh enc W spare held fuel _ _ h0 (slOK_of hok) m2 H2 R2
  rcases A.val W base v hok with ⟨⟨cs, rfl⟩, hk⟩ | ⟨hc, hk⟩
  · exact ⟨m1, H1, .agg cs'.toArray :: us, (y1, y2), R1, s2.trans s1, f2.trans f1, LRel.cons (VRel.aggL (by simpa [Value.cells] using l1)) (l2.mono s1), ⟨_, _, rfl, hk _ _ _ k1, B.mono f1.mo k2⟩, g1, g2⟩
  · rw [hc] at l1
    obtain ⟨x, rfl⟩ : ∃ x, cs' = [x] := List.length_eq_one_iff.1 l1.1
    exact ⟨m1, H1, x :: us, (y1, y2), R1, s2.trans s1, f2.trans f1, LRel.cons (l1.2 0 x v rfl rfl) (l2.mono s1), ⟨_, _, rfl, hk _ _ _ k1, B.mono f1.mo k2⟩, g1, g2⟩
theorem rgFind_mem : ∀ (l : List (Array Tmp × Code × Code)) (x : Array Tmp × Code × Code), nodupB (l.map fun x => firstId x.2.2) = true → x ∈ l → rgFind (firstId x.2.2) l = some x
  | [], x, _, h => by cases h
  | y :: l, x, hn, h => by
    simp only [List.map_cons, nodupB, Bool.and_eq_true, Bool.not_eq_true'] at hn
    unfold rgFind
    cases h with
    | head => simp
    | tail _ h =>
      have hne : (firstId y.2.2 == firstId x.2.2) = false := by
        cases he : firstId y.2.2 == firstId x.2.2 with
        | false => rfl
        | true =>
          exfalso
          have h1 : firstId y.2.2 = firstId x.2.2 := by simpa using he
          have h2 : (l.map fun x => firstId x.2.2).contains (firstId y.2.2) = true := by
            rw [List.contains_iff_mem, h1]
            exact List.mem_map.2 ⟨x, h, rfl⟩
          rw [h2] at hn
          cases hn.1
      rw [hne]
      exact rgFind_mem l x hn.2 h
theorem ranges_go {tbs : FuncId → Tbl} : ∀ (l : List Func) (i : Nat), rangesGo tbs i l = true → ∀ (j : Nat) (fn : Func) (c : Code), l[j]? = some fn → fn.body = some c → rgs c = [] ∨ (fidOf (tbs (i + j)) = i + j ∧ nodupB ((rgs c).map fun x => firstId x.2.2) = true)
  | [], i, _, j, fn, c, h, _ => by simp at h
  | f0 :: l, i, h, 0, fn, c, hj, hc => by
    simp only [List.getElem?_cons_zero, Option.some.injEq] at hj
    subst hj
    simp only [rangesGo, hc, Bool.and_eq_true, Bool.or_eq_true] at h
    rcases h.1 with h1 | h1
    · exact .inl (List.isEmpty_iff.1 h1)
    · exact .inr ⟨by simpa using h1.1, h1.2⟩
  | f0 :: l, i, h, j + 1, fn, c, hj, hc => by
    simp only [rangesGo, Bool.and_eq_true] at h
    have := ranges_go l (i + 1) h.2 j fn c (by simpa using hj) hc
    rwa [show i + 1 + j = i + (j + 1) by omega] at this
theorem ranges_ok {P : Program} {tbs : FuncId → Tbl} (h : rangesB P tbs = true) : RangesOK P tbs := by
  intro f fn c hf hc
  rcases ranges_go _ 0 h f fn c (by rw [Array.getElem?_toList]; exact hf) hc with h1 | ⟨h1, h2⟩
  · exact .inl h1
  · rw [Nat.zero_add] at h1
    refine .inr ⟨h1, fun x hx => ?_⟩
    unfold rangeAt
    rw [hf, Option.bind_some, hc, Option.bind_some]
    exact rgFind_mem _ x h2 hx
/-- Behind a call: nothing that was there is another. -/
theorem walk_of {W : World} {f : FuncId} {args vs : List Value} {m : Mp} {H H' : AH} {v : Value} {call : CallF} (hc : CallOK P call) (R : Ro P W m H) (hl : LRel m args vs) (h : call f args H = some (v, H')) (hf : flat1 v = true) (hy : f < yOff := by unfold yOff; omega) :
    Calls P f vs.toArray W fun e W' => e = .returned v ∧ Below W.heap.size W W' := by
  refine ((hc.1 f args H v H' hy h).2 W.heap.size W m W vs R.rel hl).mono fun e w' ⟨m', v', he, hv, hr, _⟩ => ?_
  rw [VRel.flat_inv hf hv] at he
  exact ⟨he, hr.below⟩
end Go.AM
set_option linter.unusedVariables false
set_option linter.unusedSimpArgs false
set_option maxRecDepth 100000
namespace Go.AM.W
open Go Go.AM Go.Proofs
attribute [local irreducible] run bin un ld st box newV mkS fldA fld ixA ix slc slc3 build buildS cv cvS ap cpy lenV gOp pickV b2 aIf aChk evalK resume iterD Option.bind

section
variable {B B0 H0 H : AH} {L : List (Nat × Blk)}
abbrev KStrs := Kn.slice 9 1 Kn.string
theorem strs_open {H : AH} {l : List ByteArray} {m : Value} (h : KStrs.K H l [m]) : FL H m str (l.map fun s => s.data.toList) := by
  rcases h with ⟨h1, rfl⟩ | ⟨b, css, h1, h2, h3, h4⟩
  · cases h1; exact FL.nil
  · cases h1
    have hl : (l.map fun s => s.data.toList).length = l.length := List.length_map ..
    refine ⟨.inr ⟨b, 0, l.length + 1, by rw [hl], by omega, by simp, ?_⟩⟩
    right
    refine ⟨_, h2, ?_⟩
    have e : css.flatten = (l.map fun s => s.data.toList).map str := by
      have : css = l.map fun s => [Value.string s] := by
        apply List.ext_getElem?
        intro i
        by_cases hi : i < l.length
        · rw [List.getElem?_map, List.getElem?_eq_getElem hi, List.getElem?_eq_getElem (by omega)]
          have := (h4 i _ _ (List.getElem?_eq_getElem hi) (List.getElem?_eq_getElem (by omega))).2
          exact congrArg some this
        · rw [List.getElem?_eq_none (by omega), List.getElem?_eq_none (by simp; omega)]
      rw [this, List.map_map]
      clear this h2 h3 h4
      induction l with
      | nil => rfl
      | cons a l ih =>
        simp only [List.map_cons, List.flatten_cons, List.cons_append, List.nil_append, Function.comp]
        rw [ih (by simp)]
    rw [e]
    unfold rdN
    rw [if_pos (by simp), List.drop_zero, List.take_of_length_le (by simp)]
theorem permR1 {α : Type} (A B C R : List α) : (C ++ (A ++ (B ++ R))).Perm (A ++ (B ++ (C ++ R))) := by
  have e1 : A ++ (B ++ (C ++ R)) = (A ++ B) ++ (C ++ R) := by rw [List.append_assoc]
  have e2 : C ++ (A ++ (B ++ R)) = C ++ ((A ++ B) ++ R) := by rw [List.append_assoc]
  rw [e1, e2, ← List.append_assoc, ← List.append_assoc (A ++ B)]
  exact List.Perm.append_right _ List.perm_append_comm
theorem permR2 {α : Type} (A B C R : List α) : (A ++ (B ++ (C ++ R))).Perm (C ++ (B ++ (A ++ R))) := by
  have h1 := permR1 A B C R
  have h2 : (C ++ (A ++ (B ++ R))).Perm (C ++ (B ++ (A ++ R))) := List.Perm.append_left _ (by rw [← List.append_assoc, ← List.append_assoc]; exact List.Perm.append_right _ List.perm_append_comm)
  exact h1.symm.trans h2
abbrev fF (x : Nat × List UInt8) : Value := i64 (x.1 + 2)
abbrev fS (x : Nat × List UInt8) : Value := str x.2
def sumN (bl : List (Nat × List UInt8)) : Nat := (bl.map fun x => need x.2.length).sum
theorem sumN_snoc (bl : List (Nat × List UInt8)) (x : Nat × List UInt8) : sumN (bl ++ [x]) = sumN bl + need x.2.length := by simp [sumN]
theorem sumN_take (bl : List (Nat × List UInt8)) (i : Nat) : sumN (bl.take i) ≤ sumN bl := by
  have h : sumN (bl.take i ++ bl.drop i) = sumN (bl.take i) + sumN (bl.drop i) := by unfold sumN; rw [List.map_append, List.sum_append]
  rw [List.take_append_drop] at h
  omega
theorem sumN_step {bl : List (Nat × List UInt8)} {i : Nat} {x : Nat × List UInt8} (h : bl[i]? = some x) : sumN (bl.take (i + 1)) = sumN (bl.take i) + need x.2.length := by
  rw [List.take_add_one, h]
  exact sumN_snoc _ _
structure BI (bl : List (Nat × List UInt8)) (j : Nat) (D : Dsk) : Prop where
  up : D.Up (2 * 30)
  le : j + 2 ≤ 30
  ca : D.cache.length ≤ 2 * j
  ok : ∀ x ∈ bl, x.2.length ≤ 2000 ∧ x.1 + need x.2.length ≤ j ∧ D.Has x.2 x.1 (need x.2.length)
  su : sumN bl = j
theorem BI.add {bl : List (Nat × List UInt8)} {j : Nat} {D D' : Dsk} {s : List UInt8} (h : BI bl j D) (hL : Laid s j (need s.length) D D') (u : D'.Up (2 * 30)) (c : D'.cache.length = D.cache.length + 2 * need s.length) (hj : j + need s.length + 2 ≤ 30) (hs : s.length ≤ 2000) : BI (bl ++ [(j, s)]) (j + need s.length) D' := by
  have hca := h.ca
  refine ⟨u, hj, by omega, fun x hx => ?_, by rw [sumN_snoc, h.su]⟩
  rcases List.mem_append.1 hx with hx | hx
  · obtain ⟨h1, h2, h3⟩ := h.ok x hx
    refine ⟨h1, by omega, fun i hi => ?_⟩
    rw [hL, if_neg (by omega)]
    exact h3 i hi
  · rw [List.mem_singleton.1 hx]
    exact ⟨hs, Nat.le_refl _, hL.has⟩
theorem back_L0 {p dv : Nat} {lv : Value} {l : List (List UInt8)} {Bl : AH} (hl0 : FT Bl lv str l) (hll : l.length < 9223372036854775808) (hls : ∀ s ∈ l, s.length < 9223372036854775808) :
    ∀ (q i : Nat) (B H : AH) (D : Dsk) (bl : List (Nat × List UInt8)) (j : Nat) (Ls Lf Lk : List (Nat × Blk)) (s8 s9 : Value), i + q = 5 → Mo Bl B → BI bl j D → bl.length ≤ i → PK (ptr p 0) (ptr dv 0) ⟨1, 0, [0, 1], frs j, false⟩ D Ls → GRS 3 1 s8 bl.length (bl.map fF) Lf → GRS 9 1 s9 bl.length (bl.map fS) Lk → St H0 B0 B (Ls ++ (Lf ++ (Lk ++ L))) H →
    Ev (fun K K2 => f3_L0 K lv (.bool true) (ptr p 0) s8 s9 (i64 j) (i64 i) K2 H) (fun o => ∃ B' H' D' bl' j' Ls' Lf' Lk' s8' s9', o = (.exit 0, f3_X_L0 unk (.bool true) (ptr p 0) s8' s9' (i64 j'), H') ∧ MoC B B' ∧ BI bl' j' D' ∧ bl'.length ≤ 5 ∧ PK (ptr p 0) (ptr dv 0) ⟨1, 0, [0, 1], frs j', false⟩ D' Ls' ∧ GRS 3 1 s8' bl'.length (bl'.map fF) Lf' ∧ GRS 9 1 s9' bl'.length (bl'.map fS) Lk' ∧ St H0 B0 B' (Ls' ++ (Lf' ++ (Lk' ++ L))) H') := by
  intro q
  induction q with
  | zero =>
    intro i B H D bl j Ls Lf Lk s8 s9 hi hB hI hbl hP hF hK hS
    have hl : FL B lv str l := (hl0.fl).mono hB
    have fin : ∃ B' H' D' bl' j' Ls' Lf' Lk' s8' s9', ((EX.exit 0 : EX), f3_X_L0 unk (.bool true) (ptr p 0) s8 s9 (i64 j), H) = (EX.exit 0, f3_X_L0 unk (.bool true) (ptr p 0) s8' s9' (i64 j'), H') ∧ MoC B B' ∧ BI bl' j' D' ∧ bl'.length ≤ 5 ∧ PK (ptr p 0) (ptr dv 0) ⟨1, 0, [0, 1], frs j', false⟩ D' Ls' ∧ GRS 3 1 s8' bl'.length (bl'.map fF) Lf' ∧ GRS 9 1 s9' bl'.length (bl'.map fS) Lk' ∧ St H0 B0 B' (Ls' ++ (Lf' ++ (Lk' ++ L))) H' :=
      ⟨B, H, D, bl, j, Ls, Lf, Lk, s8, s9, rfl, ⟨Mo.refl B⟩, hI, by omega, hP, hF, hK, hS⟩
    refine Ev.succ (fun k K => f3_L0_succ k _ _ _ _ _ _ _ K H) ?_
    repeat (first | refine Ev.s ?_ | refine Ev.newC fun _ _ _ => ?_ | refine Ev.boxC fun _ _ _ => ?_ | refine Ev.stC fun _ _ => ?_ | refine Ev.sc (by omega) ?_ | refine Ev.scg (by omega) ?_)
    by_cases hil : i < l.length
    · rw [decide_eq_true hil]
      repeat (first | refine Ev.s ?_ | refine Ev.newC fun _ _ _ => ?_ | refine Ev.boxC fun _ _ _ => ?_ | refine Ev.stC fun _ _ => ?_ | refine Ev.sc (by omega) ?_ | refine Ev.scg (by omega) ?_)
      rw [decide_eq_false (by omega)]
      repeat (first | refine Ev.s ?_ | refine Ev.newC fun _ _ _ => ?_ | refine Ev.boxC fun _ _ _ => ?_ | refine Ev.stC fun _ _ => ?_ | refine Ev.sc (by omega) ?_ | refine Ev.scg (by omega) ?_)
      exact Ev.ret fin
    · rw [decide_eq_false hil]
      repeat (first | refine Ev.s ?_ | refine Ev.newC fun _ _ _ => ?_ | refine Ev.boxC fun _ _ _ => ?_ | refine Ev.stC fun _ _ => ?_ | refine Ev.sc (by omega) ?_ | refine Ev.scg (by omega) ?_)
      exact Ev.ret fin
  | succ q ih =>
    intro i B H D bl j Ls Lf Lk s8 s9 hi hB hI hbl hP hF hK hS
    have hl : FL B lv str l := (hl0.fl).mono hB
    refine Ev.succ (fun k K => f3_L0_succ k _ _ _ _ _ _ _ K H) ?_
    repeat (first | refine Ev.s ?_ | refine Ev.newC fun _ _ _ => ?_ | refine Ev.boxC fun _ _ _ => ?_ | refine Ev.stC fun _ _ => ?_ | refine Ev.sc (by omega) ?_ | refine Ev.scg (by omega) ?_)
    by_cases hil : i < l.length
    case neg =>
      rw [decide_eq_false hil]
      repeat (first | refine Ev.s ?_ | refine Ev.newC fun _ _ _ => ?_ | refine Ev.boxC fun _ _ _ => ?_ | refine Ev.stC fun _ _ => ?_ | refine Ev.sc (by omega) ?_ | refine Ev.scg (by omega) ?_)
      exact Ev.ret ⟨B, H, D, bl, j, Ls, Lf, Lk, s8, s9, rfl, ⟨Mo.refl B⟩, hI, by omega, hP, hF, hK, hS⟩
    rw [decide_eq_true hil]
    repeat (first | refine Ev.s ?_ | refine Ev.newC fun _ _ _ => ?_ | refine Ev.boxC fun _ _ _ => ?_ | refine Ev.stC fun _ _ => ?_ | refine Ev.sc (by omega) ?_ | refine Ev.scg (by omega) ?_)
    rw [decide_eq_true (by omega)]
    repeat (first | refine Ev.s ?_ | refine Ev.newC fun _ _ _ => ?_ | refine Ev.boxC fun _ _ _ => ?_ | refine Ev.stC fun _ _ => ?_ | refine Ev.sc (by omega) ?_ | refine Ev.scg (by omega) ?_)
    obtain ⟨s0, hs⟩ : ∃ x, l[i]? = some x := ⟨_, List.getElem?_eq_getElem hil⟩
    have hsl := hls s0 (List.mem_of_getElem? hs)
    refine Ev.ixF i rfl hs fun pp hp => ?_
    repeat (first | refine Ev.s ?_ | refine Ev.newC fun _ _ _ => ?_ | refine Ev.boxC fun _ _ _ => ?_ | refine Ev.stC fun _ _ => ?_ | refine Ev.sc (by omega) ?_ | refine Ev.scg (by omega) ?_)
    refine Ev.ixF i rfl hs fun pp2 hp2 => ?_
    repeat (first | refine Ev.s ?_ | refine Ev.newC fun _ _ _ => ?_ | refine Ev.boxC fun _ _ _ => ?_ | refine Ev.stC fun _ _ => ?_ | refine Ev.sc (by omega) ?_ | refine Ev.scg (by omega) ?_)
    rw [show (if (2000 : Int) < (s0.length : Int) then (2000 : Int) else (s0.length : Int)) = ((min s0.length 2000 : Nat) : Int) by split <;> omega]
    refine Ev.prim (slc_strT (l := s0) (i := min s0.length 2000) (Nat.min_le_left _ _)) ?_
    have hsl2 : (s0.take (min s0.length 2000)).length ≤ 2000 := by rw [List.length_take]; omega
    generalize s0.take (min s0.length 2000) = s at hsl2
    have hnp := need_pos s.length
    have hk : need s.length ≤ 17 := by unfold need; split <;> omega
    have hca := hI.ca
    have hle := hI.le
    refine Ev.b2 (bWrite_spec (j := j) (s := s) hI.up (by decide) (by omega) hle (by omega) hP hS) ?_
    clear hS
    rintro _ H1 (⟨h1, B1, Ls1, D1, rfl, hm1, u1, c1, hL1, hP1, hS1⟩ | ⟨h1, B1, Ls1, rfl, hm1, hP1, hS1⟩)
    · dsimp only at hS1
      have hI1 := hI.add hL1 u1 c1 h1 hsl2
      repeat (first | refine Ev.s ?_ | refine Ev.newC fun _ _ _ => ?_ | refine Ev.boxC fun _ _ _ => ?_ | refine Ev.stC fun _ _ => ?_ | refine Ev.sc (by omega) ?_ | refine Ev.scg (by omega) ?_)
      refine Ev.b2 (Need_spec (n := s.length) (by omega)) ?_
      rintro _ _ h
      cases h
      generalize hkk : need s.length = k at hnp hk h1 hI1 hP1 c1 hL1 ⊢
      repeat (first | (first | refine Ev.s ?_ | refine Ev.newC fun _ _ _ => ?_ | refine Ev.boxC fun _ _ _ => ?_ | refine Ev.stC fun _ _ => ?_ | refine Ev.sc (by omega) ?_ | refine Ev.scg (by omega) ?_) | rw [decide_eq_true (by omega)] | rw [decide_eq_false (by omega)])
      refine Ev.b2 (Fresh_spec hP1 (by show (frs (j + k)).length < 100000; rw [frs_len]; omega) hS1) ?_
      clear hS1
      rintro v2 H2 ⟨B2, hm2, hsc2, hS2⟩
      dsimp only at hS2 hsc2
      rw [frs_len] at hsc2
      have hl_ := hsc2.len (Und.eq (P := Tryd.prog) (t := 31))
      rw [hl_, Option.bind_some]
      repeat (first | (first | refine Ev.s ?_ | refine Ev.newC fun _ _ _ => ?_ | refine Ev.boxC fun _ _ _ => ?_ | refine Ev.stC fun _ _ => ?_ | refine Ev.sc (by omega) ?_ | refine Ev.scg (by omega) ?_) | rw [decide_eq_true (by omega)] | rw [decide_eq_false (by omega)])
      have hS3 := hS2.perm (permA Ls1 Lf (Lk ++ L))
      refine GAcc.push (t := 31) (x := i64 (j + 2)) (ds := [i64 (j + 2)]) (hF.acc hS3) rfl rfl rfl rfl (by decide) (by omega) fun s8' B4 H4 hm4 hG4 => ?_
      obtain ⟨Lf4, hF4, hS4⟩ := hG4.grs
      have hS5 := hS4.perm (permR1 Lf4 Ls1 Lk L)
      refine GAcc.push (t := 22) (x := str s) (ds := [str s]) (hK.acc hS5) rfl rfl rfl rfl (by decide) (by omega) fun s9' B6 H6 hm6 hG6 => ?_
      obtain ⟨Lk6, hK6, hS6⟩ := hG6.grs
      have hS7 := hS6.perm (permR2 Ls1 Lf4 Lk6 L)
      clear hS2 hS3 hS4 hS5 hS6 hl
      repeat (first | (first | refine Ev.s ?_ | refine Ev.newC fun _ _ _ => ?_ | refine Ev.boxC fun _ _ _ => ?_ | refine Ev.stC fun _ _ => ?_ | refine Ev.sc (by omega) ?_ | refine Ev.scg (by omega) ?_) | rw [decide_eq_true (by omega)] | rw [decide_eq_false (by omega)])
      refine (ih (i + 1) B6 H6 D1 (bl ++ [(j, s)]) (j + k) Ls1 Lf4 Lk6 s8' s9' (by omega) (hB.trans (hm1.mo.trans (hm2.mo.trans (hm4.mo.trans hm6.mo)))) hI1 (by rw [List.length_append]; show bl.length + 1 ≤ _; omega) hP1 (by rw [List.length_append, List.map_append]; exact hF4) (by rw [List.length_append, List.map_append]; exact hK6) hS7).mono ?_
      rintro o ⟨B', H', D', bl', j', Ls', Lf', Lk', s8', s9', e, hm', h⟩
      exact ⟨B', H', D', bl', j', Ls', Lf', Lk', s8', s9', e, ⟨hm1.mo.trans (hm2.mo.trans (hm4.mo.trans (hm6.mo.trans hm'.mo)))⟩, h⟩
    · dsimp only at hS1
      repeat (first | refine Ev.s ?_ | refine Ev.newC fun _ _ _ => ?_ | refine Ev.boxC fun _ _ _ => ?_ | refine Ev.stC fun _ _ => ?_ | refine Ev.sc (by omega) ?_ | refine Ev.scg (by omega) ?_)
      refine Ev.b2 (Need_spec (n := s.length) (by omega)) ?_
      rintro _ _ h
      cases h
      generalize hkk : need s.length = k at hnp hk h1 ⊢
      repeat (first | (first | refine Ev.s ?_ | refine Ev.newC fun _ _ _ => ?_ | refine Ev.boxC fun _ _ _ => ?_ | refine Ev.stC fun _ _ => ?_ | refine Ev.sc (by omega) ?_ | refine Ev.scg (by omega) ?_) | rw [decide_eq_true (by omega)] | rw [decide_eq_false (by omega)])
      refine Ev.b2 (Fresh_spec hP1 (by show (frs j).length < 100000; rw [frs_len]; omega) hS1) ?_
      clear hS1
      rintro v2 H2 ⟨B2, hm2, hsc2, hS2⟩
      dsimp only at hS2 hsc2
      rw [frs_len] at hsc2
      have hl_ := hsc2.len (Und.eq (P := Tryd.prog) (t := 31))
      rw [hl_, Option.bind_some]
      clear hl
      repeat (first | (first | refine Ev.s ?_ | refine Ev.newC fun _ _ _ => ?_ | refine Ev.boxC fun _ _ _ => ?_ | refine Ev.stC fun _ _ => ?_ | refine Ev.sc (by omega) ?_ | refine Ev.scg (by omega) ?_) | rw [decide_eq_true (by omega)] | rw [decide_eq_false (by omega)])
      refine (ih (i + 1) B2 H2 D bl j Ls1 Lf Lk s8 s9 (by omega) (hB.trans (hm1.mo.trans hm2.mo)) hI (by omega) hP1 hF hK hS2).mono ?_
      rintro o ⟨B', H', D', bl', j', Ls', Lf', Lk', s8', s9', e, hm', h⟩
      exact ⟨B', H', D', bl', j', Ls', Lf', Lk', s8', s9', e, ⟨hm1.mo.trans (hm2.mo.trans hm'.mo)⟩, h⟩
theorem back_L1 {p dv j : Nat} {bl : List (Nat × List UInt8)} {D : Dsk} {s8 s9 : Value} {Bl : AH} (hI : BI bl j D) (hbl : bl.length ≤ 5) (h8 : FL Bl s8 fF bl) (h9 : FL Bl s9 fS bl) :
    ∀ (q i : Nat) (B H : AH) (Ls : List (Nat × Blk)), i + q = bl.length → Mo Bl B → PK (ptr p 0) (ptr dv 0) ⟨1, 0, [0, 1], frs j, false⟩ D Ls → St H0 B0 B (Ls ++ L) H →
    Ev (fun K K2 => f3_L1 K (.bool true) (ptr p 0) s8 s9 (i64 j) (i64 (sumN (bl.take i))) (i64 i) K2 H) (fun o => ∃ H', o = (.exit 2, f3_X_L1 unk (.bool true) (i64 j) (i64 j), H')) := by
  have hca := hI.ca
  have hle := hI.le
  intro q
  induction q with
  | zero =>
    intro i B H Ls hi hB hP hS
    have h8' : FL B s8 fF bl := h8.mono hB
    refine Ev.succ (fun k K => f3_L1_succ k _ _ _ _ _ _ _ K H) ?_
    repeat (first | refine Ev.s ?_ | refine Ev.newC fun _ _ _ => ?_ | refine Ev.boxC fun _ _ _ => ?_ | refine Ev.stC fun _ _ => ?_ | refine Ev.sc (by omega) ?_ | refine Ev.scg (by omega) ?_)
    rw [decide_eq_false (by omega)]
    repeat (first | refine Ev.s ?_ | refine Ev.newC fun _ _ _ => ?_ | refine Ev.boxC fun _ _ _ => ?_ | refine Ev.stC fun _ _ => ?_ | refine Ev.sc (by omega) ?_ | refine Ev.scg (by omega) ?_)
    rw [List.take_of_length_le (by omega), hI.su]
    exact Ev.ret ⟨H, rfl⟩
  | succ q ih =>
    intro i B H Ls hi hB hP hS
    have h8' : FL B s8 fF bl := h8.mono hB
    refine Ev.succ (fun k K => f3_L1_succ k _ _ _ _ _ _ _ K H) ?_
    repeat (first | refine Ev.s ?_ | refine Ev.newC fun _ _ _ => ?_ | refine Ev.boxC fun _ _ _ => ?_ | refine Ev.stC fun _ _ => ?_ | refine Ev.sc (by omega) ?_ | refine Ev.scg (by omega) ?_)
    rw [decide_eq_true (by omega)]
    repeat (first | refine Ev.s ?_ | refine Ev.newC fun _ _ _ => ?_ | refine Ev.boxC fun _ _ _ => ?_ | refine Ev.stC fun _ _ => ?_ | refine Ev.sc (by omega) ?_ | refine Ev.scg (by omega) ?_)
    obtain ⟨⟨a, s⟩, hx⟩ : ∃ x, bl[i]? = some x := ⟨_, List.getElem?_eq_getElem (by omega)⟩
    obtain ⟨hs, ha, hH⟩ := hI.ok _ (List.mem_of_getElem? hx)
    dsimp only at hs ha hH
    have hst := sumN_step hx
    have hsl := sumN_take bl (i + 1)
    rw [hI.su] at hsl
    have hnp := need_pos s.length
    have hsk := need_all (s := s) (by omega)
    refine Ev.ixF i rfl hx fun pp hp => ?_
    repeat (first | refine Ev.s ?_ | refine Ev.newC fun _ _ _ => ?_ | refine Ev.boxC fun _ _ _ => ?_ | refine Ev.stC fun _ _ => ?_ | refine Ev.sc (by omega) ?_ | refine Ev.scg (by omega) ?_)
    refine Ev.b2 (bRead_spec (j := a) (k := need s.length) (a := 0) (s := s) hI.up (by decide) (by omega) rfl hH (by omega) (by omega) (by omega) hsk hP hS) ?_
    clear hS
    rintro _ H1 ⟨B1, Ls1, rfl, hm1, hP1, hS1⟩
    dsimp only at hS1
    rw [show s.drop (118 * 0) = s by simp]
    repeat (first | refine Ev.s ?_ | refine Ev.newC fun _ _ _ => ?_ | refine Ev.boxC fun _ _ _ => ?_ | refine Ev.stC fun _ _ => ?_ | refine Ev.sc (by omega) ?_ | refine Ev.scg (by omega) ?_)
    have h8'' : FL B1 s8 fF bl := h8'.mono hm1.mo
    have h9'' : FL B1 s9 fS bl := h9.mono (hB.trans hm1.mo)
    clear h8'
    refine Ev.ixF i rfl hx fun pp2 hp2 => ?_
    repeat (first | refine Ev.s ?_ | refine Ev.newC fun _ _ _ => ?_ | refine Ev.boxC fun _ _ _ => ?_ | refine Ev.stC fun _ _ => ?_ | refine Ev.sc (by omega) ?_ | refine Ev.scg (by omega) ?_)
    refine Ev.b2 (bPages_spec (j := a) (k := need s.length) (a := 0) (s := s) hI.up (by decide) (by omega) rfl hH (by omega) (by omega) hP1 hS1) ?_
    clear hS1
    rintro _ H2 ⟨v2, B2, Ls2, rfl, hm2, hsc2, hP2, hS2⟩
    dsimp only at hS2
    rw [Nat.sub_zero, Nat.add_zero] at hsc2
    have h8 : FL B2 s8 fF bl := h8''.mono hm2.mo
    have h9 : FL B2 s9 fS bl := h9''.mono hm2.mo
    clear h8'' h9''
    repeat (first | (first | refine Ev.s ?_ | refine Ev.newC fun _ _ _ => ?_ | refine Ev.boxC fun _ _ _ => ?_ | refine Ev.stC fun _ _ => ?_ | refine Ev.sc (by omega) ?_ | refine Ev.scg (by omega) ?_) | rw [decide_eq_true (by omega)] | rw [decide_eq_false (by omega)])
    refine Ev.ixFg i rfl hx fun pp3 hp3 => ?_
    repeat (first | (first | refine Ev.s ?_ | refine Ev.newC fun _ _ _ => ?_ | refine Ev.boxC fun _ _ _ => ?_ | refine Ev.stC fun _ _ => ?_ | refine Ev.sc (by omega) ?_ | refine Ev.scg (by omega) ?_) | rw [decide_eq_true (by omega)] | rw [decide_eq_false (by omega)])
    try rw [show decide (s = s) = true from decide_eq_true rfl]
    repeat (first | (first | refine Ev.s ?_ | refine Ev.newC fun _ _ _ => ?_ | refine Ev.boxC fun _ _ _ => ?_ | refine Ev.stC fun _ _ => ?_ | refine Ev.sc (by omega) ?_ | refine Ev.scg (by omega) ?_) | rw [decide_eq_true (by omega)] | rw [decide_eq_false (by omega)])
    have hv : FL B2 v2 i64v (pagesL a (need s.length)) := ⟨by rw [pagesL_len]; exact hsc2⟩
    generalize hkk : need s.length = k at hnp hsk ha hst hv ⊢
    have hl_ : lenV Tryd.prog 31 v2 = some (i64 k) := by have := hv.sc.len (P := Tryd.prog) (t := 31) (Und.eq (P := Tryd.prog) (t := 31)); rw [pagesL_len] at this; exact this
    rw [hl_, Option.bind_some]
    repeat (first | (first | refine Ev.s ?_ | refine Ev.newC fun _ _ _ => ?_ | refine Ev.boxC fun _ _ _ => ?_ | refine Ev.stC fun _ _ => ?_ | refine Ev.sc (by omega) ?_ | refine Ev.scg (by omega) ?_) | rw [decide_eq_true (by omega)] | rw [decide_eq_false (by omega)])
    refine Ev.b2 (Need_spec (n := s.length) (by omega)) ?_
    rintro _ _ h
    cases h
    rw [hkk]
    repeat (first | (first | refine Ev.s ?_ | refine Ev.newC fun _ _ _ => ?_ | refine Ev.boxC fun _ _ _ => ?_ | refine Ev.stC fun _ _ => ?_ | refine Ev.sc (by omega) ?_ | refine Ev.scg (by omega) ?_) | rw [decide_eq_true (by omega)] | rw [decide_eq_false (by omega)])
    refine Ev.ixFg (a := ((a + 2 : Nat) : Int)) 0 rfl (by rw [pagesL_at (by omega)]) fun pp4 hp4 => ?_
    repeat (first | (first | refine Ev.s ?_ | refine Ev.newC fun _ _ _ => ?_ | refine Ev.boxC fun _ _ _ => ?_ | refine Ev.stC fun _ _ => ?_ | refine Ev.sc (by omega) ?_ | refine Ev.scg (by omega) ?_) | rw [decide_eq_true (by omega)] | rw [decide_eq_false (by omega)])
    refine Ev.ixFg i rfl hx fun pp5 hp5 => ?_
    repeat (first | (first | refine Ev.s ?_ | refine Ev.newC fun _ _ _ => ?_ | refine Ev.boxC fun _ _ _ => ?_ | refine Ev.stC fun _ _ => ?_ | refine Ev.sc (by omega) ?_ | refine Ev.scg (by omega) ?_) | rw [decide_eq_true (by omega)] | rw [decide_eq_false (by omega)])
    rw [← hst]
    exact ih (i + 1) B2 H2 Ls2 (by omega) (hB.trans (hm1.mo.trans hm2.mo)) hP2 hS2
theorem back_law {lv : Value} {l : List (List UInt8)} (hl : FT B lv str l) (hll : l.length < 9223372036854775808) (hls : ∀ s ∈ l, s.length < 9223372036854775808) (hL : Le B H) : Ev (fun k _ => rn k 3 [lv] H) (fun r => r.1 = .bool true) := by
  refine Ev.fn (fun k => f3_eq k _ H) ?_
  have hS := St.start hL
  refine Ev.b2 (examples_spec hS) ?_
  rintro _ H1 ⟨rfl, B1, hm1, hS1⟩
  dsimp only at hS1
  clear hS
  repeat (first | refine Ev.s ?_ | refine Ev.newC fun _ _ _ => ?_ | refine Ev.boxC fun _ _ _ => ?_ | refine Ev.stC fun _ _ => ?_ | refine Ev.sc (by omega) ?_ | refine Ev.scg (by omega) ?_)
  refine Ev.b2 (New_spec (n := 60) (by decide) (by decide) hS1) ?_
  rintro _ H2 ⟨p1, Ls1, B2, rfl, hm2, hD2, hS2⟩
  obtain ⟨d1, rfl⟩ := hD2.ptr
  dsimp only at hS2
  clear hS1
  repeat (first | refine Ev.s ?_ | refine Ev.newC fun _ _ _ => ?_ | refine Ev.boxC fun _ _ _ => ?_ | refine Ev.stC fun _ _ => ?_ | refine Ev.sc (by omega) ?_ | refine Ev.scg (by omega) ?_)
  refine Ev.b2 (Format_up (m := 30) hD2 (Dsk.up_new (by decide) (by decide)) (by decide) (by decide) (by decide) hS2) ?_
  clear hS2
  rintro _ H3 ⟨b, D3, ⟨rfl, Ls3, B3, hm3, hP3, hS3⟩, u3, c3, pg3⟩
  dsimp only at hS3
  repeat (first | refine Ev.s ?_ | refine Ev.newC fun _ _ _ => ?_ | refine Ev.boxC fun _ _ _ => ?_ | refine Ev.stC fun _ _ => ?_ | refine Ev.sc (by omega) ?_ | refine Ev.scg (by omega) ?_)
  have hI : BI [] 0 D3 := ⟨u3, by decide, by rw [c3]; exact Nat.le_refl _, fun x hx => (List.not_mem_nil hx).elim, rfl⟩
  refine Ev.bind (Ev.loop (back_L0 hl hll hls 5 0 B3 H3 D3 [] 0 Ls3 [] [] (.slice none 0 0) (.slice none 0 0) rfl (hm1.mo.trans (hm2.mo.trans hm3.mo)) hI (Nat.le_refl _) hP3 GRS.nil GRS.nil hS3)) ?_
  rintro _ ⟨B4, H4, D4, bl, j, Ls4, Lf, Lk, s8, s9, rfl, hm4, hI4, hbl, hP4, hF, hK, hS4⟩
  refine Ev.eq (fun k _ => f3_A0_x0 k _ _ _ _ _ _ _) ?_
  have hS5 := hS4.perm (permA Ls4 Lf _)
  obtain ⟨B6, hm6, h8, hS6⟩ := (hF.acc hS5).fl
  have hS7 := hS6.perm (permA Ls4 Lk _)
  obtain ⟨B8, hm8, h9, hS8⟩ := (hK.acc hS7).fl
  refine Ev.bind (Ev.loop (back_L1 (Bl := B8) hI4 hbl (h8.mono hm8.mo) h9 bl.length 0 B8 H4 Ls4 (by omega) (Mo.refl B8) hP4 hS8)) ?_
  rintro _ ⟨H5, rfl⟩
  refine Ev.eq (fun k _ => f3_A1_x2 k _ _ _ _ _) ?_
  have hle := hI4.le
  repeat (first | (first | refine Ev.s ?_ | refine Ev.newC fun _ _ _ => ?_ | refine Ev.boxC fun _ _ _ => ?_ | refine Ev.stC fun _ _ => ?_ | refine Ev.sc (by omega) ?_ | refine Ev.scg (by omega) ?_) | rw [decide_eq_true (by omega)] | rw [decide_eq_false (by omega)])
  exact Ev.ret rfl
theorem coreBlobBack (H : AH) (vs : List Value) (x : List ByteArray × Unit) (hK : ∃ v0 vs0, vs = v0 :: vs0 ∧ KvC KStrs H x.1 v0 ∧ vs0 = [])
    (hG : (x.1.length ≤ maxLen ∧ ∀ s ∈ x.1, s.size ≤ maxLen) ∧ True) : Ev (fun k _ => rn k 3 vs H) (fun r => r.1 = .bool true) := by
  obtain ⟨v0, _, rfl, h0, rfl⟩ := hK
  obtain ⟨⟨g0, g0'⟩, _⟩ := hG
  have hm : maxLen < 9223372036854775808 := by decide
  refine back_law ⟨strs_open h0⟩ (by rw [List.length_map]; omega) (fun s hs => ?_) ⟨Mo.refl H⟩
  obtain ⟨b, hb, rfl⟩ := List.mem_map.1 hs
  have := g0' b hb
  rw [Array.length_toList]
  exact Nat.lt_of_le_of_lt this (by decide)
end
end Go.AM.W
