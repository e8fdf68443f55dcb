/-
  Facts of the abstract evaluator and of the functions that the law reaches, part 4. Conditions: none.
-/
import Derived.Shelf.Strings.BuilderX
import Derived.Shelf.RegionOpenPlain
import Derived.Lib.Strings
import Derived.Lib.Walk
import Derived.Lib.Builder
import Derived.Lib.MakeNoZero
import Derived.WalkKit
import Derived.Laws.Externs
import Derived.Laws.IdiomCopy
import Derived.Laws.PanicsMore
import Derived.Test.YtjhabnaeigipoaaDoorG3ZintBytes
set_option linter.unusedVariables false
set_option linter.unusedSimpArgs false
set_option linter.unnecessarySimpa false
set_option exponentiation.threshold 200000
set_option maxRecDepth 100000
set_option linter.unusedVariables false
set_option linter.unusedSimpArgs false
set_option maxRecDepth 100000
namespace Go.AM.Z
open Go Go.AM Go.Proofs
attribute [local irreducible] run bin un ld st box newV mkS fldA fld ixA ix slc slc3 build buildS cv cvS ap cpy lenV gOp pickV b2 aIf aChk evalK resume iterD Option.bind

theorem byN_snoc {xs : List Nat} {i : Nat} (h : i < xs.length) : byN (xs.take (i + 1)) = byN (xs.take i) ++ le4 (xs.getD i 0) := by
  have e : xs.take (i + 1) = xs.take i ++ [xs.getD i 0] := by
    rw [List.take_add_one, List.getD_eq_getElem?_getD, List.getElem?_eq_getElem h]; rfl
  rw [e]
  unfold byN
  rw [List.flatMap_append]
  simp
theorem spl_room {pre d : List Nat} {k : Nat} (hd : d.length = 4) : spl ((pre ++ List.replicate (k + 4) 0).map u8) pre.length (d.map u8) = ((pre ++ d) ++ List.replicate k 0).map u8 := by
  unfold spl
  have e1 : (List.map u8 (pre ++ List.replicate (k + 4) 0)).take pre.length = pre.map u8 := by
    rw [← List.map_take, List.take_left]
  have e2 : (List.map u8 (pre ++ List.replicate (k + 4) 0)).drop (pre.length + (d.map u8).length) = (List.replicate k 0).map u8 := by
    rw [← List.map_drop, List.length_map, hd, List.drop_append, List.drop_replicate]
    simp
  rw [e1, e2]
  simp
theorem bytes_loop {H0 B0 B : AH} {xs : List Nat} {a : Value} {bo n : Nat} (ha : RdN B a xs) (hn : n = xs.length) (hl : xs.length ≤ 100000) :
    ∀ (m i : Nat) (H : AH), i + m = n → St H0 B0 B [(bo, ⟨(byN (xs.take i) ++ List.replicate (4 * m) 0).map u8, 5, .fix⟩)] H →
    Ev (fun k l => f61_L0 k (sl bo 0 (4 * i) (4 * n)) a (i64 n) (i64 i) l H) (fun o => ∃ H', o = (.exit 0, f61_X_L0 (sl bo 0 (4 * n) (4 * n)), H') ∧ St H0 B0 B [(bo, ⟨(byN xs ++ []).map u8, 5, .fix⟩)] H') := by
  intro m
  induction m with
  | zero =>
    intro i H hi hS
    refine Ev.succ (fun k l => f61_L0_succ k _ _ _ _ l H) ?_
    repeat (first | refine Ev.s ?_ | refine Ev.newC fun _ _ _ => ?_ | refine Ev.boxC fun _ _ _ => ?_ | refine Ev.stC fun _ _ => ?_ | refine Ev.sc (by omega) ?_ | refine Ev.scg (by omega) ?_)
    rw [decide_eq_false (by omega)]
    repeat (first | refine Ev.s ?_ | refine Ev.newC fun _ _ _ => ?_ | refine Ev.boxC fun _ _ _ => ?_ | refine Ev.stC fun _ _ => ?_ | refine Ev.sc (by omega) ?_ | refine Ev.scg (by omega) ?_)
    have e : i = n := by omega
    subst e
    rw [List.take_of_length_le (by omega)] at hS
    exact Ev.ret ⟨H, rfl, hS⟩
  | succ m ih =>
    intro i H hi hS
    refine Ev.succ (fun k l => f61_L0_succ k _ _ _ _ l H) ?_
    have hpl : (byN (xs.take i)).length = 4 * i := by rw [byN_length, List.length_take]; omega
    repeat (first | refine Ev.s ?_ | refine Ev.newC fun _ _ _ => ?_ | refine Ev.boxC fun _ _ _ => ?_ | refine Ev.stC fun _ _ => ?_ | refine Ev.sc (by omega) ?_ | refine Ev.scg (by omega) ?_)
    rw [decide_eq_true (by omega)]
    repeat (first | refine Ev.s ?_ | refine Ev.newC fun _ _ _ => ?_ | refine Ev.boxC fun _ _ _ => ?_ | refine Ev.stC fun _ _ => ?_ | refine Ev.sc (by omega) ?_ | refine Ev.scg (by omega) ?_)
    refine Ev.ixC i rfl (by omega) fun p hp => ?_
    repeat (first | refine Ev.s ?_ | refine Ev.newC fun _ _ _ => ?_ | refine Ev.boxC fun _ _ _ => ?_ | refine Ev.stC fun _ _ => ?_ | refine Ev.sc (by omega) ?_ | refine Ev.scg (by omega) ?_)
    refine Ev.prim (shrL (by decide)) ?_
    repeat (first | refine Ev.s ?_ | refine Ev.newC fun _ _ _ => ?_ | refine Ev.boxC fun _ _ _ => ?_ | refine Ev.stC fun _ _ => ?_ | refine Ev.sc (by omega) ?_ | refine Ev.scg (by omega) ?_)
    refine Ev.prim (shrL (by decide)) ?_
    repeat (first | refine Ev.s ?_ | refine Ev.newC fun _ _ _ => ?_ | refine Ev.boxC fun _ _ _ => ?_ | refine Ev.stC fun _ _ => ?_ | refine Ev.sc (by omega) ?_ | refine Ev.scg (by omega) ?_)
    refine Ev.prim (shrL (by decide)) ?_
    repeat (first | refine Ev.s ?_ | refine Ev.newC fun _ _ _ => ?_ | refine Ev.boxC fun _ _ _ => ?_ | refine Ev.stC fun _ _ => ?_ | refine Ev.sc (by omega) ?_ | refine Ev.scg (by omega) ?_)
    refine Ev.bsC (by decide) fun bw H1 hS1 => ?_
    have hx : Sc H1 (sl bw 0 4 4) ((le4 (xs.getD i 0)).map u8) := hS1.sc (.head _) (Nat.le_refl 4)
    have hsp := spl_room (pre := byN (xs.take i)) (d := le4 (xs.getD i 0)) (k := 4 * m) rfl
    rw [show 4 * m + 4 = 4 * (m + 1) by omega, hpl] at hsp
    have hlen : ((byN (xs.take i) ++ List.replicate (4 * (m + 1)) 0).map u8).length = 4 * i + 4 * (m + 1) := by rw [List.length_map, List.length_append, hpl, List.length_replicate]
    have hl4 : ((le4 (xs.getD i 0)).map u8).length = 4 := rfl
    have hEb : Elt Tryd.prog 76 5 (.int .u8 0) 1 := inferInstance
    refine Ev.apRoom (b := bo) (cap := 4 * n) (n := 4 * i) (cs := (byN (xs.take i) ++ List.replicate (4 * (m + 1)) 0).map u8) (ds := (le4 (xs.getD i 0)).map u8) hEb hEb.U hS1 (.tail _ (.head _)) hx rfl (by intro h; cases h) (by rw [hl4]; omega) (by rw [hl4, hlen]; omega) ⟨by rw [hl4]; omega, by rw [hl4]; omega⟩ (.tail _ (.head _)) fun H2 hS2 => ?_
    rw [hsp, ← byN_snoc (by omega)] at hS2
    rw [hl4, show 4 * i + 4 = 4 * (i + 1) by omega]
    have hS3 := hS2.drop1
    clear hS2
    repeat (first | refine Ev.s ?_ | refine Ev.newC fun _ _ _ => ?_ | refine Ev.boxC fun _ _ _ => ?_ | refine Ev.stC fun _ _ => ?_ | refine Ev.sc (by omega) ?_ | refine Ev.scg (by omega) ?_)
    exact ih (i + 1) H2 (by omega) hS3
theorem bytes_spec {B H : AH} {xs : List Nat} {a : Value} (hl : xs.length ≤ 100000) [ha : RdT B a xs] (hL : Le B H) :
    Ev (fun k _ => rn k 61 [a] H) (An B H fun _ v => v = str ((byN xs).map fun n => UInt8.ofNat n)) := by
  refine Ev.fn (fun k => f61_eq k _ H) ?_
  have hS := St.start hL
  have ha := ha.rd
  repeat (first | refine Ev.s ?_ | refine Ev.newC fun _ _ _ => ?_ | refine Ev.boxC fun _ _ _ => ?_ | refine Ev.stC fun _ _ => ?_ | refine Ev.sc (by omega) ?_ | refine Ev.scg (by omega) ?_)
  refine Ev.mkCap (z := .int .u8 0) (sz := 1) inferInstance hS (by omega) (by omega) fun bo B1 H1 hm1 hS1 => ?_
  have ha1 := ha.mono hm1
  have e0 : List.replicate (4 * xs.length) (Value.int .u8 0) = (byN (xs.take 0) ++ List.replicate (4 * xs.length) 0).map u8 := by
    show _ = (List.replicate _ 0).map u8
    rw [List.map_replicate]; rfl
  rw [e0] at hS1
  repeat (first | refine Ev.s ?_ | refine Ev.newC fun _ _ _ => ?_ | refine Ev.boxC fun _ _ _ => ?_ | refine Ev.stC fun _ _ => ?_ | refine Ev.sc (by omega) ?_ | refine Ev.scg (by omega) ?_)
  refine Ev.bind (Ev.loop (bytes_loop ha1 rfl hl xs.length 0 H1 (by omega) hS1)) ?_
  rintro _ ⟨H2, rfl, hS2⟩
  refine Ev.eq (fun k _ => f61_A0_x0 k _ _) ?_
  refine Ev.prim (cvS_own (ds := byN xs) (rest := []) hS2 (.head _) (byN_length xs).symm) ?_
  exact Ev.doneC rfl
end Go.AM.Z
set_option linter.unusedVariables false
set_option linter.unusedSimpArgs false
set_option maxRecDepth 100000
namespace Go.AM.Z
open Go Go.AM Go.Proofs
attribute [local irreducible] run bin un ld st box newV mkS fldA fld ixA ix slc slc3 build buildS cv cvS ap cpy lenV gOp pickV b2 aIf aChk evalK resume iterD Option.bind

theorem zBytes_spec {B H : AH} {xs : List Nat} {m : Value} {neg : Bool} (hr : rightI neg xs = true) (hl : xs.length ≤ 400) [ha : RdT B m xs] (hL : Le B H) :
    Ev (fun k _ => rn k 28 [.agg #[.bool neg, m]] H) (An B H fun _ v => v = .tuple #[str (enc neg xs), .int .i64 0]) := by
  refine Ev.fn (fun k => f28_eq k _ H) ?_
  have hS := St.start hL
  have ha := ha.rd
  have fin : ∀ (b1 n : Nat) (B1 H1 : AH), n = hdN neg xs.length → St H B B1 [(b1, ⟨[.bool neg, m], 24, .fix⟩)] H1 → RdN B1 m xs →
      Ev (fun k _ => f28_J0 k (ptr b1 0) (i64 n) H1) (An B H fun _ v => v = .tuple #[str (enc neg xs), .int .i64 0]) := by
    intro b1 n B1 H1 hn hS1 hm
    refine Ev.eq (fun k _ => f28_J0_eq k _ _ _) ?_
    have hn2 : n < 1000 := by rw [hn]; unfold hdN; split <;> omega
    refine Ev.prim (shrL (by decide)) ?_
    repeat (first | refine Ev.s ?_ | refine Ev.newC fun _ _ _ => ?_ | refine Ev.boxC fun _ _ _ => ?_ | refine Ev.stC fun _ _ => ?_ | refine Ev.sc (by omega) ?_ | refine Ev.scg (by omega) ?_)
    refine Ev.bsL (by decide) fun H2 hS2 => ?_
    refine Ev.prim (cvS_own (ds := [n / 2 ^ 8 % 256, n % 256]) (rest := []) hS2 (.head _) rfl) ?_
    repeat (first | refine Ev.s ?_ | refine Ev.newC fun _ _ _ => ?_ | refine Ev.boxC fun _ _ _ => ?_ | refine Ev.stC fun _ _ => ?_ | refine Ev.sc (by omega) ?_ | refine Ev.scg (by omega) ?_)
    refine Ev.callD (bytes_spec (xs := xs) (by omega)) fun v3 B3 H3 hm3 hS3 h3 => ?_
    subst h3
    refine Ev.chk (cvS_own (ds := [n / 2 ^ 8 % 256, n % 256]) (rest := []) hS3 (.head _) rfl) ?_
    refine Ev.chk ((hS3.get (.head _)).trans (hS2.get (.head _)).symm) ?_
    refine Ev.prim (add_str (by rw [List.length_map, List.length_map, byN_length]; show 2 + _ ≤ _; omega)) ?_
    refine Ev.doneC ?_
    rw [hn]
    rfl
  repeat (first | refine Ev.s ?_ | refine Ev.newC fun _ _ _ => ?_ | refine Ev.boxC fun _ _ _ => ?_ | refine Ev.stC fun _ _ => ?_ | refine Ev.sc (by omega) ?_ | refine Ev.scg (by omega) ?_)
  refine Ev.callD (Right_spec (xs := xs) (by omega) (by assumption)) fun v1 B1 H1 hm1 hS1 e1 => ?_
  subst e1
  have hm := ha.mono hm1.mo
  rw [hr]
  repeat (first | refine Ev.s ?_ | refine Ev.newC fun _ _ _ => ?_ | refine Ev.boxC fun _ _ _ => ?_ | refine Ev.stC fun _ _ => ?_ | refine Ev.sc (by omega) ?_ | refine Ev.scg (by omega) ?_)
  rw [decide_eq_false (by omega)]
  repeat (first | refine Ev.s ?_ | refine Ev.newC fun _ _ _ => ?_ | refine Ev.boxC fun _ _ _ => ?_ | refine Ev.stC fun _ _ => ?_ | refine Ev.sc (by omega) ?_ | refine Ev.scg (by omega) ?_)
  cases hneg : neg with
  | true =>
    rw [hneg] at hS1 fin
    repeat (first | refine Ev.s ?_ | refine Ev.newC fun _ _ _ => ?_ | refine Ev.boxC fun _ _ _ => ?_ | refine Ev.stC fun _ _ => ?_ | refine Ev.sc (by omega) ?_ | refine Ev.scg (by omega) ?_)
    exact fin _ _ B1 H1 (by unfold hdN; simp) hS1 hm
  | false =>
    rw [hneg] at hS1 fin
    repeat (first | refine Ev.s ?_ | refine Ev.newC fun _ _ _ => ?_ | refine Ev.boxC fun _ _ _ => ?_ | refine Ev.stC fun _ _ => ?_ | refine Ev.sc (by omega) ?_ | refine Ev.scg (by omega) ?_)
    exact fin _ _ B1 H1 (by unfold hdN; simp) hS1 hm
def TakeV (B : AH) (v : Value) (o : Option (Bool × List Nat × List UInt8)) : Prop :=
  match o with
  | none => v = .tuple #[.agg #[.bool false, .slice none 0 0], str [], .int .i64 2]
  | some (neg, xs, r) => ∃ m, v = .tuple #[.agg #[.bool neg, m], str r, .int .i64 0] ∧ RdN B m xs
theorem word_or (a b c d : UInt8) : (((a.toNat ||| b.toNat * 2 ^ 8) ||| c.toNat * 2 ^ 16) ||| d.toNat * 2 ^ 24) = word4 a b c d := by
  have ha := UInt8.toNat_lt a
  have hb := UInt8.toNat_lt b
  have hc := UInt8.toNat_lt c
  unfold word4
  rw [or_add (i := 8) (by omega), or_add (i := 16) (by omega), or_add (i := 24) (by omega)]
theorem ztake_loop {H0 B0 : AH} {l : List UInt8} {b1 c : Nat} {neg : Bool} (hc : c ≤ 400) (hl : 2 + 4 * c ≤ l.length) :
    ∀ (m i : Nat) (v : Value) (B H : AH), i + m = c → Acc 70 H0 B0 B [(b1, ⟨[.bool neg, v], 24, .fix⟩)] H v (words i (l.drop 2)) →
    Ev (fun k n => f30_L0 k (str l) (ptr b1 0) (i64 c) (i64 c) (i64 i) n H)
      (fun o => ∃ v B' H', o = (.exit 0, f30_X_L0 (str l) (ptr b1 0) (i64 c), H') ∧ Mo B B' ∧ Acc 70 H0 B0 B' [(b1, ⟨[.bool neg, v], 24, .fix⟩)] H' v (words c (l.drop 2))) := by
  intro m
  induction m with
  | zero =>
    intro i v B H hi hA
    refine Ev.succ (fun k n => f30_L0_succ k _ _ _ _ _ n H) ?_
    repeat (first | refine Ev.s ?_ | refine Ev.newC fun _ _ _ => ?_ | refine Ev.boxC fun _ _ _ => ?_ | refine Ev.stC fun _ _ => ?_ | refine Ev.sc (by omega) ?_ | refine Ev.scg (by omega) ?_)
    rw [decide_eq_false (by omega)]
    repeat (first | refine Ev.s ?_ | refine Ev.newC fun _ _ _ => ?_ | refine Ev.boxC fun _ _ _ => ?_ | refine Ev.stC fun _ _ => ?_ | refine Ev.sc (by omega) ?_ | refine Ev.scg (by omega) ?_)
    have e : i = c := by omega
    subst e
    exact Ev.ret ⟨v, B, H, rfl, Mo.refl B, hA⟩
  | succ m ih =>
    intro i v B H hi hA
    refine Ev.succ (fun k n => f30_L0_succ k _ _ _ _ _ n H) ?_
    have hSt := hA.st
    have hcell := hA.cell
    have hw := words_snoc i (l.drop 2) (by rw [List.length_drop]; omega)
    have hg : ∀ j, (l.drop (2 + 4 * i)).getD j 0 = (l.drop 2).getD (4 * i + j) 0 := by
      intro j
      rw [List.getD_eq_getElem?_getD, List.getD_eq_getElem?_getD, List.getElem?_drop, List.getElem?_drop]
      congr 2; omega
    have hdl : (l.drop (2 + 4 * i)).length = l.length - (2 + 4 * i) := List.length_drop
    have g0 := hg 0
    have g1 := hg 1
    have g2 := hg 2
    have g3 := hg 3
    rw [Nat.add_zero] at g0
    rw [← g0, ← g1, ← g2, ← g3] at hw
    have b0 := UInt8.toNat_lt ((l.drop (2 + 4 * i)).getD 0 0)
    have b1' := UInt8.toNat_lt ((l.drop (2 + 4 * i)).getD 1 0)
    have b2 := UInt8.toNat_lt ((l.drop (2 + 4 * i)).getD 2 0)
    have b3 := UInt8.toNat_lt ((l.drop (2 + 4 * i)).getD 3 0)
    have hlen : (words i (l.drop 2)).length = i := (of_words i (l.drop 2) (by rw [List.length_drop]; omega)).2.1
    repeat (first | refine Ev.s ?_ | refine Ev.newC fun _ _ _ => ?_ | refine Ev.boxC fun _ _ _ => ?_ | refine Ev.stC fun _ _ => ?_ | refine Ev.sc (by omega) ?_ | refine Ev.scg (by omega) ?_)
    rw [decide_eq_true (by omega)]
    repeat (first | refine Ev.s ?_ | refine Ev.newC fun _ _ _ => ?_ | refine Ev.boxC fun _ _ _ => ?_ | refine Ev.stC fun _ _ => ?_ | refine Ev.sc (by omega) ?_ | refine Ev.scg (by omega) ?_)
    refine Ev.prim (slc_str (2 + 4 * i) (by omega) (by omega)) ?_
    generalize hL : l.drop (2 + 4 * i) = w at *
    repeat (first | refine Ev.s ?_ | refine Ev.newC fun _ _ _ => ?_ | refine Ev.boxC fun _ _ _ => ?_ | refine Ev.stC fun _ _ => ?_ | refine Ev.sc (by omega) ?_ | refine Ev.scg (by omega) ?_)
    refine Ev.prim (ix_str 0 rfl (by omega)) ?_
    generalize w.getD 0 0 = y0 at *
    repeat (first | refine Ev.s ?_ | refine Ev.newC fun _ _ _ => ?_ | refine Ev.boxC fun _ _ _ => ?_ | refine Ev.stC fun _ _ => ?_ | refine Ev.sc (by omega) ?_ | refine Ev.scg (by omega) ?_)
    rw [Nat.mod_eq_of_lt (show y0.toNat < 4294967296 by omega)]
    refine Ev.prim (ix_str 1 rfl (by omega)) ?_
    generalize w.getD 1 0 = y1 at *
    repeat (first | refine Ev.s ?_ | refine Ev.newC fun _ _ _ => ?_ | refine Ev.boxC fun _ _ _ => ?_ | refine Ev.stC fun _ _ => ?_ | refine Ev.sc (by omega) ?_ | refine Ev.scg (by omega) ?_)
    rw [Nat.mod_eq_of_lt (show y1.toNat < 4294967296 by omega)]
    refine Ev.prim (shlWL (n := 8) ⟨by decide, by omega⟩) ?_
    refine Ev.prim (orW ⟨by omega, by omega⟩) ?_
    refine Ev.prim (ix_str 2 rfl (by omega)) ?_
    generalize w.getD 2 0 = y2 at *
    repeat (first | refine Ev.s ?_ | refine Ev.newC fun _ _ _ => ?_ | refine Ev.boxC fun _ _ _ => ?_ | refine Ev.stC fun _ _ => ?_ | refine Ev.sc (by omega) ?_ | refine Ev.scg (by omega) ?_)
    rw [Nat.mod_eq_of_lt (show y2.toNat < 4294967296 by omega)]
    refine Ev.prim (shlWL (n := 16) ⟨by decide, by omega⟩) ?_
    have o1 : (y0.toNat ||| y1.toNat * 2 ^ 8) < 2 ^ 16 := Nat.or_lt_two_pow (by omega) (by omega)
    have o2 : ((y0.toNat ||| y1.toNat * 2 ^ 8) ||| y2.toNat * 2 ^ 16) < 2 ^ 24 := Nat.or_lt_two_pow (by omega) (by omega)
    refine Ev.prim (orW ⟨by omega, by omega⟩) ?_
    refine Ev.prim (ix_str 3 rfl (by omega)) ?_
    generalize w.getD 3 0 = y3 at *
    repeat (first | refine Ev.s ?_ | refine Ev.newC fun _ _ _ => ?_ | refine Ev.boxC fun _ _ _ => ?_ | refine Ev.stC fun _ _ => ?_ | refine Ev.sc (by omega) ?_ | refine Ev.scg (by omega) ?_)
    rw [Nat.mod_eq_of_lt (show y3.toNat < 4294967296 by omega)]
    refine Ev.prim (shlWL (n := 24) ⟨by decide, by omega⟩) ?_
    refine Ev.prim (orW ⟨by omega, by omega⟩) ?_
    rw [word_or]
    refine hA.push (by rw [hlen]; omega) fun v' B' H' hm hA' => ?_
    rw [← hw] at hA'
    have hcell' := hA'.cell
    refine Ev.s ?_
    refine Acc.stC (P := Tryd.prog) (t := 22) (b := b1) (off := 1) (w := v') hA' fun H2 hA2 => ?_
    clear hA' hSt hA
    repeat (first | refine Ev.s ?_ | refine Ev.newC fun _ _ _ => ?_ | refine Ev.boxC fun _ _ _ => ?_ | refine Ev.stC fun _ _ => ?_ | refine Ev.sc (by omega) ?_ | refine Ev.scg (by omega) ?_)
    refine (ih (i + 1) v' B' H2 (by omega) hA2).mono ?_
    rintro o ⟨v2, B2, H3, q1, q2, q3⟩
    exact ⟨v2, B2, H3, q1, hm.mo.trans q2, q3⟩
end Go.AM.Z
set_option linter.unusedVariables false
set_option linter.unusedSimpArgs false
set_option maxRecDepth 100000
namespace Go.AM.Z
open Go Go.AM Go.Proofs
attribute [local irreducible] run bin un ld st box newV mkS fldA fld ixA ix slc slc3 build buildS cv cvS ap cpy lenV gOp pickV b2 aIf aChk evalK resume iterD Option.bind

theorem zTake_spec {B H : AH} {l : List UInt8} (hl : l.length < 4611686018427387904) (hL : Le B H) :
    Ev (fun k _ => rn k 30 [str l] H) (An B H fun B' v => TakeV B' v (dec l)) := by
  refine Ev.fn (fun k => f30_eq k _ H) ?_
  have hS := St.start hL
  unfold dec
  repeat (first | refine Ev.s ?_ | refine Ev.newC fun _ _ _ => ?_ | refine Ev.boxC fun _ _ _ => ?_ | refine Ev.stC fun _ _ => ?_ | refine Ev.sc (by omega) ?_ | refine Ev.scg (by omega) ?_)
  by_cases h1 : l.length < 2
  · rw [decide_eq_true h1, if_pos h1]
    repeat (first | refine Ev.s ?_ | refine Ev.newC fun _ _ _ => ?_ | refine Ev.boxC fun _ _ _ => ?_ | refine Ev.stC fun _ _ => ?_ | refine Ev.sc (by omega) ?_ | refine Ev.scg (by omega) ?_)
    exact Ev.doneC rfl
  rw [decide_eq_false h1, if_neg h1]
  have b0 := UInt8.toNat_lt (l.getD 0 0)
  have b1 := UInt8.toNat_lt (l.getD 1 0)
  have hh : (l.getD 0 0).toNat * 256 ||| (l.getD 1 0).toNat = hdOf l := by
    rw [Nat.or_comm, show (l.getD 0 0).toNat * 256 = (l.getD 0 0).toNat * 2 ^ 8 from rfl, or_add (by omega)]
    unfold hdOf
    omega
  have hn : hdOf l < 65536 := by unfold hdOf; omega
  repeat (first | refine Ev.s ?_ | refine Ev.newC fun _ _ _ => ?_ | refine Ev.boxC fun _ _ _ => ?_ | refine Ev.stC fun _ _ => ?_ | refine Ev.sc (by omega) ?_ | refine Ev.scg (by omega) ?_)
  refine Ev.prim (ix_str 0 rfl (by omega)) ?_
  refine Ev.prim (toI64 (by omega) (Und.eq (P := Tryd.prog) (t := 5)) (Und.eq (P := Tryd.prog) (t := 3))) ?_
  refine Ev.prim (shl8I (by omega)) ?_
  refine Ev.prim (ix_str 1 rfl (by omega)) ?_
  refine Ev.prim (toI64 (by omega) (Und.eq (P := Tryd.prog) (t := 5)) (Und.eq (P := Tryd.prog) (t := 3))) ?_
  refine Ev.prim (orI ⟨by omega, by omega⟩) ?_
  rw [hh]
  generalize hdOf l = n at *
  refine Ev.prim (and1 (by omega)) ?_
  rw [show ((n : Int) % 2) = ((n % 2 : Nat) : Int) by omega]
  repeat (first | refine Ev.s ?_ | refine Ev.newC fun _ _ _ => ?_ | refine Ev.boxC fun _ _ _ => ?_ | refine Ev.stC fun _ _ => ?_ | refine Ev.sc (by omega) ?_ | refine Ev.scg (by omega) ?_)
  generalize decide (n % 2 ≠ 0) = neg at *
  by_cases h2 : 400 < n / 2
  · rw [decide_eq_true h2, if_pos (.inl h2)]
    repeat (first | refine Ev.s ?_ | refine Ev.newC fun _ _ _ => ?_ | refine Ev.boxC fun _ _ _ => ?_ | refine Ev.stC fun _ _ => ?_ | refine Ev.sc (by omega) ?_ | refine Ev.scg (by omega) ?_)
    exact Ev.doneC rfl
  rw [decide_eq_false h2]
  repeat (first | refine Ev.s ?_ | refine Ev.newC fun _ _ _ => ?_ | refine Ev.boxC fun _ _ _ => ?_ | refine Ev.stC fun _ _ => ?_ | refine Ev.sc (by omega) ?_ | refine Ev.scg (by omega) ?_)
  by_cases h3 : l.length - 2 < 4 * (n / 2)
  · rw [decide_eq_true h3, if_pos (.inr h3)]
    repeat (first | refine Ev.s ?_ | refine Ev.newC fun _ _ _ => ?_ | refine Ev.boxC fun _ _ _ => ?_ | refine Ev.stC fun _ _ => ?_ | refine Ev.sc (by omega) ?_ | refine Ev.scg (by omega) ?_)
    exact Ev.doneC rfl
  rw [decide_eq_false h3, if_neg (by omega)]
  repeat (first | refine Ev.s ?_ | refine Ev.newC fun _ _ _ => ?_ | refine Ev.boxC fun _ _ _ => ?_ | refine Ev.stC fun _ _ => ?_ | refine Ev.sc (by omega) ?_ | refine Ev.scg (by omega) ?_)
  obtain ⟨w1, w2, w3⟩ := of_words (n / 2) (l.drop 2) (by rw [List.length_drop]; omega)
  refine Ev.bind (Ev.loop (ztake_loop (l := l) (c := n / 2) (neg := neg) (by omega) (by omega) (n / 2) 0 _ B _ (by omega) (Acc.nil (by assumption)))) ?_
  rintro _ ⟨v, B2, H2, rfl, hm2, hA2⟩
  obtain ⟨B3, hm3, hr3, hS3⟩ := hA2.freeze w3
  refine Ev.eq (fun k _ => f30_A0_x0 k _ _ _ _) ?_
  repeat (first | refine Ev.s ?_ | refine Ev.newC fun _ _ _ => ?_ | refine Ev.boxC fun _ _ _ => ?_ | refine Ev.stC fun _ _ => ?_ | refine Ev.sc (by omega) ?_ | refine Ev.scg (by omega) ?_)
  refine Ev.callD (Right_spec (xs := words (n / 2) (l.drop 2)) (by omega) hr3) fun v4 B4 H4 hm4 hS4 e4 => ?_
  subst e4
  have hr4 := hr3.mono hm4.mo
  cases hR : rightI neg (words (n / 2) (l.drop 2)) with
  | false =>
    rw [if_neg (by decide)]
    repeat (first | refine Ev.s ?_ | refine Ev.newC fun _ _ _ => ?_ | refine Ev.boxC fun _ _ _ => ?_ | refine Ev.stC fun _ _ => ?_ | refine Ev.sc (by omega) ?_ | refine Ev.scg (by omega) ?_)
    exact Ev.doneC rfl
  | true =>
    rw [if_pos rfl]
    repeat (first | refine Ev.s ?_ | refine Ev.newC fun _ _ _ => ?_ | refine Ev.boxC fun _ _ _ => ?_ | refine Ev.stC fun _ _ => ?_ | refine Ev.sc (by omega) ?_ | refine Ev.scg (by omega) ?_)
    refine Ev.prim (slc_str (2 + 4 * (n / 2)) (by omega) (by omega)) ?_
    repeat (first | refine Ev.s ?_ | refine Ev.newC fun _ _ _ => ?_ | refine Ev.boxC fun _ _ _ => ?_ | refine Ev.stC fun _ _ => ?_ | refine Ev.sc (by omega) ?_ | refine Ev.scg (by omega) ?_)
    exact Ev.doneC ⟨v, rfl, hr4⟩
end Go.AM.Z
set_option linter.unusedVariables false
set_option linter.unusedSimpArgs false
set_option maxRecDepth 100000
namespace Go.AM.Z
open Go Go.AM Go.Proofs
attribute [local irreducible] run bin un ld st box newV mkS fldA fld ixA ix slc slc3 build buildS cv cvS ap cpy lenV gOp pickV b2 aIf aChk evalK resume iterD Option.bind

theorem zBytes_bad {B H : AH} {xs : List Nat} {m : Value} {neg : Bool} (hm : xs.length < 9223372036854775808) (hr : ¬ (rightI neg xs = true ∧ xs.length ≤ 400)) [ha : RdT B m xs] (hL : Le B H) :
    Ev (fun k _ => rn k 28 [.agg #[.bool neg, m]] H) (An B H fun _ v => v = .tuple #[str [], .int .i64 1]) := by
  refine Ev.fn (fun k => f28_eq k _ H) ?_
  have hS := St.start hL
  have ha := ha.rd
  repeat (first | refine Ev.s ?_ | refine Ev.newC fun _ _ _ => ?_ | refine Ev.boxC fun _ _ _ => ?_ | refine Ev.stC fun _ _ => ?_ | refine Ev.sc (by omega) ?_ | refine Ev.scg (by omega) ?_)
  refine Ev.callD (Right_spec (xs := xs) (by omega) RdT.rd) fun v1 B1 H1 hm1 hS1 h1 => ?_
  subst h1
  cases h : rightI neg xs with
  | false =>
    repeat (first | refine Ev.s ?_ | refine Ev.newC fun _ _ _ => ?_ | refine Ev.boxC fun _ _ _ => ?_ | refine Ev.stC fun _ _ => ?_ | refine Ev.sc (by omega) ?_ | refine Ev.scg (by omega) ?_)
    exact Ev.doneC rfl
  | true =>
    repeat (first | refine Ev.s ?_ | refine Ev.newC fun _ _ _ => ?_ | refine Ev.boxC fun _ _ _ => ?_ | refine Ev.stC fun _ _ => ?_ | refine Ev.sc (by omega) ?_ | refine Ev.scg (by omega) ?_)
    rw [decide_eq_true (show 400 < xs.length by rw [h] at hr; simp at hr; omega)]
    repeat (first | refine Ev.s ?_ | refine Ev.newC fun _ _ _ => ?_ | refine Ev.boxC fun _ _ _ => ?_ | refine Ev.stC fun _ _ => ?_ | refine Ev.sc (by omega) ?_ | refine Ev.scg (by omega) ?_)
    exact Ev.doneC rfl
theorem rB_loop {H0 B0 : AH} {L : List (Nat × Blk)} {neg : Bool} {xs : List Nat} {a : Value} {b1 : Nat} (hl : xs.length ≤ 400) :
    ∀ (m i : Nat) (v : Value) (B H : AH), i + m = xs.length → RdN B a xs → GAcc 5 1 H0 B0 B ((b1, ⟨[.bool neg, a], 24, .fix⟩) :: L) H v (2 + 4 * i) (([hdN neg xs.length / 256 % 256, hdN neg xs.length % 256] ++ byN (xs.take i)).map u8) →
    Ev (fun k n => f29_L0 k (ptr b1 0) v (i64 i) n H) (fun o => ∃ v' B' H', o = (.exit 0, f29_X_L0 v', H') ∧ Mo B B' ∧ GAcc 5 1 H0 B0 B' ((b1, ⟨[.bool neg, a], 24, .fix⟩) :: L) H' v' (2 + 4 * xs.length) (([hdN neg xs.length / 256 % 256, hdN neg xs.length % 256] ++ byN xs).map u8)) := by
  intro m
  induction m with
  | zero =>
    intro i v B H hi hr hA
    refine Ev.succ (fun k n => f29_L0_succ k _ _ _ n H) ?_
    have hSt := hA.st
    repeat (first | refine Ev.s ?_ | refine Ev.newC fun _ _ _ => ?_ | refine Ev.boxC fun _ _ _ => ?_ | refine Ev.stC fun _ _ => ?_ | refine Ev.sc (by omega) ?_ | refine Ev.scg (by omega) ?_)
    rw [decide_eq_false (by omega)]
    repeat (first | refine Ev.s ?_ | refine Ev.newC fun _ _ _ => ?_ | refine Ev.boxC fun _ _ _ => ?_ | refine Ev.stC fun _ _ => ?_ | refine Ev.sc (by omega) ?_ | refine Ev.scg (by omega) ?_)
    have e : i = xs.length := by omega
    subst e
    rw [List.take_of_length_le (Nat.le_refl _)] at hA
    exact Ev.ret ⟨v, B, H, rfl, Mo.refl B, hA⟩
  | succ m ih =>
    intro i v B H hi hr hA
    refine Ev.succ (fun k n => f29_L0_succ k _ _ _ n H) ?_
    obtain ⟨Lx, hSx, back, hsub⟩ := hA.split
    have hIn : InL b1 ⟨[.bool neg, a], 24, .fix⟩ Lx := ⟨hsub _ (.head _)⟩
    repeat (first | refine Ev.s ?_ | refine Ev.newC fun _ _ _ => ?_ | refine Ev.boxC fun _ _ _ => ?_ | refine Ev.stC fun _ _ => ?_ | refine Ev.sc (by omega) ?_ | refine Ev.scg (by omega) ?_)
    rw [decide_eq_true (by omega)]
    repeat (first | refine Ev.s ?_ | refine Ev.newC fun _ _ _ => ?_ | refine Ev.boxC fun _ _ _ => ?_ | refine Ev.stC fun _ _ => ?_ | refine Ev.sc (by omega) ?_ | refine Ev.scg (by omega) ?_)
    refine Ev.ixC i rfl (by omega) fun p hp => ?_
    repeat (first | refine Ev.s ?_ | refine Ev.newC fun _ _ _ => ?_ | refine Ev.boxC fun _ _ _ => ?_ | refine Ev.stC fun _ _ => ?_ | refine Ev.sc (by omega) ?_ | refine Ev.scg (by omega) ?_)
    refine Ev.prim (shrL (by decide)) ?_
    repeat (first | refine Ev.s ?_ | refine Ev.newC fun _ _ _ => ?_ | refine Ev.boxC fun _ _ _ => ?_ | refine Ev.stC fun _ _ => ?_ | refine Ev.sc (by omega) ?_ | refine Ev.scg (by omega) ?_)
    refine Ev.prim (shrL (by decide)) ?_
    repeat (first | refine Ev.s ?_ | refine Ev.newC fun _ _ _ => ?_ | refine Ev.boxC fun _ _ _ => ?_ | refine Ev.stC fun _ _ => ?_ | refine Ev.sc (by omega) ?_ | refine Ev.scg (by omega) ?_)
    refine Ev.prim (shrL (by decide)) ?_
    repeat (first | refine Ev.s ?_ | refine Ev.newC fun _ _ _ => ?_ | refine Ev.boxC fun _ _ _ => ?_ | refine Ev.stC fun _ _ => ?_ | refine Ev.sc (by omega) ?_ | refine Ev.scg (by omega) ?_)
    refine Ev.bsC (by decide) fun bw H1 hS1 => ?_
    have hA1 := back B H1 hS1.drop1
    have hx : ScN H1 (sl bw 0 4 4) 4 1 ((le4 (xs.getD i 0)).map u8) := by
      refine .inr ⟨bw, 0, 4, rfl, Nat.le_refl _, rfl, .inr ⟨_, hS1.get (.head _), ?_⟩⟩
      rfl
    refine hA1.more (z := [.int .u8 0]) (by_ := 1) (by exact Tryd.underlying76) hx rfl (by omega) fun v2 B2 H2 hm2 hA2 => ?_
    have hSt2 := hA2.st
    rw [← List.map_append, List.append_assoc, ← byN_snoc (by omega), show 2 + 4 * i + 4 = 2 + 4 * (i + 1) by omega] at hA2
    repeat (first | refine Ev.s ?_ | refine Ev.newC fun _ _ _ => ?_ | refine Ev.boxC fun _ _ _ => ?_ | refine Ev.stC fun _ _ => ?_ | refine Ev.sc (by omega) ?_ | refine Ev.scg (by omega) ?_)
    clear hSx hS1 hSt2
    refine (ih (i + 1) v2 B2 H2 (by omega) (hr.mono hm2.mo) hA2).mono ?_
    rintro o ⟨v', B', H', q1, q2, q3⟩
    exact ⟨v', B', H', q1, hm2.mo.trans q2, q3⟩
theorem rBytes_spec {B H : AH} {xs : List Nat} {m : Value} {neg : Bool} (hm : xs.length < 9223372036854775808) [ha : RdT B m xs] (hL : Le B H) :
    Ev (fun k _ => rn k 29 [.agg #[.bool neg, m]] H) (An B H fun _ v => v = if rightI neg xs = true ∧ xs.length ≤ 400 then .tuple #[str (enc neg xs), .bool true] else .tuple #[str [], .bool false]) := by
  refine Ev.fn (fun k => f29_eq k _ H) ?_
  have hS := St.start hL
  have ha := ha.rd
  repeat (first | refine Ev.s ?_ | refine Ev.newC fun _ _ _ => ?_ | refine Ev.boxC fun _ _ _ => ?_ | refine Ev.stC fun _ _ => ?_ | refine Ev.sc (by omega) ?_ | refine Ev.scg (by omega) ?_)
  refine Ev.callD (rRight_spec (xs := xs) (by omega)) fun v1 B1 H1 hm1 hS1 h1 => ?_
  subst h1
  have hm := ha.mono hm1.mo
  have fin : ∀ (b1 n : Nat) (H1 : AH), n = hdN neg xs.length → St H B B1 [(b1, ⟨[.bool neg, m], 24, .fix⟩)] H1 → xs.length ≤ 400 → 
      Ev (fun k _ => f29_J0 k (ptr b1 0) (i64 n) H1) (An B H fun _ v => v = .tuple #[str (enc neg xs), .bool true]) := by
    intro b1 n H1 hn hS1 hl
    refine Ev.eq (fun k _ => f29_J0_eq k _ _ _) ?_
    have hn2 : n < 1000 := by rw [hn]; unfold hdN; split <;> omega
    refine Ev.prim (shrL (by decide)) ?_
    repeat (first | refine Ev.s ?_ | refine Ev.newC fun _ _ _ => ?_ | refine Ev.boxC fun _ _ _ => ?_ | refine Ev.stC fun _ _ => ?_ | refine Ev.sc (by omega) ?_ | refine Ev.scg (by omega) ?_)
    refine Ev.bsC (by decide) fun b2 H2 hS2 => ?_
    have hA2 : GAcc 5 1 H B B1 [(b1, ⟨[.bool neg, m], 24, .fix⟩)] H2 (sl b2 0 2 2) (2 + 4 * 0) (([hdN neg xs.length / 256 % 256, hdN neg xs.length % 256] ++ byN (xs.take 0)).map u8) := by
      refine .inr ⟨by decide, rfl, b2, .fix, 2, rfl, .inr ⟨rfl, rfl⟩, ?_⟩
      rw [← hn]; exact hS2
    refine Ev.bind (Ev.loop (rB_loop hl xs.length 0 _ B1 H2 (by omega) hm hA2)) ?_
    rintro _ ⟨v3, B3, H3, rfl, hm3, hA3⟩
    refine Ev.eq (fun k _ => f29_A0_x0 k _ H3) ?_
    have hSt := hA3.st
    refine Ev.prim hA3.now.cvS ?_
    refine Ev.doneC ?_
    rw [List.map_append]
    rfl
  cases h : rightI neg xs with
  | false =>
    repeat (first | refine Ev.s ?_ | refine Ev.newC fun _ _ _ => ?_ | refine Ev.boxC fun _ _ _ => ?_ | refine Ev.stC fun _ _ => ?_ | refine Ev.sc (by omega) ?_ | refine Ev.scg (by omega) ?_)
    refine Ev.doneC ?_
    rw [if_neg (by simp)]
  | true =>
    repeat (first | refine Ev.s ?_ | refine Ev.newC fun _ _ _ => ?_ | refine Ev.boxC fun _ _ _ => ?_ | refine Ev.stC fun _ _ => ?_ | refine Ev.sc (by omega) ?_ | refine Ev.scg (by omega) ?_)
    by_cases h4 : 400 < xs.length
    · rw [decide_eq_true h4]
      repeat (first | refine Ev.s ?_ | refine Ev.newC fun _ _ _ => ?_ | refine Ev.boxC fun _ _ _ => ?_ | refine Ev.stC fun _ _ => ?_ | refine Ev.sc (by omega) ?_ | refine Ev.scg (by omega) ?_)
      refine Ev.doneC ?_
      rw [if_neg (by omega)]
    · rw [decide_eq_false h4]
      rw [if_pos ⟨rfl, by omega⟩]
      repeat (first | refine Ev.s ?_ | refine Ev.newC fun _ _ _ => ?_ | refine Ev.boxC fun _ _ _ => ?_ | refine Ev.stC fun _ _ => ?_ | refine Ev.sc (by omega) ?_ | refine Ev.scg (by omega) ?_)
      cases hneg : neg with
      | true =>
        rw [hneg] at fin hS1
        repeat (first | refine Ev.s ?_ | refine Ev.newC fun _ _ _ => ?_ | refine Ev.boxC fun _ _ _ => ?_ | refine Ev.stC fun _ _ => ?_ | refine Ev.sc (by omega) ?_ | refine Ev.scg (by omega) ?_)
        exact fin _ _ _ (by unfold hdN; simp) (by assumption) (by omega)
      | false =>
        rw [hneg] at fin hS1
        repeat (first | refine Ev.s ?_ | refine Ev.newC fun _ _ _ => ?_ | refine Ev.boxC fun _ _ _ => ?_ | refine Ev.stC fun _ _ => ?_ | refine Ev.sc (by omega) ?_ | refine Ev.scg (by omega) ?_)
        exact fin _ _ _ (by unfold hdN; simp) (by assumption) (by omega)
def RTakeV (B : AH) (v : Value) (o : Option (Bool × List Nat × List UInt8)) : Prop :=
  match o with
  | none => v = .tuple #[.agg #[.bool false, .slice none 0 0], str [], .bool false]
  | some (neg, xs, r) => ∃ m, v = .tuple #[.agg #[.bool neg, m], str r, .bool true] ∧ RdN B m xs
theorem rtake_loop {H0 B0 : AH} {L : List (Nat × Blk)} {l : List UInt8} {b1 c : Nat} {neg : Bool} {x2 : Value} (hc : c ≤ 40000) (hl : 2 + 4 * c ≤ l.length) :
    ∀ (m i : Nat) (v : Value) (B H : AH), i + m = c → Acc 70 H0 B0 B ((b1, ⟨[.bool neg, v], 24, .fix⟩) :: L) H v (words i (l.drop 2)) →
    Ev (fun k n => f31_L0 k (str l) x2 (i64 (2 + 4 * c)) (ptr b1 0) (i64 (2 + 4 * i)) n H)
      (fun o => ∃ v B' H', o = (.exit 0, f31_X_L0 (str l) x2 (i64 (2 + 4 * c)) (ptr b1 0), H') ∧ Mo B B' ∧ Acc 70 H0 B0 B' ((b1, ⟨[.bool neg, v], 24, .fix⟩) :: L) H' v (words c (l.drop 2))) := by
  intro m
  induction m with
  | zero =>
    intro i v B H hi hA
    refine Ev.succ (fun k n => f31_L0_succ k _ _ _ _ _ n H) ?_
    repeat (first | refine Ev.s ?_ | refine Ev.newC fun _ _ _ => ?_ | refine Ev.boxC fun _ _ _ => ?_ | refine Ev.stC fun _ _ => ?_ | refine Ev.sc (by omega) ?_ | refine Ev.scg (by omega) ?_)
    rw [decide_eq_false (by omega)]
    repeat (first | refine Ev.s ?_ | refine Ev.newC fun _ _ _ => ?_ | refine Ev.boxC fun _ _ _ => ?_ | refine Ev.stC fun _ _ => ?_ | refine Ev.sc (by omega) ?_ | refine Ev.scg (by omega) ?_)
    have e : i = c := by omega
    subst e
    exact Ev.ret ⟨v, B, H, rfl, Mo.refl B, hA⟩
  | succ m ih =>
    intro i v B H hi hA
    refine Ev.succ (fun k n => f31_L0_succ k _ _ _ _ _ n H) ?_
    have hSt := hA.st
    have hcell := hA.cell
    have hw := words_snoc i (l.drop 2) (by rw [List.length_drop]; omega)
    have hg : ∀ j, l.getD (2 + 4 * i + j) 0 = (l.drop 2).getD (4 * i + j) 0 := by
      intro j
      rw [List.getD_eq_getElem?_getD, List.getD_eq_getElem?_getD, List.getElem?_drop, Nat.add_assoc]
    have g0 := hg 0
    have g1 := hg 1
    have g2 := hg 2
    have g3 := hg 3
    rw [Nat.add_zero, Nat.add_zero] at g0
    rw [← g0, ← g1, ← g2, ← g3] at hw
    have b0 := UInt8.toNat_lt (l.getD (2 + 4 * i) 0)
    have b1' := UInt8.toNat_lt (l.getD (2 + 4 * i + 1) 0)
    have b2 := UInt8.toNat_lt (l.getD (2 + 4 * i + 2) 0)
    have b3 := UInt8.toNat_lt (l.getD (2 + 4 * i + 3) 0)
    have hlen : (words i (l.drop 2)).length = i := (of_words i (l.drop 2) (by rw [List.length_drop]; omega)).2.1
    repeat (first | refine Ev.s ?_ | refine Ev.newC fun _ _ _ => ?_ | refine Ev.boxC fun _ _ _ => ?_ | refine Ev.stC fun _ _ => ?_ | refine Ev.sc (by omega) ?_ | refine Ev.scg (by omega) ?_)
    rw [decide_eq_true (by omega)]
    repeat (first | refine Ev.s ?_ | refine Ev.newC fun _ _ _ => ?_ | refine Ev.boxC fun _ _ _ => ?_ | refine Ev.stC fun _ _ => ?_ | refine Ev.sc (by omega) ?_ | refine Ev.scg (by omega) ?_)
    refine Ev.prim (ix_str (2 + 4 * i) rfl (by omega)) ?_
    generalize l.getD (2 + 4 * i) 0 = y0 at *
    repeat (first | refine Ev.s ?_ | refine Ev.newC fun _ _ _ => ?_ | refine Ev.boxC fun _ _ _ => ?_ | refine Ev.stC fun _ _ => ?_ | refine Ev.sc (by omega) ?_ | refine Ev.scg (by omega) ?_)
    rw [Nat.mod_eq_of_lt (show y0.toNat < 4294967296 by omega)]
    refine Ev.prim (ix_str (2 + 4 * i + 1) rfl (by omega)) ?_
    generalize l.getD (2 + 4 * i + 1) 0 = y1 at *
    repeat (first | refine Ev.s ?_ | refine Ev.newC fun _ _ _ => ?_ | refine Ev.boxC fun _ _ _ => ?_ | refine Ev.stC fun _ _ => ?_ | refine Ev.sc (by omega) ?_ | refine Ev.scg (by omega) ?_)
    rw [Nat.mod_eq_of_lt (show y1.toNat < 4294967296 by omega)]
    refine Ev.prim (shlWL (n := 8) ⟨by decide, by omega⟩) ?_
    refine Ev.prim (orW ⟨by omega, by omega⟩) ?_
    repeat (first | refine Ev.s ?_ | refine Ev.newC fun _ _ _ => ?_ | refine Ev.boxC fun _ _ _ => ?_ | refine Ev.stC fun _ _ => ?_ | refine Ev.sc (by omega) ?_ | refine Ev.scg (by omega) ?_)
    refine Ev.prim (ix_str (2 + 4 * i + 2) rfl (by omega)) ?_
    generalize l.getD (2 + 4 * i + 2) 0 = y2 at *
    repeat (first | refine Ev.s ?_ | refine Ev.newC fun _ _ _ => ?_ | refine Ev.boxC fun _ _ _ => ?_ | refine Ev.stC fun _ _ => ?_ | refine Ev.sc (by omega) ?_ | refine Ev.scg (by omega) ?_)
    rw [Nat.mod_eq_of_lt (show y2.toNat < 4294967296 by omega)]
    refine Ev.prim (shlWL (n := 16) ⟨by decide, by omega⟩) ?_
    have o1 : (y0.toNat ||| y1.toNat * 2 ^ 8) < 2 ^ 16 := Nat.or_lt_two_pow (by omega) (by omega)
    have o2 : ((y0.toNat ||| y1.toNat * 2 ^ 8) ||| y2.toNat * 2 ^ 16) < 2 ^ 24 := Nat.or_lt_two_pow (by omega) (by omega)
    refine Ev.prim (orW ⟨by omega, by omega⟩) ?_
    repeat (first | refine Ev.s ?_ | refine Ev.newC fun _ _ _ => ?_ | refine Ev.boxC fun _ _ _ => ?_ | refine Ev.stC fun _ _ => ?_ | refine Ev.sc (by omega) ?_ | refine Ev.scg (by omega) ?_)
    refine Ev.prim (ix_str (2 + 4 * i + 3) rfl (by omega)) ?_
    generalize l.getD (2 + 4 * i + 3) 0 = y3 at *
    repeat (first | refine Ev.s ?_ | refine Ev.newC fun _ _ _ => ?_ | refine Ev.boxC fun _ _ _ => ?_ | refine Ev.stC fun _ _ => ?_ | refine Ev.sc (by omega) ?_ | refine Ev.scg (by omega) ?_)
    rw [Nat.mod_eq_of_lt (show y3.toNat < 4294967296 by omega)]
    refine Ev.prim (shlWL (n := 24) ⟨by decide, by omega⟩) ?_
    refine Ev.prim (orW ⟨by omega, by omega⟩) ?_
    rw [word_or]
    refine hA.push (by rw [hlen]; omega) fun v' B' H' hm hA' => ?_
    rw [← hw] at hA'
    have hcell' := hA'.cell
    refine Ev.s ?_
    refine Acc.stC (P := Tryd.prog) (t := 22) (b := b1) (off := 1) (w := v') hA' fun H2 hA2 => ?_
    clear hA' hSt hA
    repeat (first | refine Ev.s ?_ | refine Ev.newC fun _ _ _ => ?_ | refine Ev.boxC fun _ _ _ => ?_ | refine Ev.stC fun _ _ => ?_ | refine Ev.sc (by omega) ?_ | refine Ev.scg (by omega) ?_)
    rw [show 2 + 4 * i + 4 = 2 + 4 * (i + 1) by omega]
    refine (ih (i + 1) v' B' H2 (by omega) hA2).mono ?_
    rintro o ⟨v2, B2, H3, q1, q2, q3⟩
    exact ⟨v2, B2, H3, q1, hm.mo.trans q2, q3⟩
theorem hd_bytes {a b : UInt8} {r : List UInt8} : UInt8.ofNat (hdOf (a :: b :: r) / 256 % 256) = a ∧ UInt8.ofNat (hdOf (a :: b :: r) % 256) = b := by
  have ha := UInt8.toNat_lt a
  have hb := UInt8.toNat_lt b
  have e : hdOf (a :: b :: r) = a.toNat * 256 + b.toNat := rfl
  rw [e, show (a.toNat * 256 + b.toNat) / 256 % 256 = a.toNat by omega, show (a.toNat * 256 + b.toNat) % 256 = b.toNat by omega]
  simp
theorem enc_words {l : List UInt8} (h1 : ¬ l.length < 2) (hlen : 2 + 4 * (hdOf l / 2) ≤ l.length) : enc (decide (hdOf l % 2 ≠ 0)) (words (hdOf l / 2) (l.drop 2)) = l.take (2 + 4 * (hdOf l / 2)) := by
  obtain ⟨w1, w2, w3⟩ := of_words (hdOf l / 2) (l.drop 2) (by rw [List.length_drop]; omega)
  unfold enc
  rw [w1, w2]
  have hN : hdN (decide (hdOf l % 2 ≠ 0)) (hdOf l / 2) = hdOf l := by
    unfold hdN
    by_cases hb : hdOf l % 2 = 0
    · rw [decide_eq_false (by omega)]; simp; omega
    · rw [decide_eq_true (by omega)]; simp; omega
  rw [hN]
  clear hN w1 w2 w3 hlen
  match l, h1 with
  | [], h1 => simp at h1
  | [_], h1 => simp at h1
  | a :: b :: r, _ =>
    rw [hd_bytes.1, hd_bytes.2, Nat.add_comm 2]
    simp
theorem rTake_spec {B H : AH} {l : List UInt8} (hl : l.length < 4611686018427387904) (hL : Le B H) :
    Ev (fun k _ => rn k 31 [str l] H) (An B H fun B' v => RTakeV B' v (dec l)) := by
  refine Ev.fn (fun k => f31_eq k _ H) ?_
  have hS := St.start hL
  unfold dec
  repeat (first | refine Ev.s ?_ | refine Ev.newC fun _ _ _ => ?_ | refine Ev.boxC fun _ _ _ => ?_ | refine Ev.stC fun _ _ => ?_ | refine Ev.sc (by omega) ?_ | refine Ev.scg (by omega) ?_)
  by_cases h1 : l.length < 2
  · rw [decide_eq_true h1, if_pos h1]
    repeat (first | refine Ev.s ?_ | refine Ev.newC fun _ _ _ => ?_ | refine Ev.boxC fun _ _ _ => ?_ | refine Ev.stC fun _ _ => ?_ | refine Ev.sc (by omega) ?_ | refine Ev.scg (by omega) ?_)
    exact Ev.doneC rfl
  rw [decide_eq_false h1, if_neg h1]
  have b0 := UInt8.toNat_lt (l.getD 0 0)
  have b1 := UInt8.toNat_lt (l.getD 1 0)
  have hh : (l.getD 0 0).toNat * 256 ||| (l.getD 1 0).toNat = hdOf l := by
    rw [Nat.or_comm, show (l.getD 0 0).toNat * 256 = (l.getD 0 0).toNat * 2 ^ 8 from rfl, or_add (by omega)]
    unfold hdOf
    omega
  have hn : hdOf l < 65536 := by unfold hdOf; omega
  repeat (first | refine Ev.s ?_ | refine Ev.newC fun _ _ _ => ?_ | refine Ev.boxC fun _ _ _ => ?_ | refine Ev.stC fun _ _ => ?_ | refine Ev.sc (by omega) ?_ | refine Ev.scg (by omega) ?_)
  refine Ev.prim (ix_str 0 rfl (by omega)) ?_
  refine Ev.prim (toI64 (by omega) (Und.eq (P := Tryd.prog) (t := 5)) (Und.eq (P := Tryd.prog) (t := 3))) ?_
  refine Ev.prim (shl8I (by omega)) ?_
  refine Ev.prim (ix_str 1 rfl (by omega)) ?_
  refine Ev.prim (toI64 (by omega) (Und.eq (P := Tryd.prog) (t := 5)) (Und.eq (P := Tryd.prog) (t := 3))) ?_
  refine Ev.prim (orI ⟨by omega, by omega⟩) ?_
  rw [hh]
  have henc := fun h => enc_words (l := l) h1 h
  generalize hdOf l = n at *
  repeat (first | refine Ev.s ?_ | refine Ev.newC fun _ _ _ => ?_ | refine Ev.boxC fun _ _ _ => ?_ | refine Ev.stC fun _ _ => ?_ | refine Ev.sc (by omega) ?_ | refine Ev.scg (by omega) ?_)
  by_cases h3 : l.length < 2 + 4 * (n / 2)
  · rw [decide_eq_true h3, if_pos (.inr (by omega))]
    repeat (first | refine Ev.s ?_ | refine Ev.newC fun _ _ _ => ?_ | refine Ev.boxC fun _ _ _ => ?_ | refine Ev.stC fun _ _ => ?_ | refine Ev.sc (by omega) ?_ | refine Ev.scg (by omega) ?_)
    exact Ev.doneC rfl
  rw [decide_eq_false h3]
  repeat (first | refine Ev.s ?_ | refine Ev.newC fun _ _ _ => ?_ | refine Ev.boxC fun _ _ _ => ?_ | refine Ev.stC fun _ _ => ?_ | refine Ev.sc (by omega) ?_ | refine Ev.scg (by omega) ?_)
  have e2 : decide (n % 2 = 1) = decide (n % 2 ≠ 0) := decide_eq_decide.mpr (by omega)
  have henc := henc (by omega)
  rw [← e2] at henc ⊢
  clear e2
  generalize decide (n % 2 = 1) = neg at *
  obtain ⟨w1, w2, w3⟩ := of_words (n / 2) (l.drop 2) (by rw [List.length_drop]; omega)
  repeat (first | refine Ev.s ?_ | refine Ev.newC fun _ _ _ => ?_ | refine Ev.boxC fun _ _ _ => ?_ | refine Ev.stC fun _ _ => ?_ | refine Ev.sc (by omega) ?_ | refine Ev.scg (by omega) ?_)
  refine Ev.bind (Ev.loop (rtake_loop (l := l) (c := n / 2) (neg := neg) (by omega) (by omega) (n / 2) 0 _ B _ (by omega) (Acc.nil (by assumption)))) ?_
  rintro _ ⟨v, B2, H2, rfl, hm2, hA2⟩
  obtain ⟨B3, hm3, hr3, hS3⟩ := hA2.freeze w3
  refine Ev.eq (fun k _ => f31_A0_x0 k _ _ _ _ _) ?_
  repeat (first | refine Ev.s ?_ | refine Ev.newC fun _ _ _ => ?_ | refine Ev.boxC fun _ _ _ => ?_ | refine Ev.stC fun _ _ => ?_ | refine Ev.sc (by omega) ?_ | refine Ev.scg (by omega) ?_)
  refine Ev.callD (rBytes_spec (xs := words (n / 2) (l.drop 2)) (by omega)) fun v4 B4 H4 hm4 hS4 e4 => ?_
  have hr4 := hr3.mono hm4.mo
  rw [w2] at e4
  by_cases hR : rightI neg (words (n / 2) (l.drop 2)) = true ∧ n / 2 ≤ 400
  · rw [if_pos hR] at e4
    subst e4
    rw [if_neg (by omega), if_pos hR.1, henc]
    repeat (first | refine Ev.s ?_ | refine Ev.newC fun _ _ _ => ?_ | refine Ev.boxC fun _ _ _ => ?_ | refine Ev.stC fun _ _ => ?_ | refine Ev.sc (by omega) ?_ | refine Ev.scg (by omega) ?_)
    have hsl : slc Tryd.prog 9 (str l) none (some (i64 (2 + 4 * (n / 2)))) = some (str (l.take (2 + 4 * (n / 2)))) := slc_strT (by omega)
    refine Ev.gPrim hsl rfl ?_
    refine Ev.gDo (Ev.gPrim neq_str rfl ?_)
    rw [decide_eq_false (fun h => h rfl)]
    repeat (first | refine Ev.s ?_ | refine Ev.newC fun _ _ _ => ?_ | refine Ev.boxC fun _ _ _ => ?_ | refine Ev.stC fun _ _ => ?_ | refine Ev.sc (by omega) ?_ | refine Ev.scg (by omega) ?_)
    refine Ev.prim (slc_str (2 + 4 * (n / 2)) rfl (by omega)) ?_
    repeat (first | refine Ev.s ?_ | refine Ev.newC fun _ _ _ => ?_ | refine Ev.boxC fun _ _ _ => ?_ | refine Ev.stC fun _ _ => ?_ | refine Ev.sc (by omega) ?_ | refine Ev.scg (by omega) ?_)
    exact Ev.doneC ⟨v, rfl, hr4⟩
  · rw [if_neg hR] at e4
    subst e4
    have : (if 400 < n / 2 ∨ l.length - 2 < 4 * (n / 2) then none else if rightI neg (words (n / 2) (l.drop 2)) = true then some (neg, words (n / 2) (l.drop 2), l.drop (2 + 4 * (n / 2))) else none : Option (Bool × List Nat × List UInt8)) = none := by
      by_cases h4 : 400 < n / 2
      · rw [if_pos (.inl h4)]
      · rw [if_neg (by omega), if_neg (fun h => hR ⟨h, by omega⟩)]
    rw [this]
    repeat (first | refine Ev.s ?_ | refine Ev.newC fun _ _ _ => ?_ | refine Ev.boxC fun _ _ _ => ?_ | refine Ev.stC fun _ _ => ?_ | refine Ev.sc (by omega) ?_ | refine Ev.scg (by omega) ?_)
    exact Ev.doneC rfl
end Go.AM.Z
set_option linter.unusedVariables false
set_option linter.unusedSimpArgs false
set_option maxRecDepth 100000
namespace Go.AM.Z
open Go Go.AM Go.Proofs
attribute [local irreducible] run bin un ld st box newV mkS fldA fld ixA ix slc slc3 build buildS cv cvS ap cpy lenV gOp pickV b2 aIf aChk evalK resume iterD Option.bind

theorem limbs_ten : limbs 10 = [10] := by
  have h := val_limbs 10
  have hl : (limbs 10).length ≤ 1 := limbs_length_le (k := 1) (by decide)
  match e : limbs 10, hl with
  | [], _ => rw [e] at h; simp [val] at h
  | [x], _ => rw [e] at h; simp [val] at h; rw [h]
theorem dg_len : ∀ (k n : Nat), n < 10 ^ k → (dg n).length ≤ k := by
  intro k
  induction k with
  | zero => intro n hn; rw [Nat.pow_zero] at hn; rw [show n = 0 by omega, dg_zero]; simp
  | succ k ih =>
    intro n hn
    by_cases h : n = 0
    · subst h; rw [dg_zero]; simp
    · rw [dg_pos h, List.length_append]
      have := ih (n / 10) (by rw [Nat.pow_succ] at hn; exact Nat.div_lt_of_lt_mul (by rw [Nat.mul_comm]; exact hn))
      simp only [List.length_cons, List.length_nil]
      omega
theorem rtext_loop {H0 B0 : AH} {L : List (Nat × Blk)} {x3 : Value} {M : Nat} (hM : M < 10 ^ 250) :
    ∀ (m : Nat) (t : List Nat) (v5 : Value) (B H : AH), dg m ++ t = dg M → m ≤ M → RdN B v5 (limbs m) → St H0 B0 B L H →
    Ev (fun k n => f33_L0 k x3 (strN t) v5 n H) (fun o => ∃ B' H', o = (.exit 0, f33_X_L0 x3 (strN (dg M)), H') ∧ Mo B B' ∧ St H0 B0 B' L H') := by
  have hML := dg_len 250 M hM
  intro m
  induction m using Nat.strongRecOn with
  | _ m ih =>
    intro t v5 B H hP hmM hr hS
    refine Ev.succ (fun k n => f33_L0_succ k _ _ _ n H) ?_
    refine Ev.prim (hr.lenN Ew) ?_
    repeat (first | refine Ev.s ?_ | refine Ev.newC fun _ _ _ => ?_ | refine Ev.boxC fun _ _ _ => ?_ | refine Ev.stC fun _ _ => ?_ | refine Ev.sc (by omega) ?_ | refine Ev.scg (by omega) ?_)
    by_cases h0 : m = 0
    · subst h0
      rw [decide_eq_false (by rw [limbs_zero]; simp)]
      repeat (first | refine Ev.s ?_ | refine Ev.newC fun _ _ _ => ?_ | refine Ev.boxC fun _ _ _ => ?_ | refine Ev.stC fun _ _ => ?_ | refine Ev.sc (by omega) ?_ | refine Ev.scg (by omega) ?_)
      rw [dg_zero, List.nil_append] at hP
      subst hP
      exact Ev.ret ⟨B, H, rfl, Mo.refl B, hS⟩
    · rw [decide_eq_true (limbs_pos.mpr h0)]
      have hlm : (limbs m).length ≤ 60 := limbs_length_le (Nat.lt_of_le_of_lt hmM (Nat.lt_trans hM (by decide)))
      have hlt : m % 10 < 10 := Nat.mod_lt _ (by decide)
      have htl : t.length + 1 ≤ 250 := by
        have := congrArg List.length hP
        rw [List.length_append, dg_pos h0, List.length_append] at this
        simp only [List.length_cons, List.length_nil] at this
        omega
      repeat (first | refine Ev.s ?_ | refine Ev.newC fun _ _ _ => ?_ | refine Ev.boxC fun _ _ _ => ?_ | refine Ev.stC fun _ _ => ?_ | refine Ev.sc (by omega) ?_ | refine Ev.scg (by omega) ?_)
      refine Ev.bsC (by decide) fun b1 H1 hS1 => ?_
      obtain ⟨B1, hm1, hr1, hS1'⟩ := St.freezeN (xs := [10]) (n := 1) (cap := 1) hS1 (fun x hx => by simp at hx; omega) rfl (by decide)
      have hm1 : MoC B B1 := ⟨hm1⟩
      clear hS1
      have v10 : val [10] = 10 := rfl
      refine Ev.callD (rDivMod_spec (xs := limbs m) (ys := [10]) (by omega) (by decide) (by rw [v10]; decide)) fun v15 B2 H2 hm2 hS2 h2 => ?_
      obtain ⟨q, r, rfl, hq, hrr⟩ := h2
      rw [val_limbs, v10] at hq hrr
      have hlr := limbs_length_mono (Nat.le_of_lt hlt)
      rw [limbs_ten] at hlr
      repeat (first | refine Ev.s ?_ | refine Ev.newC fun _ _ _ => ?_ | refine Ev.boxC fun _ _ _ => ?_ | refine Ev.stC fun _ _ => ?_ | refine Ev.sc (by omega) ?_ | refine Ev.scg (by omega) ?_)
      refine Ev.callD (rSmall_spec (xs := limbs (m % 10)) (by have : [10].length = 1 := rfl; omega)) fun v16 B3 H3 hm3 hS3 h3 => ?_
      rw [val_limbs, if_pos (by omega)] at h3
      subst h3
      repeat (first | refine Ev.s ?_ | refine Ev.newC fun _ _ _ => ?_ | refine Ev.boxC fun _ _ _ => ?_ | refine Ev.stC fun _ _ => ?_ | refine Ev.sc (by omega) ?_ | refine Ev.scg (by omega) ?_)
      refine Ev.bsC (by decide) fun b4 H4 hS4 => ?_
      refine Ev.prim (cvS_own (ds := [48 + m % 10]) (rest := []) (by rw [List.append_nil, List.map_cons, List.map_nil]; rw [Nat.mod_eq_of_lt (show 48 + m % 10 < 256 by omega)] at hS4; exact hS4) (.head _) rfl) ?_
      refine Ev.prim (add_str (by rw [List.length_map, List.length_map]; simp only [List.length_cons, List.length_nil]; omega)) ?_
      rw [← List.map_append]
      have hS5 := hS4.drop1
      clear hS4 hS3
      refine (ih (m / 10) (by omega) ([48 + m % 10] ++ t) q B3 H4 (by rw [← List.append_assoc, ← dg_pos h0]; exact hP) (Nat.le_trans (Nat.div_le_self _ _) hmM) (hq.mono hm3.mo) hS5).mono ?_
      rintro o ⟨B', H', q1, q2, q3⟩
      exact ⟨B', H', q1, ((hm1.mo.trans hm2.mo).trans hm3.mo).trans q2, q3⟩
theorem rText_spec {B H : AH} {xs : List Nat} {m : Value} {neg : Bool} (hm : xs.length < 1000000) (hv : val xs < 10 ^ 250) [ha : RdT B m xs] (hL : Le B H) :
    Ev (fun k _ => rn k 33 [.agg #[.bool neg, m]] H) (An B H fun _ v => v = strN (textN (sg neg (val xs)))) := by
  refine Ev.fn (fun k => f33_eq k _ H) ?_
  have hS := St.start hL
  have ha := ha.rd
  have hab := sg_abs (neg := neg) (n := val xs)
  have hlx : (limbs (sg neg (val xs)).natAbs).length ≤ xs.length := by rw [hab]; exact limbs_length_le (val_lt ha.sm)
  repeat (first | refine Ev.s ?_ | refine Ev.newC fun _ _ _ => ?_ | refine Ev.boxC fun _ _ _ => ?_ | refine Ev.stC fun _ _ => ?_ | refine Ev.sc (by omega) ?_ | refine Ev.scg (by omega) ?_)
  refine Ev.callD (rMake_spec (xs := xs) (by omega)) fun v1 B1 H1 hm1 hS1 h1 => ?_
  rw [← hab] at hv
  generalize sg neg (val xs) = Z at *
  obtain ⟨w, rfl, hw⟩ := h1
  repeat (first | refine Ev.s ?_ | refine Ev.newC fun _ _ _ => ?_ | refine Ev.boxC fun _ _ _ => ?_ | refine Ev.stC fun _ _ => ?_ | refine Ev.sc (by omega) ?_ | refine Ev.scg (by omega) ?_)
  by_cases h0 : Z.natAbs = 0
  · rw [decide_eq_true (show (limbs Z.natAbs).length = 0 by rw [h0, limbs_zero]; rfl)]
    repeat (first | refine Ev.s ?_ | refine Ev.newC fun _ _ _ => ?_ | refine Ev.boxC fun _ _ _ => ?_ | refine Ev.stC fun _ _ => ?_ | refine Ev.sc (by omega) ?_ | refine Ev.scg (by omega) ?_)
    refine Ev.doneC ?_
    have : Z = 0 := by omega
    subst this; rfl
  · rw [decide_eq_false (show ¬ (limbs Z.natAbs).length = 0 from fun e => h0 (limbs_eq_nil.mp (List.length_eq_zero_iff.mp e)))]
    repeat (first | refine Ev.s ?_ | refine Ev.newC fun _ _ _ => ?_ | refine Ev.boxC fun _ _ _ => ?_ | refine Ev.stC fun _ _ => ?_ | refine Ev.sc (by omega) ?_ | refine Ev.scg (by omega) ?_)
    have hstr : (.string ⟨#[]⟩ : Value) = strN [] := rfl
    rw [hstr]
    refine Ev.bind (Ev.loop (rtext_loop hv Z.natAbs [] _ B1 _ (List.append_nil _) (Nat.le_refl _) hw (by assumption))) ?_
    rintro _ ⟨B3, H3, rfl, hm3, hS3⟩
    refine Ev.eq (fun k _ => f33_A0_x0 k _ _ H3) ?_
    have hdl := dg_len 250 Z.natAbs hv
    repeat (first | refine Ev.s ?_ | refine Ev.newC fun _ _ _ => ?_ | refine Ev.boxC fun _ _ _ => ?_ | refine Ev.stC fun _ _ => ?_ | refine Ev.sc (by omega) ?_ | refine Ev.scg (by omega) ?_)
    by_cases hz : Z < 0
    · rw [decide_eq_true hz] at *
      repeat (first | refine Ev.s ?_ | refine Ev.newC fun _ _ _ => ?_ | refine Ev.boxC fun _ _ _ => ?_ | refine Ev.stC fun _ _ => ?_ | refine Ev.sc (by omega) ?_ | refine Ev.scg (by omega) ?_)
      have hstr3 : (.string ⟨#[45]⟩ : Value) = str [45] := rfl
      rw [hstr3]
      refine Ev.prim (add_str (by rw [List.length_map]; simp; omega)) ?_
      refine Ev.doneC ?_
      unfold textN txt
      rw [if_pos hz, if_neg h0]; rfl
    · rw [decide_eq_false hz] at *
      repeat (first | refine Ev.s ?_ | refine Ev.newC fun _ _ _ => ?_ | refine Ev.boxC fun _ _ _ => ?_ | refine Ev.stC fun _ _ => ?_ | refine Ev.sc (by omega) ?_ | refine Ev.scg (by omega) ?_)
      refine Ev.doneC ?_
      unfold textN txt
      rw [if_neg hz, if_neg h0]
end Go.AM.Z
set_option linter.unusedVariables false
set_option linter.unusedSimpArgs false
set_option maxRecDepth 100000
namespace Go.AM.Z
open Go Go.AM Go.Proofs
attribute [local irreducible] run bin un ld st box newV mkS fldA fld ixA ix slc slc3 build buildS cv cvS ap cpy lenV gOp pickV b2 aIf aChk evalK resume iterD Option.bind

abbrev Zd (z : Int) (m : Value) : Value := .agg #[.bool (decide (z < 0)), m]
def ZV (B : AH) (v : Value) (z : Int) (n : Nat) : Prop := ∃ m, v = Zd z m ∧ RdN B m (limbs z.natAbs) ∧ (limbs z.natAbs).length ≤ n
theorem IntV.z {B : AH} {v : Value} {z : Int} {n : Nat} (h : IntV B v z) (hl : (limbs z.natAbs).length ≤ n) : ZV B v z n := h.elim fun m hh => ⟨m, hh.1, hh.2, hl⟩
theorem An.imp2 {B H : AH} {Post Post' : AH → Value → Prop} {g : Nat → Nat → Option (Value × AH)} (h : Ev g (An B H Post)) (hp : ∀ B' v, Post B' v → Post' B' v) : Ev g (An B H Post') :=
  h.mono fun r ⟨B', h1, h2, h3, h4⟩ => ⟨B', h1, h2, h3, hp B' r.1 h4⟩
theorem cz (z : Int) : sg (decide (z < 0)) (val (limbs z.natAbs)) = z := by rw [val_limbs, sg_int]
theorem sgl {n : Bool} {xs : List Nat} {a : Nat} (hs : small xs) (h : xs.length ≤ a) : (sg n (val xs)).natAbs < 4294967296 ^ a := by
  rw [sg_abs]; exact Nat.lt_of_lt_of_le (val_lt hs) (Nat.pow_le_pow_right (by decide) h)
theorem lenI {z : Int} {a : Nat} (h : z.natAbs < 4294967296 ^ a) : (limbs z.natAbs).length ≤ a := limbs_length_le h
section
variable {B H : AH} {xs ys : List Nat} {m1 m2 : Value} {n1 n2 : Bool} {a b : Nat}
theorem from_Z {n : Int} (hn : -9223372036854775808 ≤ n ∧ n < 9223372036854775808) (hL : Le B H) : Ev (fun k _ => rn k 16 [.int .i64 n] H) (An B H fun B' v => ZV B' v n 2) :=
  An.imp2 (zFrom_spec hn hL) fun B' v hh => hh.z (lenI (by omega))
theorem small_Z [ha : RdT B m1 xs] (h1 : xs.length ≤ a) (h : a ≤ 100000) (hL : Le B H) : Ev (fun k _ => rn k 27 [.agg #[.bool n1, m1]] H) (An B H fun B' v => v = smallI (sg n1 (val xs))) :=
  zSmall_spec (by omega) ha.rd hL
theorem lsame_Z [ha : RdT B m1 xs] [hb : RdT B m2 ys] (h1 : xs.length ≤ a) (h : a ≤ 100000) (hL : Le B H) : Ev (fun k _ => rn k 21 [.agg #[.bool n1, m1], .agg #[.bool n2, m2]] H) (An B H fun _ v => v = .bool (decide (n1 = n2 ∧ xs = ys))) := by
  refine Ev.fn (fun k => f21_eq k _ _ H) ?_
  have hS := St.start hL
  have ha := ha.rd
  have hb := hb.rd
  repeat (first | refine Ev.s ?_ | refine Ev.newC fun _ _ _ => ?_ | refine Ev.boxC fun _ _ _ => ?_ | refine Ev.stC fun _ _ => ?_ | refine Ev.sc (by omega) ?_ | refine Ev.scg (by omega) ?_)
  refine Ev.callD (Same_ispec (by omega) RdT.rd RdT.rd) fun v1 B1 H1 hm1 hS1 h1 => ?_
  subst h1
  exact Ev.doneC rfl
theorem same_Z {z : Int} [ha : RdT B m1 (limbs z.natAbs)] [hb : RdT B m2 (limbs z.natAbs)] (h1 : (limbs z.natAbs).length ≤ a) (h : a ≤ 100000) (hL : Le B H) : Ev (fun k _ => rn k 21 [Zd z m1, Zd z m2] H) (An B H fun _ v => v = .bool true) :=
  An.imp2 (lsame_Z h1 h hL) fun _ v hh => by rw [hh, decide_eq_true ⟨rfl, rfl⟩]
theorem short_Z {c : Nat} [ha : RdT B m1 xs] (hc : c ≤ 1000) (hl : xs.length < 9223372036854775808) (hL : Le B H) : Ev (fun k _ => rn k 13 [.agg #[.bool n1, m1], i64 c] H) (An B H fun B' v => ∃ m, v = .agg #[.bool n1, m] ∧ RdN B' m (xs.take c) ∧ (xs.take c).length ≤ c) := by
  refine Ev.fn (fun k => f13_eq k _ _ H) ?_
  have hS := St.start hL
  have ha := ha.rd
  have htk : xs.take (min xs.length c) = xs.take c := by
    by_cases h6 : xs.length ≤ c
    · rw [Nat.min_eq_left h6, List.take_length, List.take_of_length_le h6]
    · rw [Nat.min_eq_right (by omega)]
  repeat (first | refine Ev.s ?_ | refine Ev.newC fun _ _ _ => ?_ | refine Ev.boxC fun _ _ _ => ?_ | refine Ev.stC fun _ _ => ?_ | refine Ev.sc (by omega) ?_ | refine Ev.scg (by omega) ?_)
  refine Ev.uptoC (min xs.length c) (by split <;> omega) (by omega) fun w hw => ?_
  rw [htk] at hw
  repeat (first | refine Ev.s ?_ | refine Ev.newC fun _ _ _ => ?_ | refine Ev.boxC fun _ _ _ => ?_ | refine Ev.stC fun _ _ => ?_ | refine Ev.sc (by omega) ?_ | refine Ev.scg (by omega) ?_)
  exact Ev.doneC ⟨w, rfl, hw, by rw [List.length_take]; omega⟩
theorem div_Z [ha : RdT B m1 xs] [hb : RdT B m2 ys] (h1 : xs.length ≤ a) (h2 : ys.length ≤ b) (h : a + b ≤ 3000) (hy : val ys ≠ 0) (hL : Le B H) : Ev (fun k _ => rn k 19 [.agg #[.bool n1, m1], .agg #[.bool n2, m2]] H) (An B H fun B' v => ∃ p q, v = .tuple #[p, q, .bool true] ∧ ZV B' p (fq (sg n1 (val xs)) (sg n2 (val ys))) (a + 1) ∧ ZV B' q (fr (sg n1 (val xs)) (sg n2 (val ys))) b) := by
  refine An.imp2 (zDiv_spec (by omega) (by omega) hy hL) fun B' v hh => ?_
  obtain ⟨p, q, rfl, hp, hq⟩ := hh
  have hY : sg n2 (val ys) ≠ 0 := by cases n2 <;> simp [sg] <;> omega
  obtain ⟨l1, l2⟩ := fl_len (fq_fr (X := sg n1 (val xs)) hY)
  have e1 := lenI (sgl (n := n1) ha.rd.sm h1)
  have e2 := lenI (sgl (n := n2) hb.rd.sm h2)
  exact ⟨p, q, rfl, hp.z (by omega), hq.z (by omega)⟩
end
end Go.AM.Z
set_option linter.unusedVariables false
set_option linter.unusedSimpArgs false
set_option maxRecDepth 100000
namespace Go.AM.Z
open Go Go.AM Go.Proofs
attribute [local irreducible] run bin un ld st box newV mkS fldA fld ixA ix slc slc3 build buildS cv cvS ap cpy lenV gOp pickV b2 aIf aChk evalK resume iterD Option.bind

theorem eql_lit {t : TypeId} {s : ByteArray} : bin Tryd.prog .eql t (.string s) (.string s) = some (.bool true) := by
  rw [str_of s, eql_str, decide_eq_true rfl]
instance (priority := 2000) {t : TypeId} {s : ByteArray} : PrimEq (bin Tryd.prog .eql t (.string s) (.string s)) (.bool true) := ⟨eql_lit⟩
theorem limbs_dig {n : Nat} (h0 : n ≠ 0) (h : n < 4294967296) : limbs n = [n] := by
  rw [limbs, dif_neg h0, Nat.mod_eq_of_lt h, Nat.div_eq_of_lt h, limbs, dif_pos rfl]
theorem text_lit : strN (textN (-120)) = .string ⟨#[45, 49, 50, 48]⟩ := by
  have : textN (-120) = [45, 49, 50, 48] := by
    unfold textN
    simp [txt, dg]
  rw [this]
  rfl
theorem bytes_lit : str (enc (decide ((-5 : Int) < 0)) (limbs (-5 : Int).natAbs)) = .string ⟨#[0, 3, 5, 0, 0, 0]⟩ := by
  rw [show (-5 : Int).natAbs = 5 from rfl, limbs_dig (by decide) (by decide)]
  rfl
theorem examples_spec {B H : AH} (hL : Le B H) : Ev (fun k _ => rn k 12 [] H) (An B H fun _ v => v = .bool true) := by
  refine Ev.fn (fun k => f12_eq k H) ?_
  have hS := St.start hL
  repeat (first | refine Ev.s ?_ | refine Ev.newC fun _ _ _ => ?_ | refine Ev.boxC fun _ _ _ => ?_ | refine Ev.stC fun _ _ => ?_ | refine Ev.sc (by omega) ?_ | refine Ev.scg (by omega) ?_)
  refine Ev.callD (from_Z (n := -7) (by decide)) fun v1 B1 H1 _ hS1 h1 => ?_
  obtain ⟨c1, rfl, hc1, l1⟩ := h1
  repeat (first | refine Ev.s ?_ | refine Ev.newC fun _ _ _ => ?_ | refine Ev.boxC fun _ _ _ => ?_ | refine Ev.stC fun _ _ => ?_ | refine Ev.sc (by omega) ?_ | refine Ev.scg (by omega) ?_)
  refine Ev.callD (from_Z (n := 2) (by decide)) fun v2 B2 H2 _ hS2 h2 => ?_
  obtain ⟨c2, rfl, hc2, l2⟩ := h2
  repeat (first | refine Ev.s ?_ | refine Ev.newC fun _ _ _ => ?_ | refine Ev.boxC fun _ _ _ => ?_ | refine Ev.stC fun _ _ => ?_ | refine Ev.sc (by omega) ?_ | refine Ev.scg (by omega) ?_)
  refine Ev.callD (div_Z (xs := limbs (-7 : Int).natAbs) (ys := limbs (2 : Int).natAbs) l1 l2 (by decide) (by rw [val_limbs]; decide)) fun v3 B3 H3 _ hS3 h3 => ?_
  rw [cz, cz, show fq (-7) 2 = -4 by decide, show fr (-7) 2 = 1 by decide] at h3
  obtain ⟨p, q, rfl, ⟨m1, rfl, hm1, e1⟩, ⟨m2, rfl, hm2, e2⟩⟩ := h3
  repeat (first | refine Ev.s ?_ | refine Ev.newC fun _ _ _ => ?_ | refine Ev.boxC fun _ _ _ => ?_ | refine Ev.stC fun _ _ => ?_ | refine Ev.sc (by omega) ?_ | refine Ev.scg (by omega) ?_)
  refine Ev.callD (from_Z (n := -4) (by decide)) fun v4 B4 H4 _ hS4 h4 => ?_
  obtain ⟨c4, rfl, hc4, l4⟩ := h4
  repeat (first | refine Ev.s ?_ | refine Ev.newC fun _ _ _ => ?_ | refine Ev.boxC fun _ _ _ => ?_ | refine Ev.stC fun _ _ => ?_ | refine Ev.sc (by omega) ?_ | refine Ev.scg (by omega) ?_)
  refine Ev.callD (same_Z (z := -4) l4 (by decide)) fun v5 B5 H5 _ hS5 h5 => ?_
  subst h5
  repeat (first | refine Ev.s ?_ | refine Ev.newC fun _ _ _ => ?_ | refine Ev.boxC fun _ _ _ => ?_ | refine Ev.stC fun _ _ => ?_ | refine Ev.sc (by omega) ?_ | refine Ev.scg (by omega) ?_)
  refine Ev.callD (from_Z (n := 1) (by decide)) fun v6 B6 H6 _ hS6 h6 => ?_
  obtain ⟨c6, rfl, hc6, l6⟩ := h6
  repeat (first | refine Ev.s ?_ | refine Ev.newC fun _ _ _ => ?_ | refine Ev.boxC fun _ _ _ => ?_ | refine Ev.stC fun _ _ => ?_ | refine Ev.sc (by omega) ?_ | refine Ev.scg (by omega) ?_)
  refine Ev.callD (same_Z (z := 1) l6 (by decide)) fun v7 B7 H7 _ hS7 h7 => ?_
  subst h7
  repeat (first | refine Ev.s ?_ | refine Ev.newC fun _ _ _ => ?_ | refine Ev.boxC fun _ _ _ => ?_ | refine Ev.stC fun _ _ => ?_ | refine Ev.sc (by omega) ?_ | refine Ev.scg (by omega) ?_)
  refine Ev.callD (from_Z (n := -5) (by decide)) fun v8 B8 H8 _ hS8 h8 => ?_
  obtain ⟨c8, rfl, hc8, l8⟩ := h8
  repeat (first | refine Ev.s ?_ | refine Ev.newC fun _ _ _ => ?_ | refine Ev.boxC fun _ _ _ => ?_ | refine Ev.stC fun _ _ => ?_ | refine Ev.sc (by omega) ?_ | refine Ev.scg (by omega) ?_)
  refine Ev.callD (zBytes_spec (xs := limbs (-5 : Int).natAbs) (rightI_limbs fun _ => by decide) (by omega)) fun v9 B9 H9 _ hS9 h9 => ?_
  rw [bytes_lit] at h9
  subst h9
  repeat (first | refine Ev.s ?_ | refine Ev.newC fun _ _ _ => ?_ | refine Ev.boxC fun _ _ _ => ?_ | refine Ev.stC fun _ _ => ?_ | refine Ev.sc (by omega) ?_ | refine Ev.scg (by omega) ?_)
  refine Ev.callD (from_Z (n := -9223372036854775808) (by decide)) fun v10 B10 H10 _ hS10 h10 => ?_
  obtain ⟨c10, rfl, hc10, l10⟩ := h10
  repeat (first | refine Ev.s ?_ | refine Ev.newC fun _ _ _ => ?_ | refine Ev.boxC fun _ _ _ => ?_ | refine Ev.stC fun _ _ => ?_ | refine Ev.sc (by omega) ?_ | refine Ev.scg (by omega) ?_)
  refine Ev.callD (small_Z (xs := limbs (-9223372036854775808 : Int).natAbs) l10 (by decide)) fun v11 B11 H11 _ hS11 h11 => ?_
  rw [cz, smallI, if_pos (by decide)] at h11
  subst h11
  repeat (first | refine Ev.s ?_ | refine Ev.newC fun _ _ _ => ?_ | refine Ev.boxC fun _ _ _ => ?_ | refine Ev.stC fun _ _ => ?_ | refine Ev.sc (by omega) ?_ | refine Ev.scg (by omega) ?_)
  refine Ev.callD (from_Z (n := -120) (by decide)) fun v12 B12 H12 _ hS12 h12 => ?_
  obtain ⟨c12, rfl, hc12, l12⟩ := h12
  repeat (first | refine Ev.s ?_ | refine Ev.newC fun _ _ _ => ?_ | refine Ev.boxC fun _ _ _ => ?_ | refine Ev.stC fun _ _ => ?_ | refine Ev.sc (by omega) ?_ | refine Ev.scg (by omega) ?_)
  refine Ev.callD (zText_spec (xs := limbs (-120 : Int).natAbs) (by omega) (by rw [val_limbs]; decide)) fun v13 B13 H13 _ hS13 h13 => ?_
  rw [cz, text_lit] at h13
  subst h13
  repeat (first | refine Ev.s ?_ | refine Ev.newC fun _ _ _ => ?_ | refine Ev.boxC fun _ _ _ => ?_ | refine Ev.stC fun _ _ => ?_ | refine Ev.sc (by omega) ?_ | refine Ev.scg (by omega) ?_)
  exact Ev.doneC rfl
abbrev KInt := Kn.pair Kn.bool (Kn.pair (Kn.slice 70 1 (Kn.int .u32)) Kn.unit)
abbrev GInt (x : Bool × List Int × Unit) : Prop := True ∧ (x.2.1.length ≤ maxLen ∧ ∀ n ∈ x.2.1, (Lit.int .u32 n).wf = true) ∧ True
theorem int_open {H : AH} {v : Value} {x : Bool × List Int × Unit} (h : KvS KInt H x v) (hG : GInt x) : ∃ m, v = .agg #[.bool x.1, m] ∧ RdN H m (x.2.1.map Int.toNat) ∧ (x.2.1.map Int.toNat).length < 9223372036854775808 := by
  obtain ⟨cs, rfl, c3, c4, rfl, h1, c5, c6, rfl, h2, h3⟩ := h
  obtain ⟨_, ⟨g1, g2⟩, _⟩ := hG
  have h1 : c3 = [.bool x.1] := h1
  have h3 : c6 = [] := h3
  subst h1 h3
  have hl : c5.length = 1 := by
    rcases h2 with ⟨e, _⟩ | ⟨b, css, e, _⟩ <;> rw [e] <;> rfl
  obtain ⟨m, rfl⟩ := List.length_eq_one_iff.mp hl
  refine ⟨m, rfl, rd_slice h2 g2, ?_⟩
  rw [List.length_map]
  exact Nat.lt_of_le_of_lt g1 (by decide)
end Go.AM.Z
set_option linter.unusedVariables false
set_option linter.unusedSimpArgs false
set_option maxRecDepth 100000
namespace Go.AM.Z
open Go Go.AM Go.Proofs
attribute [local irreducible] run bin un ld st box newV mkS fldA fld ixA ix slc slc3 build buildS cv cvS ap cpy lenV gOp pickV b2 aIf aChk evalK resume iterD Option.bind

theorem neg_icmp {a b : Int} : un Tryd.prog .neg (.int .i64 (icmp a b)) = some (.int .i64 (-icmp a b)) := by
  rw [un_neg]
  unfold icmp
  split
  · rfl
  · split <;> rfl
instance (priority := 2000) {a b : Int} : PrimEq (un Tryd.prog .neg (.int .i64 (icmp a b))) (.int .i64 (-icmp a b)) := ⟨neg_icmp⟩
instance (priority := 2000) {b : Bool} : PrimEq (bin Tryd.prog .eql 4 (.bool b) (.bool b)) (.bool true) := ⟨by rw [eqlB]; cases b <;> rfl⟩
theorem lsame_nil {B H : AH} (hL : Le B H) : Ev (fun k _ => rn k 21 [.agg #[.bool false, .slice none 0 0], .agg #[.bool false, .slice none 0 0]] H) (An B H fun _ v => v = .bool true) :=
  An.imp2 (lsame_Z (xs := []) (ys := []) (a := 0) (Nat.le_refl 0) (by decide) hL) fun _ v hh => by rw [hh]; rfl
theorem words_len : ∀ (n : Nat) (l : List UInt8), (words n l).length ≤ n
  | 0, _ => by simp [words]
  | n + 1, a :: b :: c :: d :: l => by simp only [words, List.length_cons]; have := words_len n l; omega
  | n + 1, [] => by simp [words]
  | n + 1, [_] => by simp [words]
  | n + 1, [_, _] => by simp [words]
  | n + 1, [_, _, _] => by simp [words]
theorem dec_len {b : List UInt8} {z0 : Bool} {z1 : List Nat} {z2 : List UInt8} (h : dec b = some (z0, z1, z2)) : z1.length ≤ 400 := by
  unfold dec at h
  split at h
  · cases h
  · split at h
    · cases h
    · split at h
      · rename_i h1 h2 h3
        injection h with h
        rw [Prod.mk.injEq, Prod.mk.injEq] at h
        rw [← h.2.1]
        have := words_len (hdOf b / 2) (b.drop 2)
        omega
      · cases h
end Go.AM.Z
set_option linter.unusedVariables false
set_option linter.unusedSimpArgs false
set_option maxRecDepth 100000
namespace Go.AM.Z
open Go Go.AM Go.Proofs
attribute [local irreducible] run bin un ld st box newV mkS fldA fld ixA ix slc slc3 build buildS cv cvS ap cpy lenV gOp pickV b2 aIf aChk evalK resume iterD Option.bind

theorem zbytes_spec {B H : AH} {x : List Nat} {mx : Value} {nx : Bool} (hx : x.length < 9223372036854775808) (hrx : RdN B mx x) {b : List UInt8} (hb : b.length ≤ 140737488351232) (hL : Le B H) : Ev (fun k _ => rn k 8 [.agg #[.bool nx, mx], str b] H) (An B H fun _ v => v = .bool true) := by
  refine Ev.fn (fun k => f8_eq k _ _ H) ?_
  have hS := St.start hL
  repeat (first | refine Ev.s ?_ | refine Ev.newC fun _ _ _ => ?_ | refine Ev.boxC fun _ _ _ => ?_ | refine Ev.stC fun _ _ => ?_ | refine Ev.sc (by omega) ?_ | refine Ev.scg (by omega) ?_)
  refine Ev.callD (examples_spec) fun w11 B11 H11 _ hS11 h11 => ?_
  try simp only [cz] at h11
  subst h11
  by_cases hr : rightI nx x = true ∧ x.length ≤ 400
  · repeat (first | refine Ev.s ?_ | refine Ev.newC fun _ _ _ => ?_ | refine Ev.boxC fun _ _ _ => ?_ | refine Ev.stC fun _ _ => ?_ | refine Ev.sc (by omega) ?_ | refine Ev.scg (by omega) ?_)
    refine Ev.callD (zBytes_spec (xs := x) hr.1 hr.2) fun w12 B12 H12 _ hS12 h12 => ?_
    try simp only [cz] at h12
    subst h12
    repeat (first | refine Ev.s ?_ | refine Ev.newC fun _ _ _ => ?_ | refine Ev.boxC fun _ _ _ => ?_ | refine Ev.stC fun _ _ => ?_ | refine Ev.sc (by omega) ?_ | refine Ev.scg (by omega) ?_)
    refine Ev.callD (rBytes_spec (xs := x) (by omega)) fun w13 B13 H13 _ hS13 h13 => ?_
    try simp only [cz] at h13
    rw [if_pos hr] at h13
    subst h13
    repeat (first | refine Ev.s ?_ | refine Ev.newC fun _ _ _ => ?_ | refine Ev.boxC fun _ _ _ => ?_ | refine Ev.stC fun _ _ => ?_ | refine Ev.sc (by omega) ?_ | refine Ev.scg (by omega) ?_)
    refine Ev.callD (zTake_spec (l := b) (by omega)) fun w14 B14 H14 _ hS14 h14 => ?_
    try simp only [cz] at h14
    have hT14 := h14
    cases hd : dec b with
    | none =>
      rw [hd] at h14
      have h14 : w14 = _ := h14
      subst h14
      repeat (first | refine Ev.s ?_ | refine Ev.newC fun _ _ _ => ?_ | refine Ev.boxC fun _ _ _ => ?_ | refine Ev.stC fun _ _ => ?_ | refine Ev.sc (by omega) ?_ | refine Ev.scg (by omega) ?_)
      refine Ev.callD (rTake_spec (l := b) (by omega)) fun w15 B15 H15 _ hS15 h15 => ?_
      try simp only [cz] at h15
      rw [hd] at h15
      have h15 : w15 = _ := h15
      subst h15
      repeat (first | refine Ev.s ?_ | refine Ev.newC fun _ _ _ => ?_ | refine Ev.boxC fun _ _ _ => ?_ | refine Ev.stC fun _ _ => ?_ | refine Ev.sc (by omega) ?_ | refine Ev.scg (by omega) ?_)
      refine Ev.callD (lsame_nil) fun w16 B16 H16 _ hS16 h16 => ?_
      try simp only [cz] at h16
      subst h16
      repeat (first | refine Ev.s ?_ | refine Ev.newC fun _ _ _ => ?_ | refine Ev.boxC fun _ _ _ => ?_ | refine Ev.stC fun _ _ => ?_ | refine Ev.sc (by omega) ?_ | refine Ev.scg (by omega) ?_)
      refine Ev.callD (short_Z (xs := x) (c := 12) (by decide) hx) fun w17 B17 H17 _ hS17 h17 => ?_
      try simp only [cz] at h17
      obtain ⟨m_e, rfl, hr_e, l_e⟩ := h17
      generalize x.take 12 = xe at *
      generalize nx = ne at *
      have hv := val_lt hr_e.sm
      have hv2 : 4294967296 ^ xe.length ≤ 4294967296 ^ 12 := Nat.pow_le_pow_right (by decide) l_e
      repeat (first | refine Ev.s ?_ | refine Ev.newC fun _ _ _ => ?_ | refine Ev.boxC fun _ _ _ => ?_ | refine Ev.stC fun _ _ => ?_ | refine Ev.sc (by omega) ?_ | refine Ev.scg (by omega) ?_)
      refine Ev.callD (zText_spec (xs := xe) (by omega) (Nat.lt_of_lt_of_le hv (Nat.le_trans hv2 (by decide)))) fun w18 B18 H18 _ hS18 h18 => ?_
      try simp only [cz] at h18
      subst h18
      repeat (first | refine Ev.s ?_ | refine Ev.newC fun _ _ _ => ?_ | refine Ev.boxC fun _ _ _ => ?_ | refine Ev.stC fun _ _ => ?_ | refine Ev.sc (by omega) ?_ | refine Ev.scg (by omega) ?_)
      refine Ev.callD (rText_spec (xs := xe) (by omega) (Nat.lt_of_lt_of_le hv (Nat.le_trans hv2 (by decide)))) fun w19 B19 H19 _ hS19 h19 => ?_
      try simp only [cz] at h19
      subst h19
      repeat (first | refine Ev.s ?_ | refine Ev.newC fun _ _ _ => ?_ | refine Ev.boxC fun _ _ _ => ?_ | refine Ev.stC fun _ _ => ?_ | refine Ev.sc (by omega) ?_ | refine Ev.scg (by omega) ?_)
      exact Ev.doneC rfl
    | some t3 =>
      obtain ⟨z0, z1, z2⟩ := t3
      rw [hd] at h14
      obtain ⟨tm, rfl, htm⟩ := h14
      repeat (first | refine Ev.s ?_ | refine Ev.newC fun _ _ _ => ?_ | refine Ev.boxC fun _ _ _ => ?_ | refine Ev.stC fun _ _ => ?_ | refine Ev.sc (by omega) ?_ | refine Ev.scg (by omega) ?_)
      refine Ev.callD (rTake_spec (l := b) (by omega)) fun w20 B20 H20 _ hS20 h20 => ?_
      try simp only [cz] at h20
      rw [hd] at h20
      obtain ⟨tn, rfl, htn⟩ := h20
      have hz1 := dec_len hd
      repeat (first | refine Ev.s ?_ | refine Ev.newC fun _ _ _ => ?_ | refine Ev.boxC fun _ _ _ => ?_ | refine Ev.stC fun _ _ => ?_ | refine Ev.sc (by omega) ?_ | refine Ev.scg (by omega) ?_)
      refine Ev.callD (lsame_Z (n1 := z0) (n2 := z0) (xs := z1) (ys := z1) hz1 (by decide)) fun w21 B21 H21 _ hS21 h21 => ?_
      rw [decide_eq_true ⟨rfl, rfl⟩] at h21
      subst h21
      repeat (first | refine Ev.s ?_ | refine Ev.newC fun _ _ _ => ?_ | refine Ev.boxC fun _ _ _ => ?_ | refine Ev.stC fun _ _ => ?_ | refine Ev.sc (by omega) ?_ | refine Ev.scg (by omega) ?_)
      refine Ev.callD (short_Z (xs := x) (c := 12) (by decide) hx) fun w22 B22 H22 _ hS22 h22 => ?_
      try simp only [cz] at h22
      obtain ⟨m_e, rfl, hr_e, l_e⟩ := h22
      generalize x.take 12 = xe at *
      generalize nx = ne at *
      have hv := val_lt hr_e.sm
      have hv2 : 4294967296 ^ xe.length ≤ 4294967296 ^ 12 := Nat.pow_le_pow_right (by decide) l_e
      repeat (first | refine Ev.s ?_ | refine Ev.newC fun _ _ _ => ?_ | refine Ev.boxC fun _ _ _ => ?_ | refine Ev.stC fun _ _ => ?_ | refine Ev.sc (by omega) ?_ | refine Ev.scg (by omega) ?_)
      refine Ev.callD (zText_spec (xs := xe) (by omega) (Nat.lt_of_lt_of_le hv (Nat.le_trans hv2 (by decide)))) fun w23 B23 H23 _ hS23 h23 => ?_
      try simp only [cz] at h23
      subst h23
      repeat (first | refine Ev.s ?_ | refine Ev.newC fun _ _ _ => ?_ | refine Ev.boxC fun _ _ _ => ?_ | refine Ev.stC fun _ _ => ?_ | refine Ev.sc (by omega) ?_ | refine Ev.scg (by omega) ?_)
      refine Ev.callD (rText_spec (xs := xe) (by omega) (Nat.lt_of_lt_of_le hv (Nat.le_trans hv2 (by decide)))) fun w24 B24 H24 _ hS24 h24 => ?_
      try simp only [cz] at h24
      subst h24
      repeat (first | refine Ev.s ?_ | refine Ev.newC fun _ _ _ => ?_ | refine Ev.boxC fun _ _ _ => ?_ | refine Ev.stC fun _ _ => ?_ | refine Ev.sc (by omega) ?_ | refine Ev.scg (by omega) ?_)
      exact Ev.doneC rfl
  · repeat (first | refine Ev.s ?_ | refine Ev.newC fun _ _ _ => ?_ | refine Ev.boxC fun _ _ _ => ?_ | refine Ev.stC fun _ _ => ?_ | refine Ev.sc (by omega) ?_ | refine Ev.scg (by omega) ?_)
    refine Ev.callD (zBytes_bad (xs := x) (by omega) hr) fun w25 B25 H25 _ hS25 h25 => ?_
    try simp only [cz] at h25
    subst h25
    repeat (first | refine Ev.s ?_ | refine Ev.newC fun _ _ _ => ?_ | refine Ev.boxC fun _ _ _ => ?_ | refine Ev.stC fun _ _ => ?_ | refine Ev.sc (by omega) ?_ | refine Ev.scg (by omega) ?_)
    refine Ev.callD (rBytes_spec (xs := x) (by omega)) fun w26 B26 H26 _ hS26 h26 => ?_
    try simp only [cz] at h26
    rw [if_neg hr] at h26
    subst h26
    repeat (first | refine Ev.s ?_ | refine Ev.newC fun _ _ _ => ?_ | refine Ev.boxC fun _ _ _ => ?_ | refine Ev.stC fun _ _ => ?_ | refine Ev.sc (by omega) ?_ | refine Ev.scg (by omega) ?_)
    refine Ev.callD (zTake_spec (l := b) (by omega)) fun w27 B27 H27 _ hS27 h27 => ?_
    try simp only [cz] at h27
    have hT27 := h27
    cases hd : dec b with
    | none =>
      rw [hd] at h27
      have h27 : w27 = _ := h27
      subst h27
      repeat (first | refine Ev.s ?_ | refine Ev.newC fun _ _ _ => ?_ | refine Ev.boxC fun _ _ _ => ?_ | refine Ev.stC fun _ _ => ?_ | refine Ev.sc (by omega) ?_ | refine Ev.scg (by omega) ?_)
      refine Ev.callD (rTake_spec (l := b) (by omega)) fun w28 B28 H28 _ hS28 h28 => ?_
      try simp only [cz] at h28
      rw [hd] at h28
      have h28 : w28 = _ := h28
      subst h28
      repeat (first | refine Ev.s ?_ | refine Ev.newC fun _ _ _ => ?_ | refine Ev.boxC fun _ _ _ => ?_ | refine Ev.stC fun _ _ => ?_ | refine Ev.sc (by omega) ?_ | refine Ev.scg (by omega) ?_)
      refine Ev.callD (lsame_nil) fun w29 B29 H29 _ hS29 h29 => ?_
      try simp only [cz] at h29
      subst h29
      repeat (first | refine Ev.s ?_ | refine Ev.newC fun _ _ _ => ?_ | refine Ev.boxC fun _ _ _ => ?_ | refine Ev.stC fun _ _ => ?_ | refine Ev.sc (by omega) ?_ | refine Ev.scg (by omega) ?_)
      refine Ev.callD (short_Z (xs := x) (c := 12) (by decide) hx) fun w30 B30 H30 _ hS30 h30 => ?_
      try simp only [cz] at h30
      obtain ⟨m_e, rfl, hr_e, l_e⟩ := h30
      generalize x.take 12 = xe at *
      generalize nx = ne at *
      have hv := val_lt hr_e.sm
      have hv2 : 4294967296 ^ xe.length ≤ 4294967296 ^ 12 := Nat.pow_le_pow_right (by decide) l_e
      repeat (first | refine Ev.s ?_ | refine Ev.newC fun _ _ _ => ?_ | refine Ev.boxC fun _ _ _ => ?_ | refine Ev.stC fun _ _ => ?_ | refine Ev.sc (by omega) ?_ | refine Ev.scg (by omega) ?_)
      refine Ev.callD (zText_spec (xs := xe) (by omega) (Nat.lt_of_lt_of_le hv (Nat.le_trans hv2 (by decide)))) fun w31 B31 H31 _ hS31 h31 => ?_
      try simp only [cz] at h31
      subst h31
      repeat (first | refine Ev.s ?_ | refine Ev.newC fun _ _ _ => ?_ | refine Ev.boxC fun _ _ _ => ?_ | refine Ev.stC fun _ _ => ?_ | refine Ev.sc (by omega) ?_ | refine Ev.scg (by omega) ?_)
      refine Ev.callD (rText_spec (xs := xe) (by omega) (Nat.lt_of_lt_of_le hv (Nat.le_trans hv2 (by decide)))) fun w32 B32 H32 _ hS32 h32 => ?_
      try simp only [cz] at h32
      subst h32
      repeat (first | refine Ev.s ?_ | refine Ev.newC fun _ _ _ => ?_ | refine Ev.boxC fun _ _ _ => ?_ | refine Ev.stC fun _ _ => ?_ | refine Ev.sc (by omega) ?_ | refine Ev.scg (by omega) ?_)
      exact Ev.doneC rfl
    | some t3 =>
      obtain ⟨z0, z1, z2⟩ := t3
      rw [hd] at h27
      obtain ⟨tm, rfl, htm⟩ := h27
      repeat (first | refine Ev.s ?_ | refine Ev.newC fun _ _ _ => ?_ | refine Ev.boxC fun _ _ _ => ?_ | refine Ev.stC fun _ _ => ?_ | refine Ev.sc (by omega) ?_ | refine Ev.scg (by omega) ?_)
      refine Ev.callD (rTake_spec (l := b) (by omega)) fun w33 B33 H33 _ hS33 h33 => ?_
      try simp only [cz] at h33
      rw [hd] at h33
      obtain ⟨tn, rfl, htn⟩ := h33
      have hz1 := dec_len hd
      repeat (first | refine Ev.s ?_ | refine Ev.newC fun _ _ _ => ?_ | refine Ev.boxC fun _ _ _ => ?_ | refine Ev.stC fun _ _ => ?_ | refine Ev.sc (by omega) ?_ | refine Ev.scg (by omega) ?_)
      refine Ev.callD (lsame_Z (n1 := z0) (n2 := z0) (xs := z1) (ys := z1) hz1 (by decide)) fun w34 B34 H34 _ hS34 h34 => ?_
      rw [decide_eq_true ⟨rfl, rfl⟩] at h34
      subst h34
      repeat (first | refine Ev.s ?_ | refine Ev.newC fun _ _ _ => ?_ | refine Ev.boxC fun _ _ _ => ?_ | refine Ev.stC fun _ _ => ?_ | refine Ev.sc (by omega) ?_ | refine Ev.scg (by omega) ?_)
      refine Ev.callD (short_Z (xs := x) (c := 12) (by decide) hx) fun w35 B35 H35 _ hS35 h35 => ?_
      try simp only [cz] at h35
      obtain ⟨m_e, rfl, hr_e, l_e⟩ := h35
      generalize x.take 12 = xe at *
      generalize nx = ne at *
      have hv := val_lt hr_e.sm
      have hv2 : 4294967296 ^ xe.length ≤ 4294967296 ^ 12 := Nat.pow_le_pow_right (by decide) l_e
      repeat (first | refine Ev.s ?_ | refine Ev.newC fun _ _ _ => ?_ | refine Ev.boxC fun _ _ _ => ?_ | refine Ev.stC fun _ _ => ?_ | refine Ev.sc (by omega) ?_ | refine Ev.scg (by omega) ?_)
      refine Ev.callD (zText_spec (xs := xe) (by omega) (Nat.lt_of_lt_of_le hv (Nat.le_trans hv2 (by decide)))) fun w36 B36 H36 _ hS36 h36 => ?_
      try simp only [cz] at h36
      subst h36
      repeat (first | refine Ev.s ?_ | refine Ev.newC fun _ _ _ => ?_ | refine Ev.boxC fun _ _ _ => ?_ | refine Ev.stC fun _ _ => ?_ | refine Ev.sc (by omega) ?_ | refine Ev.scg (by omega) ?_)
      refine Ev.callD (rText_spec (xs := xe) (by omega) (Nat.lt_of_lt_of_le hv (Nat.le_trans hv2 (by decide)))) fun w37 B37 H37 _ hS37 h37 => ?_
      try simp only [cz] at h37
      subst h37
      repeat (first | refine Ev.s ?_ | refine Ev.newC fun _ _ _ => ?_ | refine Ev.boxC fun _ _ _ => ?_ | refine Ev.stC fun _ _ => ?_ | refine Ev.sc (by omega) ?_ | refine Ev.scg (by omega) ?_)
      exact Ev.doneC rfl
theorem coreZintBytes (H : AH) (vs : List Value) (x : (Bool × List Int × Unit) × ByteArray × Unit) (hK : ∃ v0 vs0, vs = v0 :: vs0 ∧ KvS KInt H x.1 v0 ∧ ∃ v1 vs1, vs0 = v1 :: vs1 ∧ KvC Kn.string H x.2.1 v1 ∧ vs1 = [])
    (hG : GInt x.1 ∧ x.2.1.size ≤ maxLen ∧ True) (hw1 : ∀ s, vs[1]? = some (.string s) → s.size ≤ 140737488351232) : Ev (fun k _ => rn k 8 vs H) (fun r => r.1 = .bool true) := by
  obtain ⟨v0, _, rfl, h0, v1, _, rfl, h1, rfl⟩ := hK
  obtain ⟨g0, g1, _⟩ := hG
  obtain ⟨m0, rfl, a0, b0⟩ := int_open h0 g0
  have h1 : [v1] = [.string x.2.1] := h1
  cases h1
  have e1 := hw1 _ rfl
  rw [str_of x.2.1]
  exact An.tt (zbytes_spec b0 a0 (by rw [Array.length_toList]; exact e1) ⟨Mo.refl H⟩)
end Go.AM.Z
set_option linter.unusedVariables false
namespace Go.AM.Z
open Go Go.Proofs Go.RowKit
set_option maxHeartbeats 1000000 in
set_option maxRecDepth 100000 in
theorem copyCheck_used (b : Nat) (w : World) (h0 : w.cell? ⟨b, 0, none⟩ = some (.pointer (some ⟨b, 0, none⟩))) :
    Calls Tryd.prog 95 #[.pointer (some ⟨b, 0, none⟩)] w fun e w' => e = .returned (.tuple #[]) ∧ w' = w := by
  obtain ⟨j, hj⟩ := Option.isSome_iff_exists.1 (show (Tryd.prog.info? 100).isSome = true by kernel_rfl)
  have mixed : Tryd.prog.follows .mixedOrders = true := by kernel_rfl
  have t72 := Tryd.underlying100; have a72 := Tryd.isAgg100; have z72 := Tryd.sizeOf100; have v72 := Tryd.zeroValue100; have u72 := run_underlying t72
  have t70 := Tryd.underlying98; have a70 := Tryd.isAgg98; have z70 := Tryd.sizeOf98; have v70 := Tryd.zeroValue98; have u70 := run_underlying t70
  go_enter Tryd.func95, Tryd.ntmps95
  go_wp2
  rw [Lib.run_neq_ptr_same w _ t70 hj]
  go_wp2
  go_end0
  exact ⟨rfl, rfl⟩
set_option maxHeartbeats 1000000 in
set_option maxRecDepth 100000 in
theorem copyCheck_fresh (T n b : Nat) (hn : 0 < n) (hT : liesAt Tryd.prog Tryd.prog.depth T (n / Tryd.prog.cellsOf T) 0 100 1 = true) (w : World) (h0 : w.cell? ⟨b, 0, none⟩ = some (.pointer none)) (hsh : w.shape? b = some (T, n)) (hfz : w.frozen? ⟨b, 0, none⟩ = false) :
    Calls Tryd.prog 95 #[.pointer (some ⟨b, 0, none⟩)] w fun e w' => e = .returned (.tuple #[]) ∧ w' = w.setCell ⟨b, 0, none⟩ (.pointer (some ⟨b, 0, none⟩)) := by
  obtain ⟨j, hj⟩ := Option.isSome_iff_exists.1 (show (Tryd.prog.info? 100).isSome = true by kernel_rfl)
  have hc2 : Tryd.prog.cellsOf 100 = 2 := by kernel_rfl
  have hjs : j.size ≠ 0 := by
    unfold Program.cellsOf at hc2
    rw [hj] at hc2
    have : j.size = 2 := hc2
    omega
  have mixed : Tryd.prog.follows .mixedOrders = true := by kernel_rfl
  have t72 := Tryd.underlying100; have a72 := Tryd.isAgg100; have z72 := Tryd.sizeOf100; have v72 := Tryd.zeroValue100; have u72 := run_underlying t72
  have t70 := Tryd.underlying98; have a70 := Tryd.isAgg98; have z70 := Tryd.sizeOf98; have v70 := Tryd.zeroValue98; have u70 := run_underlying t70
  have tU := Tryd.underlying116; have aU := Tryd.isAgg116; have zU := Tryd.sizeOf116; have vU := Tryd.zeroValue116; have uU := run_underlying tU
  go_enter Tryd.func95, Tryd.ntmps95
  go_wp2
  rw [Lib.run_to_unsafe w ⟨b, 0, none⟩ t70 tU hj hjs hsh hn]
  simp only [Result.andThen]
  rw [Oper.upon_value]
  go_wp2
  rw [run_callFunc_extern Tryd.func100 (by kernel_rfl) (by kernel_rfl) (by kernel_rfl) (e := Extern.AbiNoEscape.same) (by kernel_rfl)]
  rw [Lib.run_noEscape]
  simp only [Result.andThen]
  rw [Oper.upon_value]
  go_wp2
  rw [Lib.run_from_unsafe w ⟨b, 0, none⟩ tU t70 hj hsh hT]
  simp only [Result.andThen]
  rw [Oper.upon_value]
  go_wp2
  go_end0
  exact ⟨rfl, rfl⟩
end Go.AM.Z
set_option linter.unusedVariables false
namespace Go.AM.Z
open Go Go.Proofs Go.RowKit
set_option maxHeartbeats 1000000 in
set_option maxRecDepth 100000 in
theorem grow_fresh (b n : Nat) (w : World) (c : Array Value) (T : TypeId) (hbk : w.heap[b]? = some (.cells c T (0, 0))) (h1 : c[1]? = some (.slice none 0 0)) (hn : n ≤ 140737488355328) :
    Calls Tryd.prog 96 #[.pointer (some ⟨b, 0, none⟩), .int .i64 n] w fun e w' => e = .returned (.tuple #[]) ∧ ∃ cs : Array Value,
      w'.heap = ((w.setCell ⟨b, 1, none⟩ (.slice (some ⟨w.heap.size, 0, none⟩) 0 cs.size)).alloc (.cells cs 5)).heap ∧ Below b w w' := by
  have t76 := Tryd.underlying76; have a76 := Tryd.isAgg76; have z76 := Tryd.sizeOf76; have v76 := Tryd.zeroValue76; have u76 := run_underlying t76
  have t98 := Tryd.underlying98; have a98 := Tryd.isAgg98; have z98 := Tryd.sizeOf98; have v98 := Tryd.zeroValue98; have u98 := run_underlying t98
  have t100 := Tryd.underlying100; have a100 := Tryd.isAgg100; have z100 := Tryd.sizeOf100; have v100 := Tryd.zeroValue100; have u100 := run_underlying t100
  have t3 := Tryd.underlying3; have a3 := Tryd.isAgg3; have z3 := Tryd.sizeOf3; have v3 := Tryd.zeroValue3; have u3 := run_underlying t3
  have t5 := Tryd.underlying5; have a5 := Tryd.isAgg5; have z5 := Tryd.sizeOf5; have v5 := Tryd.zeroValue5; have u5 := run_underlying t5
  obtain ⟨cs, hrun, hle, hmax⟩ := Lib.run_makeNoZero (P := Tryd.prog) w.drew #[3] 76 5 t76 n (by omega)
  have hw : IntKind.i64.wrap (IntKind.i64.wrap 0 + (n : Int)) = n := by
    rw [IntKind.wrap_i64, IntKind.wrap_i64]
    omega
  have hcall : (callFunc 101 #[.int .i64 (IntKind.i64.wrap (IntKind.i64.wrap 0 + (n : Int)))]).run Tryd.prog w.drew = .ok (.value (.slice (some ⟨w.drew.heap.size, 0, none⟩) n cs.size)) (w.drew.drew.drew.alloc (.cells cs 5)) := by
    rw [hw, run_callFunc_extern Tryd.func101 (by kernel_rfl) (by kernel_rfl) (by kernel_rfl) (e := Extern.BytealgMakeNoZero.makeNoZero #[3] #[76]) (by kernel_rfl), hrun]
    rfl
  have hlt : b < w.heap.size := (Array.getElem?_eq_some_iff.1 hbk).1
  have c1 : w.drew.cell? ⟨b, 1, none⟩ = some (.slice none 0 0) := by
    have : w.drew.heap[b]? = _ := hbk
    rw [Lib.cell_of_heap this]; exact h1
  have c2 : (w.alloc (.cells cs 5)).cell? ⟨b, 1, none⟩ = some (.slice none 0 0) := by
    have : (w.alloc (.cells cs 5)).heap[b]? = _ := (Lib.alloc_old w _ b hlt).trans hbk
    rw [Lib.cell_of_heap this]; exact h1
  have f2 : (w.alloc (.cells cs 5)).frozen? ⟨b, 1, none⟩ = false := Lib.frozen_of_heap ((Lib.alloc_old w _ b hlt).trans hbk) 1
  have hcopy : ∀ W : World, (Builtin.copy_ #[76, 76] 3 #[.slice (some ⟨w.heap.size, 0, none⟩) 0 cs.size, .slice none 0 0]).run Tryd.prog W = .ok (goInt 0) W :=
    fun W => run_copy_none W 76 76 3 5 _ _ 0 cs.size 0 0 t76 (by kernel_rfl) rfl
  have hbel : Below b w ((w.setCell ⟨b, 1, none⟩ (.slice (some ⟨w.heap.size, 0, none⟩) 0 cs.size)).alloc (.cells cs 5)) :=
    ((Below.refl b w).setCell (p := ⟨b, 1, none⟩) (Nat.le_refl _) _).alloc (by simp [World.setCell]; omega) _
  clear hw
  have mixed : Tryd.prog.follows .mixedOrders = true := by kernel_rfl
  go_enter Tryd.func96, Tryd.ntmps96
  go_wp2
  go_region_o
  all_goals (go_wp2; go_end0; first | exact ⟨rfl, cs, rfl, hbel.drew.drew.drew⟩ | exact ⟨rfl, cs, rfl, hbel.drew.drew⟩ | exact ⟨rfl, cs, rfl, hbel.drew.drew.drew.drew⟩)
end Go.AM.Z
set_option linter.unusedVariables false
namespace Go.AM.Z
open Go Go.Proofs Go.RowKit
theorem heap_two (w : World) (b : Nat) (c : Array Value) (T : TypeId) (u v : Value) (o : Obj) (hbk : w.heap[b]? = some (.cells c T (0, 0))) :
    (((w.setCell ⟨b, 0, none⟩ u).setCell ⟨b, 1, none⟩ v).alloc o).heap = ((w.alloc o).setRow b ((c.setIfInBounds 0 u).setIfInBounds 1 v)).heap := by
  have hlt := (Array.getElem?_eq_some_iff.1 hbk).1
  have hg := (Array.getElem?_eq_some_iff.1 hbk).2
  apply Array.ext_getElem?
  intro i
  unfold World.setCell World.setRow World.alloc
  simp only [Array.getElem?_modify, Array.getElem?_push, Array.size_modify]
  by_cases hi : i = w.heap.size
  · subst hi
    rw [if_pos rfl, if_pos rfl, if_neg (by omega)]
  · rw [if_neg hi, if_neg hi]
    by_cases hb : b = i
    · subst hb
      rw [if_pos rfl, if_pos rfl, if_pos rfl, hbk]; rfl
    · rw [if_neg hb, if_neg hb, if_neg hb]
set_option maxHeartbeats 1000000 in
set_option maxRecDepth 100000 in
theorem Grow_fresh (T b n : Nat) (hT2 : 2 ≤ szT Tryd.prog T) (hT : liesAt Tryd.prog Tryd.prog.depth T (szT Tryd.prog T / Tryd.prog.cellsOf T) 0 100 1 = true) (w : World) (c : Array Value) (hbk : w.heap[b]? = some (.cells c T (0, 0))) (hsz : c.size = szT Tryd.prog T) (h0 : c[0]? = some (.pointer none))
    (h1 : c[1]? = some (.slice none 0 0)) (hn0 : 0 < n) (hn : n ≤ 140737488355328) :
    Calls Tryd.prog 85 #[.pointer (some ⟨b, 0, none⟩), .int .i64 n] w fun e w' => e = .returned (.tuple #[]) ∧ ∃ cs : Array Value,
      w'.heap = ((w.alloc (.cells cs 5)).setRow b ((c.setIfInBounds 0 (.pointer (some ⟨b, 0, none⟩))).setIfInBounds 1 (.slice (some ⟨w.heap.size, 0, none⟩) 0 cs.size))).heap ∧ Below b w w' := by
  have t76 := Tryd.underlying76; have a76 := Tryd.isAgg76; have z76 := Tryd.sizeOf76; have v76 := Tryd.zeroValue76; have u76 := run_underlying t76
  have t98 := Tryd.underlying98; have a98 := Tryd.isAgg98; have z98 := Tryd.sizeOf98; have v98 := Tryd.zeroValue98; have u98 := run_underlying t98
  have t100 := Tryd.underlying100; have a100 := Tryd.isAgg100; have z100 := Tryd.sizeOf100; have v100 := Tryd.zeroValue100; have u100 := run_underlying t100
  have t3 := Tryd.underlying3; have a3 := Tryd.isAgg3; have z3 := Tryd.sizeOf3; have v3 := Tryd.zeroValue3; have u3 := run_underlying t3
  have hlt : b < w.heap.size := (Array.getElem?_eq_some_iff.1 hbk).1
  have hbk1 : (w.setCell ⟨b, 0, none⟩ (.pointer (some ⟨b, 0, none⟩))).heap[b]? = some (.cells (c.setIfInBounds 0 (.pointer (some ⟨b, 0, none⟩))) T (0, 0)) := by
    simp [World.setCell, Array.getElem?_modify, hbk]
  have h11 : (c.setIfInBounds 0 (.pointer (some ⟨b, 0, none⟩)))[1]? = some (.slice none 0 0) := by rw [Array.getElem?_setIfInBounds_ne (by decide)]; exact h1
  have c1 : (w.setCell ⟨b, 0, none⟩ (.pointer (some ⟨b, 0, none⟩))).cell? ⟨b, 1, none⟩ = some (.slice none 0 0) := by rw [Lib.cell_of_heap hbk1]; exact h11
  have c1' : (w.setCell ⟨b, 0, none⟩ (.pointer (some ⟨b, 0, none⟩))).drew.cell? ⟨b, 1, none⟩ = some (.slice none 0 0) := c1
  have hb1 : Below b w (w.setCell ⟨b, 0, none⟩ (.pointer (some ⟨b, 0, none⟩))) := (Below.refl b w).setCell (p := ⟨b, 0, none⟩) (Nat.le_refl _) _
  have hsize : (w.setCell ⟨b, 0, none⟩ (.pointer (some ⟨b, 0, none⟩))).heap.size = w.heap.size := by simp [World.setCell]
  have hs2 : (w.setCell ⟨b, 0, none⟩ (.pointer (some ⟨b, 0, none⟩))).drew.heap.size = w.heap.size := hsize
  have e95 : ∀ args w, (callFunc 95 args).run Tryd.prog w = .ok (.enter 95 args) w := enters_of Tryd.func95 (by kernel_rfl) rfl
  have e96 : ∀ args w, (callFunc 96 args).run Tryd.prog w = .ok (.enter 96 args) w := enters_of Tryd.func96 (by kernel_rfl) rfl
  have mixed : Tryd.prog.follows .mixedOrders = true := by kernel_rfl
  have hn' : ¬ ((n : Int) < 0) := by omega
  have hn2 : (0 : Int) < (n : Int) := by omega
  have hcc := copyCheck_fresh T (szT Tryd.prog T) b (by omega) hT w (by rw [Lib.cell_of_heap hbk]; exact h0) (by simp [World.shape?, hbk, hsz]) (Lib.frozen_of_heap hbk 0)
  have hgr := grow_fresh b n (w.setCell ⟨b, 0, none⟩ (.pointer (some ⟨b, 0, none⟩))).drew (c.setIfInBounds 0 (.pointer (some ⟨b, 0, none⟩))) T hbk1 h11 hn
  go_enter Tryd.func85, Tryd.ntmps85
  go_wp2_with (go_at_fn 95; refine hcc.mono ?_; rintro e w' ⟨rfl, rfl⟩)
  go_region_o
  all_goals go_wp2_with (go_at_fn 96; refine hgr.mono ?_; rintro e w' ⟨rfl, cs, h1, h2⟩)
  all_goals (go_end0; refine ⟨rfl, cs, ?_, hb1.drew.trans h2⟩; rw [hs2] at h1; exact h1.trans (by rw [← heap_two w b c T _ _ _ hbk]; rfl))
end Go.AM.Z
set_option linter.unusedVariables false
set_option linter.unusedSimpArgs false
set_option maxRecDepth 100000
namespace Go.AM.Z
open Go Go.AM Go.Proofs
attribute [local irreducible] run bin un ld st box newV mkS fldA fld ixA ix slc slc3 build buildS cv cvS ap cpy lenV gOp pickV b2 aIf aChk evalK resume iterD Option.bind

theorem gv_ok : GivenOK Tryd.prog gv := by
  intro f g h
  have hgv : gv f = (if f = 95 then some (gCopy Tryd.prog [100]) else if f = 85 then some (gGrow Tryd.prog [100] 5) else none) := rfl
  rw [hgv] at h
  by_cases hf : f = 95
  · rw [if_pos hf] at h
    cases h
    subst hf
    refine gCopy_ok ⟨_, Tryd.func95, by decide +kernel, by kernel_rfl⟩ (fun T hT b w h0 hsh hfz => ?_) (fun b w h0 => copyCheck_used b w h0)
    simp only [List.mem_cons, List.not_mem_nil, or_false] at hT
    subst hT
    exact copyCheck_fresh _ _ b (by have : szT Tryd.prog 100 = 2 := by kernel_rfl
                                    omega) (by kernel_rfl) w h0 hsh hfz
  · rw [if_neg hf] at h
    by_cases hf : f = 85
    · rw [if_pos hf] at h
      cases h
      subst hf
      have s2 : szT Tryd.prog 100 = 2 := by kernel_rfl
      refine gGrow_ok ⟨_, Tryd.func85, by decide +kernel, by kernel_rfl⟩ (by kernel_rfl) (fun T hT => ?_) (fun T hT b n w c hbk hsz h0 h1 hn0 hn => ?_)
      · simp only [List.mem_cons, List.not_mem_nil, or_false] at hT
        subst hT; omega
      · simp only [List.mem_cons, List.not_mem_nil, or_false] at hT
        subst hT
        exact Grow_fresh _ b n (by omega) (by kernel_rfl) w c hbk hsz h0 h1 hn0 hn
    · rw [if_neg hf] at h
      cases h
end Go.AM.Z
