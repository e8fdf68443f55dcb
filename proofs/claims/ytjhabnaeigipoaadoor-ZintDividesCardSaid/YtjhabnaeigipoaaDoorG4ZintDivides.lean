/-
  Facts of the abstract evaluator and of the functions that the law reaches, part 4. Conditions: none.
-/
import Derived.Shelf.Strings.BuilderX
import Derived.Shelf.RegionOpenPlain
import Derived.Lib.Strings
import Derived.Lib.Walk
import Derived.Lib.Builder
import Derived.Lib.MakeNoZero
import Derived.WalkKit
import Derived.Laws.Externs
import Derived.Laws.IdiomCopy
import Derived.Laws.PanicsMore
import Derived.Test.YtjhabnaeigipoaaDoorG3ZintDivides
set_option linter.unusedVariables false
set_option linter.unusedSimpArgs false
set_option linter.unnecessarySimpa false
set_option exponentiation.threshold 200000
set_option maxRecDepth 100000
set_option linter.unusedVariables false
set_option linter.unusedSimpArgs false
set_option maxRecDepth 100000
namespace Go.AM.Z
open Go Go.AM Go.Proofs
attribute [local irreducible] run bin un ld st box newV mkS fldA fld ixA ix slc slc3 build buildS cv cvS ap cpy lenV gOp pickV b2 aIf aChk evalK resume iterD Option.bind

theorem trimB_loop {H : AH} {c : Nat} (hc : c < 256) : ∀ (l : List UInt8), l.length ≤ 9223372036854775807 →
    Ev (fun k n => f81_L0 k (str l) (u8 c) n H) (fun o => o = (.exit 0, f81_X_L0 (str (l.dropWhile fun b => b.toNat == c)), H)) := by
  intro l
  induction l with
  | nil =>
    intro _
    refine Ev.succ (fun k n => f81_L0_succ k _ _ n H) ?_
    repeat (first | refine Ev.s ?_ | refine Ev.newC fun _ _ _ => ?_ | refine Ev.boxC fun _ _ _ => ?_ | refine Ev.stC fun _ _ => ?_ | refine Ev.sc (by omega) ?_ | refine Ev.scg (by omega) ?_)
    rw [decide_eq_false (show ¬ 0 < ([] : List UInt8).length by simp)]
    repeat (first | refine Ev.s ?_ | refine Ev.newC fun _ _ _ => ?_ | refine Ev.boxC fun _ _ _ => ?_ | refine Ev.stC fun _ _ => ?_ | refine Ev.sc (by omega) ?_ | refine Ev.scg (by omega) ?_)
    exact Ev.ret rfl
  | cons a l ih =>
    intro hl
    refine Ev.succ (fun k n => f81_L0_succ k _ _ n H) ?_
    repeat (first | refine Ev.s ?_ | refine Ev.newC fun _ _ _ => ?_ | refine Ev.boxC fun _ _ _ => ?_ | refine Ev.stC fun _ _ => ?_ | refine Ev.sc (by omega) ?_ | refine Ev.scg (by omega) ?_)
    rw [decide_eq_true (show 0 < (a :: l).length by simp)]
    repeat (first | refine Ev.s ?_ | refine Ev.newC fun _ _ _ => ?_ | refine Ev.boxC fun _ _ _ => ?_ | refine Ev.stC fun _ _ => ?_ | refine Ev.sc (by omega) ?_ | refine Ev.scg (by omega) ?_)
    refine Ev.gPrim (ix_str 0 rfl (by simp)) rfl ?_
    rw [List.getD_cons_zero]
    repeat (first | refine Ev.s ?_ | refine Ev.newC fun _ _ _ => ?_ | refine Ev.boxC fun _ _ _ => ?_ | refine Ev.stC fun _ _ => ?_ | refine Ev.sc (by omega) ?_ | refine Ev.scg (by omega) ?_)
    by_cases h : a.toNat = c
    · rw [decide_eq_true h]
      repeat (first | refine Ev.s ?_ | refine Ev.newC fun _ _ _ => ?_ | refine Ev.boxC fun _ _ _ => ?_ | refine Ev.stC fun _ _ => ?_ | refine Ev.sc (by omega) ?_ | refine Ev.scg (by omega) ?_)
      refine Ev.prim (slc_str 1 rfl (by simp)) ?_
      rw [List.drop_succ_cons, List.drop_zero, List.dropWhile_cons]
      rw [show (a.toNat == c) = true by simpa using h]
      simp only [if_true]
      exact ih (by simp at hl; omega)
    · rw [decide_eq_false h]
      repeat (first | refine Ev.s ?_ | refine Ev.newC fun _ _ _ => ?_ | refine Ev.boxC fun _ _ _ => ?_ | refine Ev.stC fun _ _ => ?_ | refine Ev.sc (by omega) ?_ | refine Ev.scg (by omega) ?_)
      rw [List.dropWhile_cons, show (a.toNat == c) = false by simpa using h]
      exact Ev.ret rfl
theorem trimB_spec {H : AH} {c : Nat} {l : List UInt8} (hc : c < 256) (hl : l.length ≤ 9223372036854775807) :
    Ev (fun k _ => rn k 81 [str l, u8 c] H) (fun r => r = (str (l.dropWhile fun b => b.toNat == c), H)) := by
  refine Ev.fn (fun k => f81_eq k _ _ H) ?_
  refine Ev.bind (Ev.loop (trimB_loop hc l hl)) ?_
  rintro _ rfl
  refine Ev.eq (fun k _ => f81_A0_x0 k _ _) ?_
  exact Ev.ret rfl
theorem trimL_spec {H : AH} {c : UInt8} {l : List UInt8} (hc : c.toNat < 128) (hl : l.length ≤ 9223372036854775807) :
    Ev (fun k _ => rn k 64 [str l, str [c]] H) (fun r => r = (str (l.dropWhile fun b => b.toNat == c.toNat), H)) := by
  refine Ev.fn (fun k => f64_eq k _ _ H) ?_
  have e0 : (.string ⟨#[]⟩ : Value) = str [] := rfl
  rw [e0]
  repeat (first | refine Ev.s ?_ | refine Ev.newC fun _ _ _ => ?_ | refine Ev.boxC fun _ _ _ => ?_ | refine Ev.stC fun _ _ => ?_ | refine Ev.sc (by omega) ?_ | refine Ev.scg (by omega) ?_)
  by_cases h : l = []
  · rw [decide_eq_true h]
    subst h
    repeat (first | refine Ev.s ?_ | refine Ev.newC fun _ _ _ => ?_ | refine Ev.boxC fun _ _ _ => ?_ | refine Ev.stC fun _ _ => ?_ | refine Ev.sc (by omega) ?_ | refine Ev.scg (by omega) ?_)
    exact Ev.ret rfl
  · rw [decide_eq_false h]
    repeat (first | refine Ev.s ?_ | refine Ev.newC fun _ _ _ => ?_ | refine Ev.boxC fun _ _ _ => ?_ | refine Ev.stC fun _ _ => ?_ | refine Ev.sc (by omega) ?_ | refine Ev.scg (by omega) ?_)
    rw [decide_eq_false (show ¬ [c] = [] by simp)]
    repeat (first | refine Ev.s ?_ | refine Ev.newC fun _ _ _ => ?_ | refine Ev.boxC fun _ _ _ => ?_ | refine Ev.stC fun _ _ => ?_ | refine Ev.sc (by omega) ?_ | refine Ev.scg (by omega) ?_)
    have hix : ix Tryd.prog 9 (str [c]) (.int .i64 0) = some (u8 c.toNat) := ix_str 0 rfl (by simp)
    refine Ev.gPrim hix rfl ?_
    repeat (first | refine Ev.s ?_ | refine Ev.newC fun _ _ _ => ?_ | refine Ev.boxC fun _ _ _ => ?_ | refine Ev.stC fun _ _ => ?_ | refine Ev.sc (by omega) ?_ | refine Ev.scg (by omega) ?_)
    rw [decide_eq_true hc]
    repeat (first | refine Ev.s ?_ | refine Ev.newC fun _ _ _ => ?_ | refine Ev.boxC fun _ _ _ => ?_ | refine Ev.stC fun _ _ => ?_ | refine Ev.sc (by omega) ?_ | refine Ev.scg (by omega) ?_)
    refine Ev.prim hix ?_
    refine Ev.callP (trimB_spec (by omega) hl) ?_
    exact Ev.ret rfl
/-- Turned round so far. -/
def RevAt (cs : List Value) (i : Nat) (c : List Value) : Prop := c.length = cs.length ∧ ∀ t, t < cs.length → c[t]? = if t < i ∨ cs.length - i ≤ t then cs[cs.length - 1 - t]? else cs[t]?
theorem rev_loop {H0 B0 B : AH} {L : List (Nat × Blk)} {b cap : Nat} {e : TypeId} {kd : BK} {cs : List Value} (hE : Elt Tryd.prog 78 9 (.string ByteArray.empty) 16) (hk : kd ≠ .ro) (he : e = 9) (hcs : ∀ v ∈ cs, isCell v = true) (hn : cs.length < 1152921504606846976) :
    ∀ (m i : Nat) (c : List Value) (H : AH), 2 * i + m = cs.length → RevAt cs i c → St H0 B0 B ((b, ⟨c, e, kd⟩) :: L) H →
    Ev (fun k n => f63_L0 k (sl b 0 cs.length cap) (i64 i) (.int .i64 ((cs.length : Int) - 1 - i)) n H) (fun o => ∃ H', o = (.exit 0, f63_X_L0, H') ∧ St H0 B0 B ((b, ⟨cs.reverse, e, kd⟩) :: L) H') := by
  subst he
  have fin : ∀ (i : Nat) (c : List Value), RevAt cs i c → cs.length ≤ 2 * i + 1 → 2 * i ≤ cs.length → c = cs.reverse := by
    intro i c ⟨h1, h2⟩ h3 h4
    apply List.ext_getElem?
    intro t
    by_cases ht : t < cs.length
    · rw [h2 t ht, List.getElem?_reverse ht]
      by_cases hc : t < i ∨ cs.length - i ≤ t
      · rw [if_pos hc]
      · rw [if_neg hc]
        congr 1; omega
    · rw [List.getElem?_eq_none (by omega), List.getElem?_eq_none (by rw [List.length_reverse]; omega)]
  intro m
  induction m using Nat.strongRecOn with
  | _ m ih =>
    intro i c H hi hc hS
    refine Ev.succ (fun k n => f63_L0_succ k _ _ _ n H) ?_
    by_cases hm : m ≤ 1
    · repeat (first | refine Ev.s ?_ | refine Ev.newC fun _ _ _ => ?_ | refine Ev.boxC fun _ _ _ => ?_ | refine Ev.stC fun _ _ => ?_ | refine Ev.sc (by omega) ?_ | refine Ev.scg (by omega) ?_)
      rw [decide_eq_false (show ¬ ((i : Nat) : Int) < (cs.length : Int) - 1 - i by omega)]
      repeat (first | refine Ev.s ?_ | refine Ev.newC fun _ _ _ => ?_ | refine Ev.boxC fun _ _ _ => ?_ | refine Ev.stC fun _ _ => ?_ | refine Ev.sc (by omega) ?_ | refine Ev.scg (by omega) ?_)
      have := fin i c hc (by omega) (by omega)
      subst this
      exact Ev.ret ⟨H, rfl, hS⟩
    · repeat (first | refine Ev.s ?_ | refine Ev.newC fun _ _ _ => ?_ | refine Ev.boxC fun _ _ _ => ?_ | refine Ev.stC fun _ _ => ?_ | refine Ev.sc (by omega) ?_ | refine Ev.scg (by omega) ?_)
      rw [decide_eq_true (show ((i : Nat) : Int) < (cs.length : Int) - 1 - i by omega)]
      have hj : (cs.length : Int) - 1 - i = ((cs.length - 1 - i : Nat) : Int) := by omega
      rw [hj]
      generalize hjj : cs.length - 1 - i = j at *
      have h1 : i < c.length := by rw [hc.1]; omega
      have h2 : j < c.length := by rw [hc.1]; omega
      have xi : c[i]? = cs[i]? := by rw [hc.2 i (by omega), if_neg (by omega)]
      have xj : c[j]? = cs[j]? := by rw [hc.2 j (by omega), if_neg (by omega)]
      obtain ⟨vi, hvi⟩ : ∃ v, cs[i]? = some v := ⟨_, List.getElem?_eq_getElem (by omega)⟩
      obtain ⟨vj, hvj⟩ : ∃ v, cs[j]? = some v := ⟨_, List.getElem?_eq_getElem (by omega)⟩
      refine Ev.tt ?_
      refine Ev.prim (ixA_own hE (by omega)) ?_
      rw [Nat.zero_add]
      refine Ev.ld hS (.head _) ((ldK_own hE).trans (xj.trans hvj)) ?_
      refine Ev.prim (ixA_own hE (by omega)) ?_
      rw [Nat.zero_add]
      refine Ev.ld hS (.head _) ((ldK_own hE).trans (xi.trans hvi)) ?_
      refine Ev.prim (ixA_own hE (by omega)) ?_
      rw [Nat.zero_add]
      refine Ev.st hS (.head _) (stK_own hE h1 (hcs vj (List.mem_of_getElem? hvj))) hk (.head _) fun H1 hS1 => ?_
      refine Ev.prim (ixA_own hE (by omega)) ?_
      rw [Nat.zero_add]
      refine Ev.st hS1 (.head _) (stK_own hE (by rw [List.length_set]; exact h2) (hcs vi (List.mem_of_getElem? hvi))) hk (.head _) fun H2 hS2 => ?_
      clear hS hS1
      repeat (first | refine Ev.s ?_ | refine Ev.newC fun _ _ _ => ?_ | refine Ev.boxC fun _ _ _ => ?_ | refine Ev.stC fun _ _ => ?_ | refine Ev.sc (by omega) ?_ | refine Ev.scg (by omega) ?_)
      have e9 : i64 (j - 1) = .int .i64 ((cs.length : Int) - 1 - ((i + 1 : Nat) : Int)) := int_eq (by omega)
      rw [e9]
      refine ih (m - 2) (by omega) (i + 1) ((c.set i vj).set j vi) H2 (by omega) ⟨by rw [List.length_set, List.length_set]; exact hc.1, fun t ht => ?_⟩ hS2
      rw [List.getElem?_set]
      by_cases htj : j = t
      · subst htj
        rw [if_pos rfl, if_pos (by rw [List.length_set]; exact h2), if_pos (by omega), show cs.length - 1 - j = i by omega, hvi]
      · rw [if_neg htj, List.getElem?_set]
        by_cases hti : i = t
        · subst hti
          rw [if_pos rfl, if_pos h1, if_pos (by omega), hjj, hvj]
        · rw [if_neg hti, hc.2 t ht]
          by_cases hcc : t < i ∨ cs.length - i ≤ t
          · rw [if_pos hcc, if_pos (by omega)]
          · rw [if_neg hcc, if_neg (by omega)]
theorem rev_spec {H0 B0 B H : AH} {L : List (Nat × Blk)} {b cap : Nat} {kd : BK} {cs : List Value} (hk : kd ≠ .ro) (hcs : ∀ v ∈ cs, isCell v = true) (hn : cs.length < 1152921504606846976) (hS : St H0 B0 B ((b, ⟨cs, 9, kd⟩) :: L) H) :
    Ev (fun k _ => rn k 63 [sl b 0 cs.length cap] H) (AnS H0 B0 B ((b, ⟨cs.reverse, 9, kd⟩) :: L) fun _ v => v = .tuple #[]) := by
  refine Ev.fn (fun k => f63_eq k _ H) ?_
  refine Ev.prim (lenV_sl (by exact Tryd.underlying78)) ?_
  refine Ev.prim (bin_sub64 (by omega)) ?_
  have h := rev_loop (cap := cap) (L := L) inferInstance hk rfl hcs hn cs.length 0 cs H (by omega) ⟨rfl, fun t ht => by rw [if_neg (by omega)]⟩ hS
  rw [show (cs.length : Int) - 1 - ((0 : Nat) : Int) = (cs.length : Int) - 1 by omega] at h
  refine Ev.bind (Ev.loop h) ?_
  rintro _ ⟨H', rfl, hS'⟩
  refine Ev.eq (fun k _ => f63_A0_x0 k H') ?_
  exact Ev.doneS (Mo.refl B) rfl
end Go.AM.Z
set_option linter.unusedVariables false
set_option linter.unusedSimpArgs false
set_option maxRecDepth 100000
namespace Go.AM.Z
open Go Go.AM Go.Proofs
attribute [local irreducible] run bin un ld st box newV mkS fldA fld ixA ix slc slc3 build buildS cv cvS ap cpy lenV gOp pickV b2 aIf aChk evalK resume iterD Option.bind

theorem grow_eq (k : Nat) (a0 a1 : Value) (H : AH) : rn (k + 1) 85 [a0, a1] H = gGrow Tryd.prog BldT 5 [a0, a1] H := by kernel_rfl
theorem Grow_spec {H0 B0 B H : AH} {L : List (Nat × Blk)} {p n : Nat} {rest : List Value} {T : TypeId} (hT : T ∈ BldT) (hl : rest.length + 2 = szT Tryd.prog T) (hn0 : 0 < n) (hn : n ≤ 140737488355328) (hS : St H0 B0 B ((p, ⟨.pointer none :: .slice none 0 0 :: rest, T, .fix⟩) :: L) H) :
    Ev (fun k _ => rn k 85 [ptr p 0, i64 n] H) (fun r => r.1 = .tuple #[] ∧ ∃ b' B', MoC B B' ∧ BAcc 5 H0 B0 B' ((p, ⟨ptr p 0 :: sl b' 0 0 1 :: rest, T, .fix⟩) :: L) r.2 (sl b' 0 0 1) []) := by
  refine Ev.fn (fun k => grow_eq k _ _ H) ?_
  have hb := hS.get (.head _)
  obtain ⟨B', hm, hS'⟩ := hS.mkB [] 5 .grow
  have e : gGrow Tryd.prog BldT 5 [ptr p 0, i64 n] H = some (.tuple #[], put (mkB H [] 5 .grow) p ⟨.pointer none :: .slice none 0 0 :: rest, T, .fix⟩ (ptr p 0 :: sl H.length 0 0 1 :: rest)) := by
    show (blk H p).bind _ = _
    rw [hb]
    simp only [Option.bind_some]
    rw [if_pos ⟨⟨trivial, hT, by simpa using hl⟩, by omega, by omega⟩]
    rfl
  rw [e]
  exact Ev.ret ⟨rfl, H.length, B', ⟨hm⟩, .inr ⟨H.length, rfl, hS'.put (.tail _ (.head _))⟩⟩
theorem bld_size : ([] : List Value).length + 2 = szT Tryd.prog 100 := by
  have : szT Tryd.prog 100 = 2 := by kernel_rfl
  rw [this]; rfl
def tot (ls : List (List UInt8)) : Nat := ls.flatten.length
theorem tot_snoc (ls : List (List UInt8)) (l : List UInt8) : tot (ls ++ [l]) = tot ls + l.length := by simp [tot]
theorem take_snoc {α : Type} {l : List α} {i : Nat} {a : α} (h : l[i]? = some a) : l.take (i + 1) = l.take i ++ [a] := by rw [List.take_add_one, h]; rfl
theorem tot_take {ls : List (List UInt8)} (i : Nat) : tot (ls.take i) ≤ tot ls := by
  conv => rhs; rw [← List.take_append_drop i ls]
  unfold tot
  rw [List.flatten_append, List.length_append]; omega
theorem join_sum {H0 B0 B H : AH} {L : List (Nat × Blk)} [hS : St H0 B0 B L H] {v sep : Value} {ls : List (List UInt8)} (h : ScN B v ls.length 1 (ls.map str)) (ht : tot ls ≤ 140737488355328) (hll : ls.length < 1000000) :
    ∀ (m i : Nat), i + m = ls.length → Ev (fun k n => f65_L0 k v sep (i64 (tot (ls.take i))) v (i64 ls.length) (i64 i) n H) (fun o => o = (.exit 1, f65_X_L0 v sep (i64 (tot ls)), H)) := by
  intro m
  induction m with
  | zero =>
    intro i hi
    refine Ev.succ (fun k n => f65_L0_succ k _ _ _ _ _ _ n H) ?_
    repeat (first | refine Ev.s ?_ | refine Ev.newC fun _ _ _ => ?_ | refine Ev.boxC fun _ _ _ => ?_ | refine Ev.stC fun _ _ => ?_ | refine Ev.sc (by omega) ?_ | refine Ev.scg (by omega) ?_)
    rw [decide_eq_false (by omega)]
    repeat (first | refine Ev.s ?_ | refine Ev.newC fun _ _ _ => ?_ | refine Ev.boxC fun _ _ _ => ?_ | refine Ev.stC fun _ _ => ?_ | refine Ev.sc (by omega) ?_ | refine Ev.scg (by omega) ?_)
    rw [List.take_of_length_le (by omega)]
    exact Ev.ret rfl
  | succ m ih =>
    intro i hi
    refine Ev.succ (fun k n => f65_L0_succ k _ _ _ _ _ _ n H) ?_
    obtain ⟨l, hl⟩ : ∃ l, ls[i]? = some l := ⟨_, List.getElem?_eq_getElem (by omega)⟩
    have hs := tot_snoc (ls.take i) l
    rw [← take_snoc hl] at hs
    have ht2 := tot_take (ls := ls) (i + 1)
    repeat (first | refine Ev.s ?_ | refine Ev.newC fun _ _ _ => ?_ | refine Ev.boxC fun _ _ _ => ?_ | refine Ev.stC fun _ _ => ?_ | refine Ev.sc (by omega) ?_ | refine Ev.scg (by omega) ?_)
    rw [decide_eq_true (by omega)]
    repeat (first | refine Ev.s ?_ | refine Ev.newC fun _ _ _ => ?_ | refine Ev.boxC fun _ _ _ => ?_ | refine Ev.stC fun _ _ => ?_ | refine Ev.sc (by omega) ?_ | refine Ev.scg (by omega) ?_)
    refine Ev.ixN h i rfl (by omega) (by rw [List.getElem?_map, hl]; rfl) fun p hp => ?_
    repeat (first | refine Ev.s ?_ | refine Ev.newC fun _ _ _ => ?_ | refine Ev.boxC fun _ _ _ => ?_ | refine Ev.stC fun _ _ => ?_ | refine Ev.sc (by omega) ?_ | refine Ev.scg (by omega) ?_)
    rw [decide_eq_false (by omega)]
    refine Ev.s ?_
    refine Ev.eq (fun k n => f65_J2_eq k n _ _ _ _ _ _ _ H) ?_
    repeat (first | refine Ev.s ?_ | refine Ev.newC fun _ _ _ => ?_ | refine Ev.boxC fun _ _ _ => ?_ | refine Ev.stC fun _ _ => ?_ | refine Ev.sc (by omega) ?_ | refine Ev.scg (by omega) ?_)
    have := ih (i + 1) (by omega)
    rw [hs] at this
    exact this
theorem join_loop {H0 B0 : AH} {L : List (Nat × Blk)} {p : Nat} {w : Value} {ls : List (List UInt8)} {pre : List UInt8} (hll : ls.length < 1000000) :
    ∀ (m i : Nat) (B H : AH) (v : Value), i + m = ls.length → ScN B w ls.length 1 (ls.map str) → pre.length + tot ls ≤ 140737488355328 → BAcc 5 H0 B0 B ((p, ⟨[ptr p 0, v], 100, .fix⟩) :: L) H v (pre.map UInt8.toNat ++ (ls.take i).flatten.map UInt8.toNat) →
    Ev (fun k n => f65_L1 k (str []) (ptr p 0) w (i64 ls.length) (i64 i) n H) (fun o => ∃ H' B' v', o = (.exit 3, f65_X_L1 (ptr p 0), H') ∧ Mo B B' ∧ BAcc 5 H0 B0 B' ((p, ⟨[ptr p 0, v'], 100, .fix⟩) :: L) H' v' (pre.map UInt8.toNat ++ ls.flatten.map UInt8.toNat)) := by
  have hsz := bld_size
  intro m
  induction m with
  | zero =>
    intro i B H v hi h ht hA
    refine Ev.succ (fun k n => f65_L1_succ k _ _ _ _ _ n H) ?_
    repeat (first | refine Ev.s ?_ | refine Ev.newC fun _ _ _ => ?_ | refine Ev.boxC fun _ _ _ => ?_ | refine Ev.stC fun _ _ => ?_ | refine Ev.sc (by omega) ?_ | refine Ev.scg (by omega) ?_)
    rw [decide_eq_false (by omega)]
    repeat (first | refine Ev.s ?_ | refine Ev.newC fun _ _ _ => ?_ | refine Ev.boxC fun _ _ _ => ?_ | refine Ev.stC fun _ _ => ?_ | refine Ev.sc (by omega) ?_ | refine Ev.scg (by omega) ?_)
    rw [List.take_of_length_le (by omega)] at hA
    exact Ev.ret ⟨H, B, v, rfl, Mo.refl B, hA⟩
  | succ m ih =>
    intro i B H v hi h ht hA
    refine Ev.succ (fun k n => f65_L1_succ k _ _ _ _ _ n H) ?_
    obtain ⟨l, hl⟩ : ∃ l, ls[i]? = some l := ⟨_, List.getElem?_eq_getElem (by omega)⟩
    have hs := tot_snoc (ls.take i) l
    rw [← take_snoc hl] at hs
    have ht2 := tot_take (ls := ls) (i + 1)
    have hSt := hA.st
    repeat (first | refine Ev.s ?_ | refine Ev.newC fun _ _ _ => ?_ | refine Ev.boxC fun _ _ _ => ?_ | refine Ev.stC fun _ _ => ?_ | refine Ev.sc (by omega) ?_ | refine Ev.scg (by omega) ?_)
    rw [decide_eq_true (by omega)]
    repeat (first | refine Ev.s ?_ | refine Ev.newC fun _ _ _ => ?_ | refine Ev.boxC fun _ _ _ => ?_ | refine Ev.stC fun _ _ => ?_ | refine Ev.sc (by omega) ?_ | refine Ev.scg (by omega) ?_)
    refine Ev.ixN h i rfl (by omega) (by rw [List.getElem?_map, hl]; rfl) fun q hq => ?_
    repeat (first | refine Ev.s ?_ | refine Ev.newC fun _ _ _ => ?_ | refine Ev.boxC fun _ _ _ => ?_ | refine Ev.stC fun _ _ => ?_ | refine Ev.sc (by omega) ?_ | refine Ev.scg (by omega) ?_)
    have hlen : (pre.map UInt8.toNat ++ (ls.take i).flatten.map UInt8.toNat).length = pre.length + tot (ls.take i) := by rw [List.length_append, List.length_map, List.length_map]; rfl
    refine Ev.b2 (WriteString_spec (l := []) (T := 100) (rest := []) (.head _) hsz (.inr rfl) (by rw [hlen]; simp; omega) hA) fun v1 H1 h1 => ?_
    obtain ⟨_, v1', B1, hm1, hA1⟩ := h1
    simp only at hA1
    rw [List.map_nil, List.append_nil] at hA1
    refine Ev.b2 (WriteString_spec (l := l) (T := 100) (rest := []) (.head _) hsz (.inr rfl) (by rw [hlen]; omega) hA1) fun v2 H2 h2 => ?_
    obtain ⟨_, v2', B2, hm2, hA2⟩ := h2
    simp only at hA2
    clear hSt hA hA1
    repeat (first | refine Ev.s ?_ | refine Ev.newC fun _ _ _ => ?_ | refine Ev.boxC fun _ _ _ => ?_ | refine Ev.stC fun _ _ => ?_ | refine Ev.sc (by omega) ?_ | refine Ev.scg (by omega) ?_)
    rw [List.append_assoc, ← List.map_append] at hA2
    have e : (ls.take i).flatten ++ l = (ls.take (i + 1)).flatten := by rw [take_snoc hl]; simp
    rw [e] at hA2
    refine (ih (i + 1) B2 H2 v2' (by omega) ((h.mono hm1.mo).mono hm2.mo) ht hA2).mono ?_
    rintro o ⟨H', B', v', q1, q2, q3⟩
    exact ⟨H', B', v', q1, (hm1.mo.trans hm2.mo).trans q2, q3⟩
theorem ofNat_toNat (l : List UInt8) : (l.map UInt8.toNat).map (fun n => UInt8.ofNat n) = l := by
  rw [List.map_map]
  conv => rhs; rw [← List.map_id l]
  apply List.map_congr_left
  intro a _
  simp
theorem Join_spec {B H : AH} {v : Value} {ls : List (List UInt8)} (h : ScN B v ls.length 1 (ls.map str)) (hne : ∀ l ∈ ls, l ≠ []) (ht : tot ls ≤ 140737488355328) (hll : ls.length < 1000000) (hL : Le B H) :
    Ev (fun k _ => rn k 65 [v, str []] H) (An B H fun _ r => r = str ls.flatten) := by
  refine Ev.fn (fun k => f65_eq k _ _ H) ?_
  have hS := St.start hL
  have hlen := h.len (P := Tryd.prog) (t := 78) (by exact Tryd.underlying78)
  have hsz := bld_size
  refine Ev.prim hlen ?_
  repeat (first | refine Ev.s ?_ | refine Ev.newC fun _ _ _ => ?_ | refine Ev.boxC fun _ _ _ => ?_ | refine Ev.stC fun _ _ => ?_ | refine Ev.sc (by omega) ?_ | refine Ev.scg (by omega) ?_)
  match ls, h, hne, ht, hll, hlen with
  | [], h, hne, ht, hll, hlen =>
    rw [decide_eq_true (show ([] : List (List UInt8)).length = 0 from rfl)]
    repeat (first | refine Ev.s ?_ | refine Ev.newC fun _ _ _ => ?_ | refine Ev.boxC fun _ _ _ => ?_ | refine Ev.stC fun _ _ => ?_ | refine Ev.sc (by omega) ?_ | refine Ev.scg (by omega) ?_)
    exact Ev.doneC rfl
  | [l], h, hne, ht, hll, hlen =>
    rw [decide_eq_false (show ¬ [l].length = 0 by simp)]
    repeat (first | refine Ev.s ?_ | refine Ev.newC fun _ _ _ => ?_ | refine Ev.boxC fun _ _ _ => ?_ | refine Ev.stC fun _ _ => ?_ | refine Ev.sc (by omega) ?_ | refine Ev.scg (by omega) ?_)
    refine Ev.ixN h 0 rfl (by simp) rfl fun p hp => ?_
    repeat (first | refine Ev.s ?_ | refine Ev.newC fun _ _ _ => ?_ | refine Ev.boxC fun _ _ _ => ?_ | refine Ev.stC fun _ _ => ?_ | refine Ev.sc (by omega) ?_ | refine Ev.scg (by omega) ?_)
    exact Ev.doneC (by simp)
  | l :: l2 :: r, h, hne, ht, hll, hlen =>
    rw [decide_eq_false (show ¬ (l :: l2 :: r).length = 0 by simp)]
    repeat (first | refine Ev.s ?_ | refine Ev.newC fun _ _ _ => ?_ | refine Ev.boxC fun _ _ _ => ?_ | refine Ev.stC fun _ _ => ?_ | refine Ev.sc (by omega) ?_ | refine Ev.scg (by omega) ?_)
    rw [decide_eq_false (show ¬ (l :: l2 :: r).length = 1 by simp)]
    repeat (first | refine Ev.s ?_ | refine Ev.newC fun _ _ _ => ?_ | refine Ev.boxC fun _ _ _ => ?_ | refine Ev.stC fun _ _ => ?_ | refine Ev.sc (by omega) ?_ | refine Ev.scg (by omega) ?_)
    rw [decide_eq_false (show ¬ 0 < ([] : List UInt8).length by simp)]
    repeat (first | refine Ev.s ?_ | refine Ev.newC fun _ _ _ => ?_ | refine Ev.boxC fun _ _ _ => ?_ | refine Ev.stC fun _ _ => ?_ | refine Ev.sc (by omega) ?_ | refine Ev.scg (by omega) ?_)
    refine Ev.eq (fun k n => f65_J1_eq k _ _ _ H) ?_
    refine Ev.prim hlen ?_
    refine Ev.bind (Ev.loop (join_sum (sep := str []) h ht hll (l :: l2 :: r).length 0 (by omega))) ?_
    rintro _ rfl
    refine Ev.eq (fun k n => f65_A0_x1 k _ _ _ H) ?_
    have hl0 : l ≠ [] := hne l (by simp)
    have hl1 : l.length ≠ 0 := fun e => hl0 (List.length_eq_zero_iff.mp e)
    have htl : tot (l :: l2 :: r) = l.length + tot (l2 :: r) := by simp [tot]
    refine Ev.newC fun p H1 hS1 => ?_
    refine Ev.b2 (Grow_spec (n := tot (l :: l2 :: r)) (T := 100) (rest := []) (.head _) hsz (by omega) ht hS1) fun v2 H2 h2 => ?_
    obtain ⟨_, b2', B2, hm2, hA2⟩ := h2
    simp only at hA2
    have hSt2 := hA2.st
    have h2' := h.mono hm2.mo
    clear hS hS1
    refine Ev.ixN h2' 0 rfl (by simp) rfl fun q hq => ?_
    repeat (first | refine Ev.s ?_ | refine Ev.newC fun _ _ _ => ?_ | refine Ev.boxC fun _ _ _ => ?_ | refine Ev.stC fun _ _ => ?_ | refine Ev.sc (by omega) ?_ | refine Ev.scg (by omega) ?_)
    refine Ev.b2 (WriteString_spec (l := l) (T := 100) (rest := []) (.head _) hsz (.inr rfl) (by simp; omega) hA2) fun v3 H3 h3 => ?_
    obtain ⟨_, v3', B3, hm3, hA3⟩ := h3
    simp only at hA3
    clear hSt2 hA2
    have h3' := h2'.mono hm3.mo
    refine Ev.slcN (z := [.string ByteArray.empty]) (sz := 1) (by_ := 16) h3' 1 (l :: l2 :: r).length rfl rfl (by simp) (Nat.le_refl _) fun w hw => ?_
    have e1 : (l :: l2 :: r).length - 1 = (l2 :: r).length := rfl
    have e2 : (((l :: l2 :: r).map str).drop (1 * 1)).take (((l :: l2 :: r).length - 1) * 1) = (l2 :: r).map str := by
      rw [e1, Nat.mul_one, Nat.mul_one, List.map_cons, List.drop_succ_cons, List.drop_zero, List.take_of_length_le (by simp)]
    rw [e1] at hw
    rw [e1] at e2
    rw [e2] at hw
    refine Ev.prim (hw.len (P := Tryd.prog) (t := 78) (by exact Tryd.underlying78)) ?_
    have hA3' : BAcc 5 H B B3 [(p, ⟨[ptr p 0, v3'], 100, .fix⟩)] H3 v3' (l.map UInt8.toNat ++ ((l2 :: r).take 0).flatten.map UInt8.toNat) := by
      rw [List.take_zero, List.flatten_nil, List.map_nil, List.append_nil]
      rw [List.nil_append] at hA3
      exact hA3
    refine Ev.bind (Ev.loop (join_loop (pre := l) (by simp at hll ⊢; omega) (l2 :: r).length 0 B3 H3 v3' (by omega) hw (by omega) hA3')) ?_
    rintro _ ⟨H4, B4, v4, rfl, hm4, hA4⟩
    refine Ev.eq (fun k n => f65_A1_x3 k _ H4) ?_
    have hlen4 : (l.map UInt8.toNat ++ (l2 :: r).flatten.map UInt8.toNat).length = tot (l :: l2 :: r) := by rw [htl, List.length_append, List.length_map, List.length_map]; rfl
    refine Ev.b2 (String_spec (rest := []) (T := 100) (by rw [hlen4]; exact ht) (by simp [hl0]) hA4) fun v5 H5 h5 => ?_
    obtain ⟨h5, hS5⟩ := h5
    simp only at h5 hS5
    subst h5
    rw [← List.map_append, ofNat_toNat]
    exact Ev.doneC (by simp)
end Go.AM.Z
set_option linter.unusedVariables false
namespace Go.AM
variable {P : Program} {t : TypeId} {a n : Nat} {k : IntKind}
theorem lsubL (h : a ≤ @OfNat.ofNat Nat n (instOfNatNat n) ∧ @OfNat.ofNat Nat n (instOfNatNat n) < 9223372036854775808) : bin P .sub t (.int .i64 (@OfNat.ofNat Int n instOfNat)) (i64 a) = some (i64 (@OfNat.ofNat Nat n (instOfNatNat n) - a)) := subN h
theorem laddQ (h : @OfNat.ofNat Nat n (instOfNatNat n) + a < 18446744073709551616) : bin P .add t (.int .u64 (@OfNat.ofNat Int n instOfNat)) (u64 a) = some (u64 (@OfNat.ofNat Nat n (instOfNatNat n) + a)) := addQ h
theorem laddL (h : @OfNat.ofNat Nat n (instOfNatNat n) + a < 9223372036854775808) : bin P .add t (.int .i64 (@OfNat.ofNat Int n instOfNat)) (i64 a) = some (i64 (@OfNat.ofNat Nat n (instOfNatNat n) + a)) := addN h
instance (priority := 900) : PrimC (bin P .add t (.int .i64 (no_index (@OfNat.ofNat Int n instOfNat))) (i64 a)) (@OfNat.ofNat Nat n (instOfNatNat n) + a < 9223372036854775808) (i64 (@OfNat.ofNat Nat n (instOfNatNat n) + a)) := ⟨laddL⟩
theorem quoQL (h : @OfNat.ofNat Nat n (instOfNatNat n) ≠ 0 ∧ a < 18446744073709551616) : bin P .quo t (u64 a) (.int .u64 (@OfNat.ofNat Int n instOfNat)) = some (u64 (a / @OfNat.ofNat Nat n (instOfNatNat n))) := quoQ h
instance (priority := 900) : PrimC (bin P .sub t (.int .i64 (no_index (@OfNat.ofNat Int n instOfNat))) (i64 a)) (a ≤ @OfNat.ofNat Nat n (instOfNatNat n) ∧ @OfNat.ofNat Nat n (instOfNatNat n) < 9223372036854775808) (i64 (@OfNat.ofNat Nat n (instOfNatNat n) - a)) := ⟨lsubL⟩
instance (priority := 900) : PrimC (bin P .add t (.int .u64 (no_index (@OfNat.ofNat Int n instOfNat))) (u64 a)) (@OfNat.ofNat Nat n (instOfNatNat n) + a < 18446744073709551616) (u64 (@OfNat.ofNat Nat n (instOfNatNat n) + a)) := ⟨laddQ⟩
instance (priority := 900) : PrimC (bin P .quo t (u64 a) (.int .u64 (no_index (@OfNat.ofNat Int n instOfNat)))) (@OfNat.ofNat Nat n (instOfNatNat n) ≠ 0 ∧ a < 18446744073709551616) (u64 (a / @OfNat.ofNat Nat n (instOfNatNat n))) := ⟨quoQL⟩
end Go.AM
namespace Go.AM
variable {P : Program}
/-- Bytes that stand, as a string. -/
theorem ScN.cvS {t d e : TypeId} {H : AH} {v : Value} {n : Nat} {ds : List Nat} [h1 : Und P t (.slice e)] [h2 : Und P d .string] [h3 : Und P e (.int .u8)] (h : ScN H v n 1 (ds.map u8)) : cvS P t d H v = some (str (ds.map fun n => UInt8.ofNat n)) := by
  have hl := h.length
  rw [List.length_map, Nat.mul_one] at hl
  unfold AM.cvS
  rw [h1.eq, h2.eq]
  have hc := h.cells
  rcases h with ⟨rfl, hn, hcs⟩ | ⟨b, off, cap, rfl, hc', hl', hx⟩
  · have : ds = [] := by simpa using hcs
    subst this
    simp only [h3.eq, sliceCells]
    rfl
  · simp only [h3.eq, sl]
    have hc2 : sliceCells 1 H (.slice (some ⟨b, off, none⟩) n cap) n = some (ds.map u8) := hc
    rw [hc2, Option.bind_some, bytesOf_map]; rfl
end Go.AM
namespace Go.AM
variable {P : Program}
theorem neq_str {t : TypeId} {a b : List UInt8} : bin P .neq t (str a) (str b) = some (.bool (decide (a ≠ b))) := by
  have e : binOp .neq t (str a) (str b) = .pure (.bool (decide (a ≠ b))) := by
    show Op.stringOp .neq _ _ = _
    unfold Op.stringOp
    simp only [toList_str]
    show Sem.pure _ = _
    congr 2
    exact Bool.eq_iff_iff.mpr (by simp)
  unfold bin
  rw [if_pos ⟨rfl, rfl, rfl⟩, e]
  rfl
instance {t : TypeId} {a b : List UInt8} : PrimEq (bin P .neq t (str a) (str b)) (.bool (decide (a ≠ b))) := ⟨neq_str⟩
instance (priority := 2000) {t : TypeId} {a : List UInt8} : PrimEq (bin P .neq t (str a) (str a)) (.bool false) := ⟨by rw [neq_str, decide_eq_false (fun h => h rfl)]⟩
end Go.AM
set_option linter.unusedVariables false
set_option linter.unusedSimpArgs false
set_option maxRecDepth 100000
namespace Go.AM.Z
open Go Go.AM Go.Proofs
attribute [local irreducible] run bin un ld st box newV mkS fldA fld ixA ix slc slc3 build buildS cv cvS ap cpy lenV gOp pickV b2 aIf aChk evalK resume iterD Option.bind

abbrev strN (l : List Nat) : Value := str (l.map fun n => UInt8.ofNat n)
/-- Nine digits into a row. -/
theorem dig_loop {H0 B0 B : AH} {L : List (Nat × Blk)} {b : Nat} {x3 x4 x6 : Value} {d : Nat} (hd : d < 18446744073709551616) :
    ∀ (m i : Nat) (H : AH), i + m = 9 → St H0 B0 B ((b, ⟨(List.replicate m 0 ++ ldg d i).map u8, 5, .fix⟩) :: L) H →
    Ev (fun k n => f32_L1 k x3 x4 x6 (u64 (d / 10 ^ i)) (sl b 0 9 9) (i64 9) (i64 i) n H) (fun o => ∃ H', o = (.exit 2, f32_X_L1 x3 x4 x6 (sl b 0 9 9), H') ∧ St H0 B0 B ((b, ⟨(ldg d 9).map u8, 5, .fix⟩) :: L) H') := by
  have hEb : Elt Tryd.prog 76 5 (.int .u8 0) 1 := inferInstance
  intro m
  induction m with
  | zero =>
    intro i H hi hS
    refine Ev.succ (fun k n => f32_L1_succ k _ _ _ _ _ _ _ n H) ?_
    repeat (first | refine Ev.s ?_ | refine Ev.newC fun _ _ _ => ?_ | refine Ev.boxC fun _ _ _ => ?_ | refine Ev.stC fun _ _ => ?_ | refine Ev.sc (by omega) ?_ | refine Ev.scg (by omega) ?_)
    rw [decide_eq_false (by omega)]
    repeat (first | refine Ev.s ?_ | refine Ev.newC fun _ _ _ => ?_ | refine Ev.boxC fun _ _ _ => ?_ | refine Ev.stC fun _ _ => ?_ | refine Ev.sc (by omega) ?_ | refine Ev.scg (by omega) ?_)
    have e : i = 9 := by omega
    subst e
    exact Ev.ret ⟨H, rfl, hS⟩
  | succ m ih =>
    intro i H hi hS
    refine Ev.succ (fun k n => f32_L1_succ k _ _ _ _ _ _ _ n H) ?_
    have hlt : d / 10 ^ i ≤ d := Nat.div_le_self _ _
    generalize hq : d / 10 ^ i = q at *
    have hq2 : q / 10 = d / 10 ^ (i + 1) := by rw [← hq, Nat.div_div_eq_div_mul, Nat.pow_succ]
    refine Ev.prim lssN ?_
    rw [decide_eq_true (by omega)]
    refine Ev.s ?_
    refine Ev.prim (lsubL (by omega)) ?_
    refine Ev.prim (remL (by decide)) ?_
    refine Ev.prim (laddQ (by omega)) ?_
    refine Ev.s ?_
    refine Ev.prim (ixA_own hEb (by omega)) ?_
    rw [Nat.zero_add]
    have hlen : ((List.replicate (m + 1) 0 ++ ldg d i).map u8).length = 9 := by rw [List.length_map, List.length_append, List.length_replicate, ldg_length]; omega
    refine Ev.st hS (.head _) (stK_own hEb (by rw [hlen]; omega) rfl) (by intro h; cases h) (.head _) fun H1 hS1 => ?_
    clear hS
    refine Ev.prim (quoQL (by omega)) ?_
    rw [hq2]
    refine Ev.prim (addL (by omega)) ?_
    have e : (((List.replicate (m + 1) 0 ++ ldg d i).map u8).set (8 - i) (u8 ((48 + q % 10) % 256))) = (List.replicate m 0 ++ ldg d (i + 1)).map u8 := by
      rw [ldg_cons, hq, Nat.mod_eq_of_lt (by omega), show 8 - i = m by omega, ← List.map_set]
      congr 1
      rw [List.replicate_succ', List.append_assoc, List.set_append_right _ _ (by simp)]
      simp
    rw [e] at hS1
    exact ih (i + 1) H1 (by omega) hS1
end Go.AM.Z
set_option linter.unusedVariables false
set_option linter.unusedSimpArgs false
set_option maxRecDepth 100000
namespace Go.AM.Z
open Go Go.AM Go.Proofs
attribute [local irreducible] run bin un ld st box newV mkS fldA fld ixA ix slc slc3 build buildS cv cvS ap cpy lenV gOp pickV b2 aIf aChk evalK resume iterD Option.bind

theorem limbs_pos {m : Nat} : 0 < (limbs m).length ↔ m ≠ 0 := by rw [Nat.pos_iff_ne_zero, ne_eq, List.length_eq_zero_iff, limbs_eq_nil]
theorem text_loop {H0 B0 : AH} {L : List (Nat × Blk)} {x3 : Value} {M : Nat} (hM : M < 1000000000 ^ 50) :
    ∀ (m : Nat) (P : List (List Nat)) (v4 v5 : Value) (B H : AH), P ++ chk m = chk M → m < 1000000000 ^ 50 → RdN B v5 (limbs m) → GAcc 9 1 H0 B0 B L H v4 P.length (P.map strN) →
    Ev (fun k n => f32_L0 k x3 v4 v5 n H) (fun o => ∃ v' B' H', o = (.exit 0, f32_X_L0 x3 v', H') ∧ Mo B B' ∧ GAcc 9 1 H0 B0 B' L H' v' (chk M).length ((chk M).map strN)) := by
  have hML := chk_len 50 M hM
  intro m
  induction m using Nat.strongRecOn with
  | _ m ih =>
    intro P v4 v5 B H hP hm hr hA
    refine Ev.succ (fun k n => f32_L0_succ k _ _ _ n H) ?_
    obtain ⟨Lx, hSx, back, _⟩ := hA.split
    refine Ev.prim (hr.lenN Ew) ?_
    repeat (first | refine Ev.s ?_ | refine Ev.newC fun _ _ _ => ?_ | refine Ev.boxC fun _ _ _ => ?_ | refine Ev.stC fun _ _ => ?_ | refine Ev.sc (by omega) ?_ | refine Ev.scg (by omega) ?_)
    by_cases h0 : m = 0
    · subst h0
      rw [decide_eq_false (by rw [limbs_zero]; simp)]
      repeat (first | refine Ev.s ?_ | refine Ev.newC fun _ _ _ => ?_ | refine Ev.boxC fun _ _ _ => ?_ | refine Ev.stC fun _ _ => ?_ | refine Ev.sc (by omega) ?_ | refine Ev.scg (by omega) ?_)
      rw [chk_zero, List.append_nil] at hP
      subst hP
      exact Ev.ret ⟨v4, B, H, rfl, Mo.refl B, hA⟩
    · rw [decide_eq_true (limbs_pos.mpr h0)]
      have hlm : (limbs m).length ≤ 60 := limbs_length_le (Nat.lt_trans hm (by decide))
      have hl9 : (limbs 1000000000).length ≤ 1 := limbs_length_le (k := 1) (by decide)
      repeat (first | refine Ev.s ?_ | refine Ev.newC fun _ _ _ => ?_ | refine Ev.boxC fun _ _ _ => ?_ | refine Ev.stC fun _ _ => ?_ | refine Ev.sc (by omega) ?_ | refine Ev.scg (by omega) ?_)
      refine Ev.callD (From_spec (n := 1000000000) (by decide)) fun v14 B1 H1 hm1 hS1 h1 => ?_
      refine Ev.callD (DivMod_spec (xs := limbs m) (ys := limbs 1000000000) RdT.rd RdT.rd (by omega) (by omega) (by rw [val_limbs]; decide)) fun v15 B2 H2 hm2 hS2 h2 => ?_
      obtain ⟨q, r, rfl, hq, hrr⟩ := h2
      rw [val_limbs, val_limbs] at hq hrr
      have hlt : m % 1000000000 < 1000000000 := Nat.mod_lt _ (by decide)
      have hlr := limbs_length_mono (Nat.le_of_lt hlt)
      repeat (first | refine Ev.s ?_ | refine Ev.newC fun _ _ _ => ?_ | refine Ev.boxC fun _ _ _ => ?_ | refine Ev.stC fun _ _ => ?_ | refine Ev.sc (by omega) ?_ | refine Ev.scg (by omega) ?_)
      refine Ev.callU (Small_spec (xs := limbs (m % 1000000000)) (by omega) hrr (St.lel (by assumption))) ?_
      rintro _ rfl
      rw [val_limbs, if_pos (by omega)]
      repeat (first | refine Ev.s ?_ | refine Ev.newC fun _ _ _ => ?_ | refine Ev.boxC fun _ _ _ => ?_ | refine Ev.stC fun _ _ => ?_ | refine Ev.sc (by omega) ?_ | refine Ev.scg (by omega) ?_)
      refine Ev.mkS (z := .int .u8 0) (sz := 1) (m := 9) inferInstance hS2 (by decide) (by decide) fun bo B3 H3 hm3 hS3 => ?_
      have e0 : List.replicate 9 (Value.int .u8 0) = (List.replicate 9 0 ++ ldg (m % 1000000000) 0).map u8 := by
        rw [ldg, List.append_nil, List.map_replicate]; rfl
      rw [e0] at hS3
      repeat (first | refine Ev.s ?_ | refine Ev.newC fun _ _ _ => ?_ | refine Ev.boxC fun _ _ _ => ?_ | refine Ev.stC fun _ _ => ?_ | refine Ev.sc (by omega) ?_ | refine Ev.scg (by omega) ?_)
      have hd := dig_loop (x3 := x3) (x4 := v4) (x6 := q) (d := m % 1000000000) (by omega) 9 0 H3 rfl hS3
      rw [Nat.pow_zero, Nat.div_one] at hd
      refine Ev.bind (Ev.loop hd) ?_
      rintro _ ⟨H4, rfl, hS4⟩
      refine Ev.eq (fun k n => f32_A1_x2 k n _ _ _ _ H4) ?_
      refine Ev.prim (cvS_own (ds := ldg (m % 1000000000) 9) (rest := []) (by rw [List.append_nil]; exact hS4) (.head _) (ldg_length _ _).symm) ?_
      have hmo : Mo B B3 := (hm1.mo.trans hm2.mo).trans hm3
      have hA4 := back B3 H4 hS4.drop1
      have hPl : P.length + 1 ≤ 50 := by
        have := congrArg List.length hP
        rw [List.length_append, chk_pos h0, List.length_cons] at this
        omega
      refine hA4.push (z := [.string ByteArray.empty]) (by_ := 16) rfl rfl rfl rfl (by decide) (by omega) fun v5' B5 H5 hm5 hA5 => ?_
      have hq5 : RdN B5 q (limbs (m / 1000000000)) := (hq.mono hm3).mono hm5.mo
      have hP' : (P ++ [ldg (m % 1000000000) 9]) ++ chk (m / 1000000000) = chk M := by rw [← hP, chk_pos h0]; simp
      have hA5' : GAcc 9 1 H0 B0 B5 L H5 v5' (P ++ [ldg (m % 1000000000) 9]).length ((P ++ [ldg (m % 1000000000) 9]).map strN) := by
        rw [List.length_append, List.map_append]; exact hA5
      refine (ih (m / 1000000000) (by omega) _ v5' q B5 H5 hP' (Nat.lt_of_le_of_lt (Nat.div_le_self _ _) hm) hq5 hA5').mono ?_
      rintro o ⟨v', B', H', q1, q2, q3⟩
      exact ⟨v', B', H', q1, (hmo.trans hm5.mo).trans q2, q3⟩
def textN (z : Int) : List Nat := if z < 0 then 45 :: txt z.natAbs else txt z.natAbs
theorem dropU (l : List Nat) (h : ∀ d ∈ l, d < 256) : (l.map fun n => UInt8.ofNat n).dropWhile (fun b => b.toNat == 48) = (l.dropWhile (· == 48)).map fun n => UInt8.ofNat n := by
  induction l with
  | nil => rfl
  | cons a l ih =>
    have ha := h a (by simp)
    have ha2 : (UInt8.ofNat a).toNat = a := by rw [UInt8.toNat_ofNat']; omega
    rw [List.map_cons, List.dropWhile_cons, List.dropWhile_cons, ha2]
    by_cases hc : (a == 48) = true
    · rw [if_pos hc, if_pos hc]; exact ih fun d hd => h d (by simp [hd])
    · rw [if_neg hc, if_neg hc]; rfl
theorem chk_nil {n : Nat} (h : n ≠ 0) : chk n ≠ [] := by rw [chk_pos h]; simp
theorem chk_byte {n : Nat} : ∀ l ∈ chk n, ∀ d ∈ l, d < 256 := by
  induction n using Nat.strongRecOn with
  | _ n ih =>
    by_cases h : n = 0
    · subst h; rw [chk_zero]; simp
    · rw [chk_pos h]
      intro l hl d hd
      rcases List.mem_cons.mp hl with rfl | hl
      · have := ldg_byte _ d hd; omega
      · exact ih _ (by omega) l hl d hd
theorem zText_spec {B H : AH} {xs : List Nat} {m : Value} {neg : Bool} (hm : xs.length < 1000000) (hv : val xs < 1000000000 ^ 50) [ha : RdT B m xs] (hL : Le B H) :
    Ev (fun k _ => rn k 32 [.agg #[.bool neg, m]] H) (An B H fun _ v => v = strN (textN (sg neg (val xs)))) := by
  refine Ev.fn (fun k => f32_eq k _ H) ?_
  have hS := St.start hL
  have ha := ha.rd
  have hlx := limbs_length_le (val_lt ha.sm)
  repeat (first | refine Ev.s ?_ | refine Ev.newC fun _ _ _ => ?_ | refine Ev.boxC fun _ _ _ => ?_ | refine Ev.stC fun _ _ => ?_ | refine Ev.sc (by omega) ?_ | refine Ev.scg (by omega) ?_)
  refine Ev.callD (of_spec (xs := xs) (by omega) RdT.rd) fun v1 B1 H1 hm1 hS1 h1 => ?_
  obtain ⟨w, rfl, hw⟩ := h1
  repeat (first | refine Ev.s ?_ | refine Ev.newC fun _ _ _ => ?_ | refine Ev.boxC fun _ _ _ => ?_ | refine Ev.stC fun _ _ => ?_ | refine Ev.sc (by omega) ?_ | refine Ev.scg (by omega) ?_)
  refine Ev.callD (zero_spec (xs := limbs (val xs)) (by omega) hw) fun v2 B2 H2 hm2 hS2 h2 => ?_
  subst h2
  by_cases h0 : val xs = 0
  · rw [h0, limbs_zero, decide_eq_true (show ([] : List Nat).length = 0 from rfl)]
    repeat (first | refine Ev.s ?_ | refine Ev.newC fun _ _ _ => ?_ | refine Ev.boxC fun _ _ _ => ?_ | refine Ev.stC fun _ _ => ?_ | refine Ev.sc (by omega) ?_ | refine Ev.scg (by omega) ?_)
    refine Ev.doneC ?_
    have : sg neg 0 = 0 := by cases neg <;> rfl
    rw [this]; rfl
  · rw [decide_eq_false (show ¬ (limbs (val xs)).length = 0 from fun e => h0 (limbs_eq_nil.mp (List.length_eq_zero_iff.mp e)))]
    repeat (first | refine Ev.s ?_ | refine Ev.newC fun _ _ _ => ?_ | refine Ev.boxC fun _ _ _ => ?_ | refine Ev.stC fun _ _ => ?_ | refine Ev.sc (by omega) ?_ | refine Ev.scg (by omega) ?_)
    have hw2 : RdN B2 w (limbs (val xs)) := RdT.rd
    have hS2' := hS2
    refine Ev.bind (Ev.loop (text_loop hv (val xs) [] _ w B2 _ rfl hv hw2 (GAcc.nil (by assumption)))) ?_
    rintro _ ⟨v3, B3, H3, rfl, hm3, hA3⟩
    refine Ev.eq (fun k _ => f32_A0_x0 k _ _ H3) ?_
    have hne := chk_nil h0
    have hlen := chk_len 50 (val xs) hv
    rcases hA3 with ⟨hz, _⟩ | ⟨_, hcl, b, kd, cap, rfl, hkc, hS3⟩
    · exact absurd (List.length_eq_zero_iff.mp hz) hne
    have hrv := rev_spec (cap := cap) (by rcases hkc with ⟨h, _⟩ | ⟨h, _⟩ <;> rw [h] <;> intro hh <;> cases hh) (cs := (chk (val xs)).map strN) (fun v hv => by
      obtain ⟨l, _, rfl⟩ := List.mem_map.mp hv; rfl) (by rw [List.length_map]; omega) hS3
    rw [List.length_map] at hrv
    refine Ev.callS hrv fun v4 B4 H4 hm4 hS4 h4 => ?_
    subst h4
    have hA4 : GAcc 9 1 H B B4 _ H4 (sl b 0 (chk (val xs)).length cap) (chk (val xs)).length (((chk (val xs)).map strN).reverse) := .inr ⟨by rw [ne_eq, List.length_eq_zero_iff]; exact hne, by simp, b, kd, cap, rfl, hkc, hS4⟩
    obtain ⟨B5, hm5, hs5, hS5⟩ := hA4.freeze
    have e1 : ((chk (val xs)).map strN).reverse = ((chk (val xs)).reverse.map fun l => l.map fun n => UInt8.ofNat n).map str := by
      rw [← List.map_reverse, List.map_map]; rfl
    rw [e1] at hs5
    have e2 : (chk (val xs)).length = ((chk (val xs)).reverse.map fun l => l.map fun n => UInt8.ofNat n).length := by simp
    rw [e2] at hs5
    have hflat : ((chk (val xs)).reverse.map fun l => l.map fun n => UInt8.ofNat n).flatten = ((chk (val xs)).reverse.flatten).map fun n => UInt8.ofNat n := List.map_flatten.symm
    have htot : tot ((chk (val xs)).reverse.map fun l => l.map fun n => UInt8.ofNat n) ≤ 450 := by
      unfold tot
      rw [hflat, List.length_map]
      have : ∀ l : List (List Nat), (∀ x ∈ l, x.length = 9) → l.flatten.length = 9 * l.length := by
        intro l
        induction l with
        | nil => intro _; rfl
        | cons a l ih => intro h; rw [List.flatten_cons, List.length_append, ih fun x hx => h x (by simp [hx]), h a (by simp), List.length_cons]; omega
      rw [this _ (fun x hx => chk_all x (List.mem_reverse.mp hx)), List.length_reverse]; omega
    rw [e2]
    have hstr : (.string ⟨#[]⟩ : Value) = str [] := rfl
    rw [hstr]
    refine Ev.callD (Join_spec hs5 (fun l hl => ?_) (by omega) (by rw [← e2]; omega)) fun v6 B6 H6 hm6 hS6 h6 => ?_
    · obtain ⟨x, hx, rfl⟩ := List.mem_map.mp hl
      have := chk_all x (List.mem_reverse.mp hx)
      intro e
      have e := congrArg List.length e
      simp at e
      rw [e] at this; simp at this
    subst h6
    have hstr2 : (.string ⟨#[48]⟩ : Value) = str [48] := rfl
    rw [hstr2]
    refine Ev.callP (trimL_spec (by decide) (by have := htot; unfold tot at this; omega)) ?_
    have h48 : (48 : UInt8).toNat = 48 := rfl
    rw [h48, hflat, dropU _ (fun d hd => by
      obtain ⟨l, hl, hd⟩ := List.mem_flatten.mp hd
      exact chk_byte l (List.mem_reverse.mp hl) d hd), chk_trim]
    have hneg := sg_neg (neg := neg) (n := val xs)
    have hab := sg_abs (neg := neg) (n := val xs)
    have hdl : (dg (val xs)).length ≤ 450 := by
      have h1 : (dg (val xs)).length ≤ ((chk (val xs)).reverse.flatten).length := by
        rw [← chk_trim]; exact (List.dropWhile_sublist _).length_le
      have h2 := htot
      unfold tot at h2
      rw [hflat, List.length_map] at h2
      omega
    repeat (first | refine Ev.s ?_ | refine Ev.newC fun _ _ _ => ?_ | refine Ev.boxC fun _ _ _ => ?_ | refine Ev.stC fun _ _ => ?_ | refine Ev.sc (by omega) ?_ | refine Ev.scg (by omega) ?_)
    rw [hneg]
    by_cases hz : sg neg (val xs) < 0
    · rw [decide_eq_true hz]
      repeat (first | refine Ev.s ?_ | refine Ev.newC fun _ _ _ => ?_ | refine Ev.boxC fun _ _ _ => ?_ | refine Ev.stC fun _ _ => ?_ | refine Ev.sc (by omega) ?_ | refine Ev.scg (by omega) ?_)
      have hstr3 : (.string ⟨#[45]⟩ : Value) = str [45] := rfl
      rw [hstr3]
      refine Ev.prim (add_str (by rw [List.length_map]; simp; omega)) ?_
      refine Ev.doneC ?_
      unfold textN txt
      rw [if_pos hz, hab, if_neg h0]; rfl
    · rw [decide_eq_false hz]
      repeat (first | refine Ev.s ?_ | refine Ev.newC fun _ _ _ => ?_ | refine Ev.boxC fun _ _ _ => ?_ | refine Ev.stC fun _ _ => ?_ | refine Ev.sc (by omega) ?_ | refine Ev.scg (by omega) ?_)
      refine Ev.doneC ?_
      unfold textN txt
      rw [if_neg hz, hab, if_neg h0]
end Go.AM.Z
set_option linter.unusedVariables false
namespace Go.AM
/-- It is so as it stands: M is not even, or it is nought. -/
structure Odd (A e : Int) : Prop where
  z : dz (canon A e) = A
  e : (canon A e).e = e
theorem Odd.of {d : Dy} (h : rightD d = true) (hs : small d.mag) : Odd (dz d) d.e := ⟨by rw [canon_right h hs], by rw [canon_right h hs]⟩
theorem Odd.neg {A e : Int} (h : Odd A e) : (canon A e).neg = decide (A < 0) := canon_neg
theorem Odd.val {A e : Int} (h : Odd A e) : val (canon A e).mag = A.natAbs := by
  have := congrArg Int.natAbs h.z
  unfold dz at this; rwa [sg_abs] at this
theorem Odd.zero : Odd 0 0 := ⟨rfl, rfl⟩
end Go.AM
set_option linter.unusedVariables false
set_option linter.unusedSimpArgs false
set_option maxRecDepth 100000
namespace Go.AM.Z
open Go Go.AM Go.Proofs
attribute [local irreducible] run bin un ld st box newV mkS fldA fld ixA ix slc slc3 build buildS cv cvS ap cpy lenV gOp pickV b2 aIf aChk evalK resume iterD Option.bind

section
variable {B H : AH} {X Y E F : Int} {m m2 : Value}
end
end Go.AM.Z
set_option linter.unusedVariables false
set_option linter.unusedSimpArgs false
set_option maxRecDepth 100000
namespace Go.AM.Z
open Go Go.AM Go.Proofs
attribute [local irreducible] run bin un ld st box newV mkS fldA fld ixA ix slc slc3 build buildS cv cvS ap cpy lenV gOp pickV b2 aIf aChk evalK resume iterD Option.bind

end Go.AM.Z
set_option linter.unusedVariables false
set_option linter.unusedSimpArgs false
set_option maxRecDepth 100000
namespace Go.AM.Z
open Go Go.AM Go.Proofs
attribute [local irreducible] run bin un ld st box newV mkS fldA fld ixA ix slc slc3 build buildS cv cvS ap cpy lenV gOp pickV b2 aIf aChk evalK resume iterD Option.bind

section
variable {B H : AH} {X E : Int} {m : Value}
end
end Go.AM.Z
set_option linter.unusedVariables false
set_option linter.unusedSimpArgs false
set_option maxRecDepth 100000
namespace Go.AM.Z
open Go Go.AM Go.Proofs
attribute [local irreducible] run bin un ld st box newV mkS fldA fld ixA ix slc slc3 build buildS cv cvS ap cpy lenV gOp pickV b2 aIf aChk evalK resume iterD Option.bind

end Go.AM.Z
set_option linter.unusedVariables false
set_option linter.unusedSimpArgs false
namespace Go.AM
def le4 (d : Nat) : List Nat := [d % 256, d / 2 ^ 8 % 256, d / 2 ^ 16 % 256, d / 2 ^ 24 % 256]
def byN (xs : List Nat) : List Nat := xs.flatMap le4
def hdN (neg : Bool) (c : Nat) : Nat := 2 * c + (if neg then 1 else 0)
def enc (neg : Bool) (xs : List Nat) : List UInt8 := [UInt8.ofNat (hdN neg xs.length / 256 % 256), UInt8.ofNat (hdN neg xs.length % 256)] ++ (byN xs).map fun n => UInt8.ofNat n
theorem byN_length (xs : List Nat) : (byN xs).length = 4 * xs.length := by
  induction xs with
  | nil => rfl
  | cons x xs ih =>
    show ([_, _, _, _] ++ byN xs).length = _
    simp only [List.length_append, ih, List.length_cons, List.length_nil]
    omega
end Go.AM
set_option linter.unusedVariables false
set_option linter.unusedSimpArgs false
set_option maxRecDepth 100000
namespace Go.AM.Z
open Go Go.AM Go.Proofs
attribute [local irreducible] run bin un ld st box newV mkS fldA fld ixA ix slc slc3 build buildS cv cvS ap cpy lenV gOp pickV b2 aIf aChk evalK resume iterD Option.bind

theorem byN_snoc {xs : List Nat} {i : Nat} (h : i < xs.length) : byN (xs.take (i + 1)) = byN (xs.take i) ++ le4 (xs.getD i 0) := by
  have e : xs.take (i + 1) = xs.take i ++ [xs.getD i 0] := by
    rw [List.take_add_one, List.getD_eq_getElem?_getD, List.getElem?_eq_getElem h]; rfl
  rw [e]
  unfold byN
  rw [List.flatMap_append]
  simp
theorem spl_room {pre d : List Nat} {k : Nat} (hd : d.length = 4) : spl ((pre ++ List.replicate (k + 4) 0).map u8) pre.length (d.map u8) = ((pre ++ d) ++ List.replicate k 0).map u8 := by
  unfold spl
  have e1 : (List.map u8 (pre ++ List.replicate (k + 4) 0)).take pre.length = pre.map u8 := by
    rw [← List.map_take, List.take_left]
  have e2 : (List.map u8 (pre ++ List.replicate (k + 4) 0)).drop (pre.length + (d.map u8).length) = (List.replicate k 0).map u8 := by
    rw [← List.map_drop, List.length_map, hd, List.drop_append, List.drop_replicate]
    simp
  rw [e1, e2]
  simp
theorem bytes_loop {H0 B0 B : AH} {xs : List Nat} {a : Value} {bo n : Nat} (ha : RdN B a xs) (hn : n = xs.length) (hl : xs.length ≤ 100000) :
    ∀ (m i : Nat) (H : AH), i + m = n → St H0 B0 B [(bo, ⟨(byN (xs.take i) ++ List.replicate (4 * m) 0).map u8, 5, .fix⟩)] H →
    Ev (fun k l => f61_L0 k (sl bo 0 (4 * i) (4 * n)) a (i64 n) (i64 i) l H) (fun o => ∃ H', o = (.exit 0, f61_X_L0 (sl bo 0 (4 * n) (4 * n)), H') ∧ St H0 B0 B [(bo, ⟨(byN xs ++ []).map u8, 5, .fix⟩)] H') := by
  intro m
  induction m with
  | zero =>
    intro i H hi hS
    refine Ev.succ (fun k l => f61_L0_succ k _ _ _ _ l H) ?_
    repeat (first | refine Ev.s ?_ | refine Ev.newC fun _ _ _ => ?_ | refine Ev.boxC fun _ _ _ => ?_ | refine Ev.stC fun _ _ => ?_ | refine Ev.sc (by omega) ?_ | refine Ev.scg (by omega) ?_)
    rw [decide_eq_false (by omega)]
    repeat (first | refine Ev.s ?_ | refine Ev.newC fun _ _ _ => ?_ | refine Ev.boxC fun _ _ _ => ?_ | refine Ev.stC fun _ _ => ?_ | refine Ev.sc (by omega) ?_ | refine Ev.scg (by omega) ?_)
    have e : i = n := by omega
    subst e
    rw [List.take_of_length_le (by omega)] at hS
    exact Ev.ret ⟨H, rfl, hS⟩
  | succ m ih =>
    intro i H hi hS
    refine Ev.succ (fun k l => f61_L0_succ k _ _ _ _ l H) ?_
    have hpl : (byN (xs.take i)).length = 4 * i := by rw [byN_length, List.length_take]; omega
    repeat (first | refine Ev.s ?_ | refine Ev.newC fun _ _ _ => ?_ | refine Ev.boxC fun _ _ _ => ?_ | refine Ev.stC fun _ _ => ?_ | refine Ev.sc (by omega) ?_ | refine Ev.scg (by omega) ?_)
    rw [decide_eq_true (by omega)]
    repeat (first | refine Ev.s ?_ | refine Ev.newC fun _ _ _ => ?_ | refine Ev.boxC fun _ _ _ => ?_ | refine Ev.stC fun _ _ => ?_ | refine Ev.sc (by omega) ?_ | refine Ev.scg (by omega) ?_)
    refine Ev.ixC i rfl (by omega) fun p hp => ?_
    repeat (first | refine Ev.s ?_ | refine Ev.newC fun _ _ _ => ?_ | refine Ev.boxC fun _ _ _ => ?_ | refine Ev.stC fun _ _ => ?_ | refine Ev.sc (by omega) ?_ | refine Ev.scg (by omega) ?_)
    refine Ev.prim (shrL (by decide)) ?_
    repeat (first | refine Ev.s ?_ | refine Ev.newC fun _ _ _ => ?_ | refine Ev.boxC fun _ _ _ => ?_ | refine Ev.stC fun _ _ => ?_ | refine Ev.sc (by omega) ?_ | refine Ev.scg (by omega) ?_)
    refine Ev.prim (shrL (by decide)) ?_
    repeat (first | refine Ev.s ?_ | refine Ev.newC fun _ _ _ => ?_ | refine Ev.boxC fun _ _ _ => ?_ | refine Ev.stC fun _ _ => ?_ | refine Ev.sc (by omega) ?_ | refine Ev.scg (by omega) ?_)
    refine Ev.prim (shrL (by decide)) ?_
    repeat (first | refine Ev.s ?_ | refine Ev.newC fun _ _ _ => ?_ | refine Ev.boxC fun _ _ _ => ?_ | refine Ev.stC fun _ _ => ?_ | refine Ev.sc (by omega) ?_ | refine Ev.scg (by omega) ?_)
    refine Ev.bsC (by decide) fun bw H1 hS1 => ?_
    have hx : Sc H1 (sl bw 0 4 4) ((le4 (xs.getD i 0)).map u8) := hS1.sc (.head _) (Nat.le_refl 4)
    have hsp := spl_room (pre := byN (xs.take i)) (d := le4 (xs.getD i 0)) (k := 4 * m) rfl
    rw [show 4 * m + 4 = 4 * (m + 1) by omega, hpl] at hsp
    have hlen : ((byN (xs.take i) ++ List.replicate (4 * (m + 1)) 0).map u8).length = 4 * i + 4 * (m + 1) := by rw [List.length_map, List.length_append, hpl, List.length_replicate]
    have hl4 : ((le4 (xs.getD i 0)).map u8).length = 4 := rfl
    have hEb : Elt Tryd.prog 76 5 (.int .u8 0) 1 := inferInstance
    refine Ev.apRoom (b := bo) (cap := 4 * n) (n := 4 * i) (cs := (byN (xs.take i) ++ List.replicate (4 * (m + 1)) 0).map u8) (ds := (le4 (xs.getD i 0)).map u8) hEb hEb.U hS1 (.tail _ (.head _)) hx rfl (by intro h; cases h) (by rw [hl4]; omega) (by rw [hl4, hlen]; omega) ⟨by rw [hl4]; omega, by rw [hl4]; omega⟩ (.tail _ (.head _)) fun H2 hS2 => ?_
    rw [hsp, ← byN_snoc (by omega)] at hS2
    rw [hl4, show 4 * i + 4 = 4 * (i + 1) by omega]
    have hS3 := hS2.drop1
    clear hS2
    repeat (first | refine Ev.s ?_ | refine Ev.newC fun _ _ _ => ?_ | refine Ev.boxC fun _ _ _ => ?_ | refine Ev.stC fun _ _ => ?_ | refine Ev.sc (by omega) ?_ | refine Ev.scg (by omega) ?_)
    exact ih (i + 1) H2 (by omega) hS3
theorem bytes_spec {B H : AH} {xs : List Nat} {a : Value} (hl : xs.length ≤ 100000) [ha : RdT B a xs] (hL : Le B H) :
    Ev (fun k _ => rn k 61 [a] H) (An B H fun _ v => v = str ((byN xs).map fun n => UInt8.ofNat n)) := by
  refine Ev.fn (fun k => f61_eq k _ H) ?_
  have hS := St.start hL
  have ha := ha.rd
  repeat (first | refine Ev.s ?_ | refine Ev.newC fun _ _ _ => ?_ | refine Ev.boxC fun _ _ _ => ?_ | refine Ev.stC fun _ _ => ?_ | refine Ev.sc (by omega) ?_ | refine Ev.scg (by omega) ?_)
  refine Ev.mkCap (z := .int .u8 0) (sz := 1) inferInstance hS (by omega) (by omega) fun bo B1 H1 hm1 hS1 => ?_
  have ha1 := ha.mono hm1
  have e0 : List.replicate (4 * xs.length) (Value.int .u8 0) = (byN (xs.take 0) ++ List.replicate (4 * xs.length) 0).map u8 := by
    show _ = (List.replicate _ 0).map u8
    rw [List.map_replicate]; rfl
  rw [e0] at hS1
  repeat (first | refine Ev.s ?_ | refine Ev.newC fun _ _ _ => ?_ | refine Ev.boxC fun _ _ _ => ?_ | refine Ev.stC fun _ _ => ?_ | refine Ev.sc (by omega) ?_ | refine Ev.scg (by omega) ?_)
  refine Ev.bind (Ev.loop (bytes_loop ha1 rfl hl xs.length 0 H1 (by omega) hS1)) ?_
  rintro _ ⟨H2, rfl, hS2⟩
  refine Ev.eq (fun k _ => f61_A0_x0 k _ _) ?_
  refine Ev.prim (cvS_own (ds := byN xs) (rest := []) hS2 (.head _) (byN_length xs).symm) ?_
  exact Ev.doneC rfl
end Go.AM.Z
set_option linter.unusedVariables false
set_option linter.unusedSimpArgs false
set_option maxRecDepth 100000
namespace Go.AM.Z
open Go Go.AM Go.Proofs
attribute [local irreducible] run bin un ld st box newV mkS fldA fld ixA ix slc slc3 build buildS cv cvS ap cpy lenV gOp pickV b2 aIf aChk evalK resume iterD Option.bind

theorem zBytes_spec {B H : AH} {xs : List Nat} {m : Value} {neg : Bool} (hr : rightI neg xs = true) (hl : xs.length ≤ 400) [ha : RdT B m xs] (hL : Le B H) :
    Ev (fun k _ => rn k 28 [.agg #[.bool neg, m]] H) (An B H fun _ v => v = .tuple #[str (enc neg xs), .int .i64 0]) := by
  refine Ev.fn (fun k => f28_eq k _ H) ?_
  have hS := St.start hL
  have ha := ha.rd
  have fin : ∀ (b1 n : Nat) (B1 H1 : AH), n = hdN neg xs.length → St H B B1 [(b1, ⟨[.bool neg, m], 24, .fix⟩)] H1 → RdN B1 m xs →
      Ev (fun k _ => f28_J0 k (ptr b1 0) (i64 n) H1) (An B H fun _ v => v = .tuple #[str (enc neg xs), .int .i64 0]) := by
    intro b1 n B1 H1 hn hS1 hm
    refine Ev.eq (fun k _ => f28_J0_eq k _ _ _) ?_
    have hn2 : n < 1000 := by rw [hn]; unfold hdN; split <;> omega
    refine Ev.prim (shrL (by decide)) ?_
    repeat (first | refine Ev.s ?_ | refine Ev.newC fun _ _ _ => ?_ | refine Ev.boxC fun _ _ _ => ?_ | refine Ev.stC fun _ _ => ?_ | refine Ev.sc (by omega) ?_ | refine Ev.scg (by omega) ?_)
    refine Ev.bsL (by decide) fun H2 hS2 => ?_
    refine Ev.prim (cvS_own (ds := [n / 2 ^ 8 % 256, n % 256]) (rest := []) hS2 (.head _) rfl) ?_
    repeat (first | refine Ev.s ?_ | refine Ev.newC fun _ _ _ => ?_ | refine Ev.boxC fun _ _ _ => ?_ | refine Ev.stC fun _ _ => ?_ | refine Ev.sc (by omega) ?_ | refine Ev.scg (by omega) ?_)
    refine Ev.callD (bytes_spec (xs := xs) (by omega)) fun v3 B3 H3 hm3 hS3 h3 => ?_
    subst h3
    refine Ev.chk (cvS_own (ds := [n / 2 ^ 8 % 256, n % 256]) (rest := []) hS3 (.head _) rfl) ?_
    refine Ev.chk ((hS3.get (.head _)).trans (hS2.get (.head _)).symm) ?_
    refine Ev.prim (add_str (by rw [List.length_map, List.length_map, byN_length]; show 2 + _ ≤ _; omega)) ?_
    refine Ev.doneC ?_
    rw [hn]
    rfl
  repeat (first | refine Ev.s ?_ | refine Ev.newC fun _ _ _ => ?_ | refine Ev.boxC fun _ _ _ => ?_ | refine Ev.stC fun _ _ => ?_ | refine Ev.sc (by omega) ?_ | refine Ev.scg (by omega) ?_)
  refine Ev.callD (Right_spec (xs := xs) (by omega) (by assumption)) fun v1 B1 H1 hm1 hS1 e1 => ?_
  subst e1
  have hm := ha.mono hm1.mo
  rw [hr]
  repeat (first | refine Ev.s ?_ | refine Ev.newC fun _ _ _ => ?_ | refine Ev.boxC fun _ _ _ => ?_ | refine Ev.stC fun _ _ => ?_ | refine Ev.sc (by omega) ?_ | refine Ev.scg (by omega) ?_)
  rw [decide_eq_false (by omega)]
  repeat (first | refine Ev.s ?_ | refine Ev.newC fun _ _ _ => ?_ | refine Ev.boxC fun _ _ _ => ?_ | refine Ev.stC fun _ _ => ?_ | refine Ev.sc (by omega) ?_ | refine Ev.scg (by omega) ?_)
  cases hneg : neg with
  | true =>
    rw [hneg] at hS1 fin
    repeat (first | refine Ev.s ?_ | refine Ev.newC fun _ _ _ => ?_ | refine Ev.boxC fun _ _ _ => ?_ | refine Ev.stC fun _ _ => ?_ | refine Ev.sc (by omega) ?_ | refine Ev.scg (by omega) ?_)
    exact fin _ _ B1 H1 (by unfold hdN; simp) hS1 hm
  | false =>
    rw [hneg] at hS1 fin
    repeat (first | refine Ev.s ?_ | refine Ev.newC fun _ _ _ => ?_ | refine Ev.boxC fun _ _ _ => ?_ | refine Ev.stC fun _ _ => ?_ | refine Ev.sc (by omega) ?_ | refine Ev.scg (by omega) ?_)
    exact fin _ _ B1 H1 (by unfold hdN; simp) hS1 hm
end Go.AM.Z
set_option linter.unusedVariables false
set_option linter.unusedSimpArgs false
set_option maxRecDepth 100000
namespace Go.AM.Z
open Go Go.AM Go.Proofs
attribute [local irreducible] run bin un ld st box newV mkS fldA fld ixA ix slc slc3 build buildS cv cvS ap cpy lenV gOp pickV b2 aIf aChk evalK resume iterD Option.bind

end Go.AM.Z
set_option linter.unusedVariables false
set_option linter.unusedSimpArgs false
set_option maxRecDepth 100000
namespace Go.AM.Z
open Go Go.AM Go.Proofs
attribute [local irreducible] run bin un ld st box newV mkS fldA fld ixA ix slc slc3 build buildS cv cvS ap cpy lenV gOp pickV b2 aIf aChk evalK resume iterD Option.bind

end Go.AM.Z
set_option linter.unusedVariables false
set_option linter.unusedSimpArgs false
set_option maxRecDepth 100000
namespace Go.AM.Z
open Go Go.AM Go.Proofs
attribute [local irreducible] run bin un ld st box newV mkS fldA fld ixA ix slc slc3 build buildS cv cvS ap cpy lenV gOp pickV b2 aIf aChk evalK resume iterD Option.bind

end Go.AM.Z
set_option linter.unusedVariables false
set_option linter.unusedSimpArgs false
set_option maxRecDepth 100000
namespace Go.AM.Z
open Go Go.AM Go.Proofs
attribute [local irreducible] run bin un ld st box newV mkS fldA fld ixA ix slc slc3 build buildS cv cvS ap cpy lenV gOp pickV b2 aIf aChk evalK resume iterD Option.bind

abbrev Zd (z : Int) (m : Value) : Value := .agg #[.bool (decide (z < 0)), m]
def ZV (B : AH) (v : Value) (z : Int) (n : Nat) : Prop := ∃ m, v = Zd z m ∧ RdN B m (limbs z.natAbs) ∧ (limbs z.natAbs).length ≤ n
theorem IntV.z {B : AH} {v : Value} {z : Int} {n : Nat} (h : IntV B v z) (hl : (limbs z.natAbs).length ≤ n) : ZV B v z n := h.elim fun m hh => ⟨m, hh.1, hh.2, hl⟩
theorem An.imp2 {B H : AH} {Post Post' : AH → Value → Prop} {g : Nat → Nat → Option (Value × AH)} (h : Ev g (An B H Post)) (hp : ∀ B' v, Post B' v → Post' B' v) : Ev g (An B H Post') :=
  h.mono fun r ⟨B', h1, h2, h3, h4⟩ => ⟨B', h1, h2, h3, hp B' r.1 h4⟩
theorem cz (z : Int) : sg (decide (z < 0)) (val (limbs z.natAbs)) = z := by rw [val_limbs, sg_int]
theorem sgl {n : Bool} {xs : List Nat} {a : Nat} (hs : small xs) (h : xs.length ≤ a) : (sg n (val xs)).natAbs < 4294967296 ^ a := by
  rw [sg_abs]; exact Nat.lt_of_lt_of_le (val_lt hs) (Nat.pow_le_pow_right (by decide) h)
theorem lenI {z : Int} {a : Nat} (h : z.natAbs < 4294967296 ^ a) : (limbs z.natAbs).length ≤ a := limbs_length_le h
section
variable {B H : AH} {xs ys : List Nat} {m1 m2 : Value} {n1 n2 : Bool} {a b : Nat}
theorem from_Z {n : Int} (hn : -9223372036854775808 ≤ n ∧ n < 9223372036854775808) (hL : Le B H) : Ev (fun k _ => rn k 16 [.int .i64 n] H) (An B H fun B' v => ZV B' v n 2) :=
  An.imp2 (zFrom_spec hn hL) fun B' v hh => hh.z (lenI (by omega))
theorem small_Z [ha : RdT B m1 xs] (h1 : xs.length ≤ a) (h : a ≤ 100000) (hL : Le B H) : Ev (fun k _ => rn k 27 [.agg #[.bool n1, m1]] H) (An B H fun B' v => v = smallI (sg n1 (val xs))) :=
  zSmall_spec (by omega) ha.rd hL
theorem lsame_Z [ha : RdT B m1 xs] [hb : RdT B m2 ys] (h1 : xs.length ≤ a) (h : a ≤ 100000) (hL : Le B H) : Ev (fun k _ => rn k 21 [.agg #[.bool n1, m1], .agg #[.bool n2, m2]] H) (An B H fun _ v => v = .bool (decide (n1 = n2 ∧ xs = ys))) := by
  refine Ev.fn (fun k => f21_eq k _ _ H) ?_
  have hS := St.start hL
  have ha := ha.rd
  have hb := hb.rd
  repeat (first | refine Ev.s ?_ | refine Ev.newC fun _ _ _ => ?_ | refine Ev.boxC fun _ _ _ => ?_ | refine Ev.stC fun _ _ => ?_ | refine Ev.sc (by omega) ?_ | refine Ev.scg (by omega) ?_)
  refine Ev.callD (Same_ispec (by omega) RdT.rd RdT.rd) fun v1 B1 H1 hm1 hS1 h1 => ?_
  subst h1
  exact Ev.doneC rfl
theorem same_Z {z : Int} [ha : RdT B m1 (limbs z.natAbs)] [hb : RdT B m2 (limbs z.natAbs)] (h1 : (limbs z.natAbs).length ≤ a) (h : a ≤ 100000) (hL : Le B H) : Ev (fun k _ => rn k 21 [Zd z m1, Zd z m2] H) (An B H fun _ v => v = .bool true) :=
  An.imp2 (lsame_Z h1 h hL) fun _ v hh => by rw [hh, decide_eq_true ⟨rfl, rfl⟩]
theorem short_Z {c : Nat} [ha : RdT B m1 xs] (hc : c ≤ 1000) (hl : xs.length < 9223372036854775808) (hL : Le B H) : Ev (fun k _ => rn k 13 [.agg #[.bool n1, m1], i64 c] H) (An B H fun B' v => ∃ m, v = .agg #[.bool n1, m] ∧ RdN B' m (xs.take c) ∧ (xs.take c).length ≤ c) := by
  refine Ev.fn (fun k => f13_eq k _ _ H) ?_
  have hS := St.start hL
  have ha := ha.rd
  have htk : xs.take (min xs.length c) = xs.take c := by
    by_cases h6 : xs.length ≤ c
    · rw [Nat.min_eq_left h6, List.take_length, List.take_of_length_le h6]
    · rw [Nat.min_eq_right (by omega)]
  repeat (first | refine Ev.s ?_ | refine Ev.newC fun _ _ _ => ?_ | refine Ev.boxC fun _ _ _ => ?_ | refine Ev.stC fun _ _ => ?_ | refine Ev.sc (by omega) ?_ | refine Ev.scg (by omega) ?_)
  refine Ev.uptoC (min xs.length c) (by split <;> omega) (by omega) fun w hw => ?_
  rw [htk] at hw
  repeat (first | refine Ev.s ?_ | refine Ev.newC fun _ _ _ => ?_ | refine Ev.boxC fun _ _ _ => ?_ | refine Ev.stC fun _ _ => ?_ | refine Ev.sc (by omega) ?_ | refine Ev.scg (by omega) ?_)
  exact Ev.doneC ⟨w, rfl, hw, by rw [List.length_take]; omega⟩
theorem div_Z [ha : RdT B m1 xs] [hb : RdT B m2 ys] (h1 : xs.length ≤ a) (h2 : ys.length ≤ b) (h : a + b ≤ 3000) (hy : val ys ≠ 0) (hL : Le B H) : Ev (fun k _ => rn k 19 [.agg #[.bool n1, m1], .agg #[.bool n2, m2]] H) (An B H fun B' v => ∃ p q, v = .tuple #[p, q, .bool true] ∧ ZV B' p (fq (sg n1 (val xs)) (sg n2 (val ys))) (a + 1) ∧ ZV B' q (fr (sg n1 (val xs)) (sg n2 (val ys))) b) := by
  refine An.imp2 (zDiv_spec (by omega) (by omega) hy hL) fun B' v hh => ?_
  obtain ⟨p, q, rfl, hp, hq⟩ := hh
  have hY : sg n2 (val ys) ≠ 0 := by cases n2 <;> simp [sg] <;> omega
  obtain ⟨l1, l2⟩ := fl_len (fq_fr (X := sg n1 (val xs)) hY)
  have e1 := lenI (sgl (n := n1) ha.rd.sm h1)
  have e2 := lenI (sgl (n := n2) hb.rd.sm h2)
  exact ⟨p, q, rfl, hp.z (by omega), hq.z (by omega)⟩
theorem rdiv_Z [ha : RdT B m1 xs] [hb : RdT B m2 ys] (h1 : xs.length ≤ a) (h2 : ys.length ≤ b) (h : a + b ≤ 3000) (hy : val ys ≠ 0) (hL : Le B H) : Ev (fun k _ => rn k 20 [.agg #[.bool n1, m1], .agg #[.bool n2, m2]] H) (An B H fun B' v => ∃ p q, v = .tuple #[p, q, .bool true] ∧ ZV B' p (fq (sg n1 (val xs)) (sg n2 (val ys))) (a + 1) ∧ ZV B' q (fr (sg n1 (val xs)) (sg n2 (val ys))) b) := by
  refine An.imp2 (rIDiv_spec (by omega) (by omega) hy hL) fun B' v hh => ?_
  obtain ⟨p, q, rfl, hp, hq⟩ := hh
  have hY : sg n2 (val ys) ≠ 0 := by cases n2 <;> simp [sg] <;> omega
  obtain ⟨l1, l2⟩ := fl_len (fq_fr (X := sg n1 (val xs)) hY)
  have e1 := lenI (sgl (n := n1) ha.rd.sm h1)
  have e2 := lenI (sgl (n := n2) hb.rd.sm h2)
  exact ⟨p, q, rfl, hp.z (by omega), hq.z (by omega)⟩
theorem shift_len {X n : Int} (hn : -100000 ≤ n ∧ n ≤ 100000) (hx : (limbs X.natAbs).length ≤ a) : (limbs (shiftI X n).natAbs).length ≤ a + 3127 := by
  unfold shiftI
  split
  · rw [Int.natAbs_mul, Int.natAbs_natCast]
    have := limbs_shl_len (x := X.natAbs) (k := n.toNat)
    omega
  · have hp : 0 < 2 ^ (-n).toNat := Nat.pow_pos (by decide)
    generalize 2 ^ (-n).toNat = p at *
    have : (X / (p : Int)).natAbs ≤ X.natAbs := by
      rcases Int.lt_or_le X 0 with h | h
      · have h1 := Int.ediv_emod_unique (a := X) (b := (p : Int)) (r := X % (p : Int)) (q := X / (p : Int)) (by omega)
        have h2 := Int.emod_nonneg X (b := (p : Int)) (by omega)
        have h3 := Int.emod_lt_of_pos X (b := (p : Int)) (by omega)
        have h4 := Int.emod_add_mul_ediv X (p : Int)
        have h5 : X / (p : Int) < 0 := Int.ediv_neg_of_neg_of_pos h (by omega)
        have h6 : (p : Int) * (X / (p : Int)) ≤ 1 * (X / (p : Int)) := Int.mul_le_mul_of_nonpos_right (by omega) (by omega)
        by_cases h7 : X / (p : Int) < X
        · have h8 : X / (p : Int) + 1 ≤ X := by omega
          have h9 : 0 ≤ (p : Int) - 1 := by omega
          have h10 : ((p : Int) - 1) * (X / (p : Int) + 1) ≤ 0 := Int.mul_nonpos_of_nonneg_of_nonpos h9 (by omega)
          rw [Int.sub_mul, Int.mul_add] at h10
          omega
        · omega
      · have := Int.ediv_le_self (a := X) (p : Int) h
        have := Int.ediv_nonneg h (b := (p : Int)) (by omega)
        omega
    have := limbs_length_mono this
    omega
theorem shift_Z {n : Int} [ha : RdT B m1 xs] (h1 : xs.length ≤ a) (h : a ≤ 100000) (hn : -100000 ≤ n ∧ n ≤ 100000) (hL : Le B H) : Ev (fun k _ => rn k 22 [.agg #[.bool n1, m1], .int .i64 n] H) (An B H fun B' v => ∃ p, v = .tuple #[p, .bool true] ∧ ZV B' p (shiftI (sg n1 (val xs)) n) (a + 3127)) := by
  refine An.imp2 (zShift_spec (by omega) ha.rd hn hL) fun B' v hh => ?_
  obtain ⟨p, rfl, hp⟩ := hh
  exact ⟨p, rfl, hp.z (shift_len hn (lenI (sgl ha.rd.sm h1)))⟩
theorem rshift_Z {n : Int} [ha : RdT B m1 xs] (h1 : xs.length ≤ a) (h : a ≤ 100000) (hn : -100000 ≤ n ∧ n ≤ 100000) (hL : Le B H) : Ev (fun k _ => rn k 23 [.agg #[.bool n1, m1], .int .i64 n] H) (An B H fun B' v => ∃ p, v = .tuple #[p, .bool true] ∧ ZV B' p (shiftI (sg n1 (val xs)) n) (a + 3127)) := by
  refine An.imp2 (rIShift_spec (by omega) hn hL) fun B' v hh => ?_
  obtain ⟨p, rfl, hp⟩ := hh
  exact ⟨p, rfl, hp.z (shift_len hn (lenI (sgl ha.rd.sm h1)))⟩
end
end Go.AM.Z
set_option linter.unusedVariables false
set_option linter.unusedSimpArgs false
set_option maxRecDepth 100000
namespace Go.AM.Z
open Go Go.AM Go.Proofs
attribute [local irreducible] run bin un ld st box newV mkS fldA fld ixA ix slc slc3 build buildS cv cvS ap cpy lenV gOp pickV b2 aIf aChk evalK resume iterD Option.bind

theorem eql_lit {t : TypeId} {s : ByteArray} : bin Tryd.prog .eql t (.string s) (.string s) = some (.bool true) := by
  rw [str_of s, eql_str, decide_eq_true rfl]
instance (priority := 2000) {t : TypeId} {s : ByteArray} : PrimEq (bin Tryd.prog .eql t (.string s) (.string s)) (.bool true) := ⟨eql_lit⟩
theorem limbs_dig {n : Nat} (h0 : n ≠ 0) (h : n < 4294967296) : limbs n = [n] := by
  rw [limbs, dif_neg h0, Nat.mod_eq_of_lt h, Nat.div_eq_of_lt h, limbs, dif_pos rfl]
theorem text_lit : strN (textN (-120)) = .string ⟨#[45, 49, 50, 48]⟩ := by
  have : textN (-120) = [45, 49, 50, 48] := by
    unfold textN
    simp [txt, dg]
  rw [this]
  rfl
theorem bytes_lit : str (enc (decide ((-5 : Int) < 0)) (limbs (-5 : Int).natAbs)) = .string ⟨#[0, 3, 5, 0, 0, 0]⟩ := by
  rw [show (-5 : Int).natAbs = 5 from rfl, limbs_dig (by decide) (by decide)]
  rfl
theorem examples_spec {B H : AH} (hL : Le B H) : Ev (fun k _ => rn k 12 [] H) (An B H fun _ v => v = .bool true) := by
  refine Ev.fn (fun k => f12_eq k H) ?_
  have hS := St.start hL
  repeat (first | refine Ev.s ?_ | refine Ev.newC fun _ _ _ => ?_ | refine Ev.boxC fun _ _ _ => ?_ | refine Ev.stC fun _ _ => ?_ | refine Ev.sc (by omega) ?_ | refine Ev.scg (by omega) ?_)
  refine Ev.callD (from_Z (n := -7) (by decide)) fun v1 B1 H1 _ hS1 h1 => ?_
  obtain ⟨c1, rfl, hc1, l1⟩ := h1
  repeat (first | refine Ev.s ?_ | refine Ev.newC fun _ _ _ => ?_ | refine Ev.boxC fun _ _ _ => ?_ | refine Ev.stC fun _ _ => ?_ | refine Ev.sc (by omega) ?_ | refine Ev.scg (by omega) ?_)
  refine Ev.callD (from_Z (n := 2) (by decide)) fun v2 B2 H2 _ hS2 h2 => ?_
  obtain ⟨c2, rfl, hc2, l2⟩ := h2
  repeat (first | refine Ev.s ?_ | refine Ev.newC fun _ _ _ => ?_ | refine Ev.boxC fun _ _ _ => ?_ | refine Ev.stC fun _ _ => ?_ | refine Ev.sc (by omega) ?_ | refine Ev.scg (by omega) ?_)
  refine Ev.callD (div_Z (xs := limbs (-7 : Int).natAbs) (ys := limbs (2 : Int).natAbs) l1 l2 (by decide) (by rw [val_limbs]; decide)) fun v3 B3 H3 _ hS3 h3 => ?_
  rw [cz, cz, show fq (-7) 2 = -4 by decide, show fr (-7) 2 = 1 by decide] at h3
  obtain ⟨p, q, rfl, ⟨m1, rfl, hm1, e1⟩, ⟨m2, rfl, hm2, e2⟩⟩ := h3
  repeat (first | refine Ev.s ?_ | refine Ev.newC fun _ _ _ => ?_ | refine Ev.boxC fun _ _ _ => ?_ | refine Ev.stC fun _ _ => ?_ | refine Ev.sc (by omega) ?_ | refine Ev.scg (by omega) ?_)
  refine Ev.callD (from_Z (n := -4) (by decide)) fun v4 B4 H4 _ hS4 h4 => ?_
  obtain ⟨c4, rfl, hc4, l4⟩ := h4
  repeat (first | refine Ev.s ?_ | refine Ev.newC fun _ _ _ => ?_ | refine Ev.boxC fun _ _ _ => ?_ | refine Ev.stC fun _ _ => ?_ | refine Ev.sc (by omega) ?_ | refine Ev.scg (by omega) ?_)
  refine Ev.callD (same_Z (z := -4) l4 (by decide)) fun v5 B5 H5 _ hS5 h5 => ?_
  subst h5
  repeat (first | refine Ev.s ?_ | refine Ev.newC fun _ _ _ => ?_ | refine Ev.boxC fun _ _ _ => ?_ | refine Ev.stC fun _ _ => ?_ | refine Ev.sc (by omega) ?_ | refine Ev.scg (by omega) ?_)
  refine Ev.callD (from_Z (n := 1) (by decide)) fun v6 B6 H6 _ hS6 h6 => ?_
  obtain ⟨c6, rfl, hc6, l6⟩ := h6
  repeat (first | refine Ev.s ?_ | refine Ev.newC fun _ _ _ => ?_ | refine Ev.boxC fun _ _ _ => ?_ | refine Ev.stC fun _ _ => ?_ | refine Ev.sc (by omega) ?_ | refine Ev.scg (by omega) ?_)
  refine Ev.callD (same_Z (z := 1) l6 (by decide)) fun v7 B7 H7 _ hS7 h7 => ?_
  subst h7
  repeat (first | refine Ev.s ?_ | refine Ev.newC fun _ _ _ => ?_ | refine Ev.boxC fun _ _ _ => ?_ | refine Ev.stC fun _ _ => ?_ | refine Ev.sc (by omega) ?_ | refine Ev.scg (by omega) ?_)
  refine Ev.callD (from_Z (n := -5) (by decide)) fun v8 B8 H8 _ hS8 h8 => ?_
  obtain ⟨c8, rfl, hc8, l8⟩ := h8
  repeat (first | refine Ev.s ?_ | refine Ev.newC fun _ _ _ => ?_ | refine Ev.boxC fun _ _ _ => ?_ | refine Ev.stC fun _ _ => ?_ | refine Ev.sc (by omega) ?_ | refine Ev.scg (by omega) ?_)
  refine Ev.callD (zBytes_spec (xs := limbs (-5 : Int).natAbs) (rightI_limbs fun _ => by decide) (by omega)) fun v9 B9 H9 _ hS9 h9 => ?_
  rw [bytes_lit] at h9
  subst h9
  repeat (first | refine Ev.s ?_ | refine Ev.newC fun _ _ _ => ?_ | refine Ev.boxC fun _ _ _ => ?_ | refine Ev.stC fun _ _ => ?_ | refine Ev.sc (by omega) ?_ | refine Ev.scg (by omega) ?_)
  refine Ev.callD (from_Z (n := -9223372036854775808) (by decide)) fun v10 B10 H10 _ hS10 h10 => ?_
  obtain ⟨c10, rfl, hc10, l10⟩ := h10
  repeat (first | refine Ev.s ?_ | refine Ev.newC fun _ _ _ => ?_ | refine Ev.boxC fun _ _ _ => ?_ | refine Ev.stC fun _ _ => ?_ | refine Ev.sc (by omega) ?_ | refine Ev.scg (by omega) ?_)
  refine Ev.callD (small_Z (xs := limbs (-9223372036854775808 : Int).natAbs) l10 (by decide)) fun v11 B11 H11 _ hS11 h11 => ?_
  rw [cz, smallI, if_pos (by decide)] at h11
  subst h11
  repeat (first | refine Ev.s ?_ | refine Ev.newC fun _ _ _ => ?_ | refine Ev.boxC fun _ _ _ => ?_ | refine Ev.stC fun _ _ => ?_ | refine Ev.sc (by omega) ?_ | refine Ev.scg (by omega) ?_)
  refine Ev.callD (from_Z (n := -120) (by decide)) fun v12 B12 H12 _ hS12 h12 => ?_
  obtain ⟨c12, rfl, hc12, l12⟩ := h12
  repeat (first | refine Ev.s ?_ | refine Ev.newC fun _ _ _ => ?_ | refine Ev.boxC fun _ _ _ => ?_ | refine Ev.stC fun _ _ => ?_ | refine Ev.sc (by omega) ?_ | refine Ev.scg (by omega) ?_)
  refine Ev.callD (zText_spec (xs := limbs (-120 : Int).natAbs) (by omega) (by rw [val_limbs]; decide)) fun v13 B13 H13 _ hS13 h13 => ?_
  rw [cz, text_lit] at h13
  subst h13
  repeat (first | refine Ev.s ?_ | refine Ev.newC fun _ _ _ => ?_ | refine Ev.boxC fun _ _ _ => ?_ | refine Ev.stC fun _ _ => ?_ | refine Ev.sc (by omega) ?_ | refine Ev.scg (by omega) ?_)
  exact Ev.doneC rfl
abbrev KInt := Kn.pair Kn.bool (Kn.pair (Kn.slice 70 1 (Kn.int .u32)) Kn.unit)
abbrev GInt (x : Bool × List Int × Unit) : Prop := True ∧ (x.2.1.length ≤ maxLen ∧ ∀ n ∈ x.2.1, (Lit.int .u32 n).wf = true) ∧ True
theorem int_open {H : AH} {v : Value} {x : Bool × List Int × Unit} (h : KvS KInt H x v) (hG : GInt x) : ∃ m, v = .agg #[.bool x.1, m] ∧ RdN H m (x.2.1.map Int.toNat) ∧ (x.2.1.map Int.toNat).length < 9223372036854775808 := by
  obtain ⟨cs, rfl, c3, c4, rfl, h1, c5, c6, rfl, h2, h3⟩ := h
  obtain ⟨_, ⟨g1, g2⟩, _⟩ := hG
  have h1 : c3 = [.bool x.1] := h1
  have h3 : c6 = [] := h3
  subst h1 h3
  have hl : c5.length = 1 := by
    rcases h2 with ⟨e, _⟩ | ⟨b, css, e, _⟩ <;> rw [e] <;> rfl
  obtain ⟨m, rfl⟩ := List.length_eq_one_iff.mp hl
  refine ⟨m, rfl, rd_slice h2 g2, ?_⟩
  rw [List.length_map]
  exact Nat.lt_of_le_of_lt g1 (by decide)
end Go.AM.Z
set_option linter.unusedVariables false
set_option linter.unusedSimpArgs false
set_option maxRecDepth 100000
namespace Go.AM.Z
open Go Go.AM Go.Proofs
attribute [local irreducible] run bin un ld st box newV mkS fldA fld ixA ix slc slc3 build buildS cv cvS ap cpy lenV gOp pickV b2 aIf aChk evalK resume iterD Option.bind

theorem neg_icmp {a b : Int} : un Tryd.prog .neg (.int .i64 (icmp a b)) = some (.int .i64 (-icmp a b)) := by
  rw [un_neg]
  unfold icmp
  split
  · rfl
  · split <;> rfl
instance (priority := 2000) {a b : Int} : PrimEq (un Tryd.prog .neg (.int .i64 (icmp a b))) (.int .i64 (-icmp a b)) := ⟨neg_icmp⟩
instance (priority := 2000) {b : Bool} : PrimEq (bin Tryd.prog .eql 4 (.bool b) (.bool b)) (.bool true) := ⟨by rw [eqlB]; cases b <;> rfl⟩
theorem lsame_nil {B H : AH} (hL : Le B H) : Ev (fun k _ => rn k 21 [.agg #[.bool false, .slice none 0 0], .agg #[.bool false, .slice none 0 0]] H) (An B H fun _ v => v = .bool true) :=
  An.imp2 (lsame_Z (xs := []) (ys := []) (a := 0) (Nat.le_refl 0) (by decide) hL) fun _ v hh => by rw [hh]; rfl
end Go.AM.Z
set_option linter.unusedVariables false
set_option linter.unusedSimpArgs false
set_option maxRecDepth 100000
namespace Go.AM.Z
open Go Go.AM Go.Proofs
attribute [local irreducible] run bin un ld st box newV mkS fldA fld ixA ix slc slc3 build buildS cv cvS ap cpy lenV gOp pickV b2 aIf aChk evalK resume iterD Option.bind

theorem divides_spec {B H : AH} {x : List Nat} {mx : Value} {nx : Bool} (hx : x.length < 9223372036854775808) (hrx : RdN B mx x) {y : List Nat} {my : Value} {ny : Bool} (hy : y.length < 9223372036854775808) (hry : RdN B my y) {n : Int} (hn : -9223372036854775808 ≤ n ∧ n < 9223372036854775808) (hL : Le B H) : Ev (fun k _ => rn k 4 [.agg #[.bool nx, mx], .agg #[.bool ny, my], .int .i64 n] H) (An B H fun _ v => v = .bool true) := by
  refine Ev.fn (fun k => f4_eq k _ _ _ H) ?_
  have hS := St.start hL
  repeat (first | refine Ev.s ?_ | refine Ev.newC fun _ _ _ => ?_ | refine Ev.boxC fun _ _ _ => ?_ | refine Ev.stC fun _ _ => ?_ | refine Ev.sc (by omega) ?_ | refine Ev.scg (by omega) ?_)
  refine Ev.callD (examples_spec) fun w11 B11 H11 _ hS11 h11 => ?_
  try simp only [cz] at h11
  subst h11
  repeat (first | refine Ev.s ?_ | refine Ev.newC fun _ _ _ => ?_ | refine Ev.boxC fun _ _ _ => ?_ | refine Ev.stC fun _ _ => ?_ | refine Ev.sc (by omega) ?_ | refine Ev.scg (by omega) ?_)
  refine Ev.callD (short_Z (xs := x) (c := 30) (by decide) hx) fun w12 B12 H12 _ hS12 h12 => ?_
  try simp only [cz] at h12
  obtain ⟨m_a, rfl, hr_a, l_a⟩ := h12
  generalize x.take 30 = xa at *
  repeat (first | refine Ev.s ?_ | refine Ev.newC fun _ _ _ => ?_ | refine Ev.boxC fun _ _ _ => ?_ | refine Ev.stC fun _ _ => ?_ | refine Ev.sc (by omega) ?_ | refine Ev.scg (by omega) ?_)
  refine Ev.callD (short_Z (xs := y) (c := 30) (by decide) hy) fun w13 B13 H13 _ hS13 h13 => ?_
  try simp only [cz] at h13
  obtain ⟨m_b, rfl, hr_b, l_b⟩ := h13
  generalize y.take 30 = xb at *
  generalize nx = na at *; generalize ny = nb at *
  by_cases hy0 : val xb = 0
  · repeat (first | refine Ev.s ?_ | refine Ev.newC fun _ _ _ => ?_ | refine Ev.boxC fun _ _ _ => ?_ | refine Ev.stC fun _ _ => ?_ | refine Ev.sc (by omega) ?_ | refine Ev.scg (by omega) ?_)
    refine Ev.callD (zDiv_zero (xs := xa) (ys := xb) (by omega) (by omega) hy0) fun w14 B14 H14 _ hS14 h14 => ?_
    try simp only [cz] at h14
    subst h14
    repeat (first | refine Ev.s ?_ | refine Ev.newC fun _ _ _ => ?_ | refine Ev.boxC fun _ _ _ => ?_ | refine Ev.stC fun _ _ => ?_ | refine Ev.sc (by omega) ?_ | refine Ev.scg (by omega) ?_)
    refine Ev.callD (rIDiv_zero (xs := xa) (ys := xb) (by omega) (by omega) hy0) fun w15 B15 H15 _ hS15 h15 => ?_
    try simp only [cz] at h15
    subst h15
    repeat (first | refine Ev.s ?_ | refine Ev.newC fun _ _ _ => ?_ | refine Ev.boxC fun _ _ _ => ?_ | refine Ev.stC fun _ _ => ?_ | refine Ev.sc (by omega) ?_ | refine Ev.scg (by omega) ?_)
    refine Ev.callD (lsame_nil) fun w16 B16 H16 _ hS16 h16 => ?_
    try simp only [cz] at h16
    subst h16
    repeat (first | refine Ev.s ?_ | refine Ev.newC fun _ _ _ => ?_ | refine Ev.boxC fun _ _ _ => ?_ | refine Ev.stC fun _ _ => ?_ | refine Ev.sc (by omega) ?_ | refine Ev.scg (by omega) ?_)
    refine Ev.callD (lsame_nil) fun w17 B17 H17 _ hS17 h17 => ?_
    try simp only [cz] at h17
    subst h17
    by_cases hns : -100000 ≤ n ∧ n ≤ 100000
    · repeat (first | refine Ev.s ?_ | refine Ev.newC fun _ _ _ => ?_ | refine Ev.boxC fun _ _ _ => ?_ | refine Ev.stC fun _ _ => ?_ | refine Ev.sc (by omega) ?_ | refine Ev.scg (by omega) ?_)
      refine Ev.callD (shift_Z l_a (by decide) hns) fun w18 B18 H18 _ hS18 h18 => ?_
      try simp only [cz] at h18
      obtain ⟨_, rfl, ⟨m_u, rfl, hr_u, l_u⟩⟩ := h18
      repeat (first | refine Ev.s ?_ | refine Ev.newC fun _ _ _ => ?_ | refine Ev.boxC fun _ _ _ => ?_ | refine Ev.stC fun _ _ => ?_ | refine Ev.sc (by omega) ?_ | refine Ev.scg (by omega) ?_)
      refine Ev.callD (rshift_Z l_a (by decide) hns) fun w19 B19 H19 _ hS19 h19 => ?_
      try simp only [cz] at h19
      obtain ⟨_, rfl, ⟨m_v, rfl, hr_v, l_v⟩⟩ := h19
      repeat (first | refine Ev.s ?_ | refine Ev.newC fun _ _ _ => ?_ | refine Ev.boxC fun _ _ _ => ?_ | refine Ev.stC fun _ _ => ?_ | refine Ev.sc (by omega) ?_ | refine Ev.scg (by omega) ?_)
      refine Ev.callD (same_Z l_u (by decide)) fun w20 B20 H20 _ hS20 h20 => ?_
      try simp only [cz] at h20
      subst h20
      repeat (first | refine Ev.s ?_ | refine Ev.newC fun _ _ _ => ?_ | refine Ev.boxC fun _ _ _ => ?_ | refine Ev.stC fun _ _ => ?_ | refine Ev.sc (by omega) ?_ | refine Ev.scg (by omega) ?_)
      exact Ev.doneC rfl
    · repeat (first | refine Ev.s ?_ | refine Ev.newC fun _ _ _ => ?_ | refine Ev.boxC fun _ _ _ => ?_ | refine Ev.stC fun _ _ => ?_ | refine Ev.sc (by omega) ?_ | refine Ev.scg (by omega) ?_)
      refine Ev.callD (zShift_out (xs := xa) hns) fun w21 B21 H21 _ hS21 h21 => ?_
      try simp only [cz] at h21
      subst h21
      repeat (first | refine Ev.s ?_ | refine Ev.newC fun _ _ _ => ?_ | refine Ev.boxC fun _ _ _ => ?_ | refine Ev.stC fun _ _ => ?_ | refine Ev.sc (by omega) ?_ | refine Ev.scg (by omega) ?_)
      refine Ev.callD (rIShift_out (xs := xa) hns) fun w22 B22 H22 _ hS22 h22 => ?_
      try simp only [cz] at h22
      subst h22
      repeat (first | refine Ev.s ?_ | refine Ev.newC fun _ _ _ => ?_ | refine Ev.boxC fun _ _ _ => ?_ | refine Ev.stC fun _ _ => ?_ | refine Ev.sc (by omega) ?_ | refine Ev.scg (by omega) ?_)
      refine Ev.callD (lsame_nil) fun w23 B23 H23 _ hS23 h23 => ?_
      try simp only [cz] at h23
      subst h23
      repeat (first | refine Ev.s ?_ | refine Ev.newC fun _ _ _ => ?_ | refine Ev.boxC fun _ _ _ => ?_ | refine Ev.stC fun _ _ => ?_ | refine Ev.sc (by omega) ?_ | refine Ev.scg (by omega) ?_)
      exact Ev.doneC rfl
  · repeat (first | refine Ev.s ?_ | refine Ev.newC fun _ _ _ => ?_ | refine Ev.boxC fun _ _ _ => ?_ | refine Ev.stC fun _ _ => ?_ | refine Ev.sc (by omega) ?_ | refine Ev.scg (by omega) ?_)
    refine Ev.callD (div_Z l_a l_b (by decide) hy0) fun w24 B24 H24 _ hS24 h24 => ?_
    try simp only [cz] at h24
    obtain ⟨_, _, rfl, ⟨m_q, rfl, hr_q, l_q⟩, ⟨m_r, rfl, hr_r, l_r⟩⟩ := h24
    repeat (first | refine Ev.s ?_ | refine Ev.newC fun _ _ _ => ?_ | refine Ev.boxC fun _ _ _ => ?_ | refine Ev.stC fun _ _ => ?_ | refine Ev.sc (by omega) ?_ | refine Ev.scg (by omega) ?_)
    refine Ev.callD (rdiv_Z l_a l_b (by decide) hy0) fun w25 B25 H25 _ hS25 h25 => ?_
    try simp only [cz] at h25
    obtain ⟨_, _, rfl, ⟨m_s, rfl, hr_s, l_s⟩, ⟨m_t, rfl, hr_t, l_t⟩⟩ := h25
    repeat (first | refine Ev.s ?_ | refine Ev.newC fun _ _ _ => ?_ | refine Ev.boxC fun _ _ _ => ?_ | refine Ev.stC fun _ _ => ?_ | refine Ev.sc (by omega) ?_ | refine Ev.scg (by omega) ?_)
    refine Ev.callD (same_Z l_q (by decide)) fun w26 B26 H26 _ hS26 h26 => ?_
    try simp only [cz] at h26
    subst h26
    repeat (first | refine Ev.s ?_ | refine Ev.newC fun _ _ _ => ?_ | refine Ev.boxC fun _ _ _ => ?_ | refine Ev.stC fun _ _ => ?_ | refine Ev.sc (by omega) ?_ | refine Ev.scg (by omega) ?_)
    refine Ev.callD (same_Z l_r (by decide)) fun w27 B27 H27 _ hS27 h27 => ?_
    try simp only [cz] at h27
    subst h27
    by_cases hns : -100000 ≤ n ∧ n ≤ 100000
    · repeat (first | refine Ev.s ?_ | refine Ev.newC fun _ _ _ => ?_ | refine Ev.boxC fun _ _ _ => ?_ | refine Ev.stC fun _ _ => ?_ | refine Ev.sc (by omega) ?_ | refine Ev.scg (by omega) ?_)
      refine Ev.callD (shift_Z l_a (by decide) hns) fun w28 B28 H28 _ hS28 h28 => ?_
      try simp only [cz] at h28
      obtain ⟨_, rfl, ⟨m_u, rfl, hr_u, l_u⟩⟩ := h28
      repeat (first | refine Ev.s ?_ | refine Ev.newC fun _ _ _ => ?_ | refine Ev.boxC fun _ _ _ => ?_ | refine Ev.stC fun _ _ => ?_ | refine Ev.sc (by omega) ?_ | refine Ev.scg (by omega) ?_)
      refine Ev.callD (rshift_Z l_a (by decide) hns) fun w29 B29 H29 _ hS29 h29 => ?_
      try simp only [cz] at h29
      obtain ⟨_, rfl, ⟨m_v, rfl, hr_v, l_v⟩⟩ := h29
      repeat (first | refine Ev.s ?_ | refine Ev.newC fun _ _ _ => ?_ | refine Ev.boxC fun _ _ _ => ?_ | refine Ev.stC fun _ _ => ?_ | refine Ev.sc (by omega) ?_ | refine Ev.scg (by omega) ?_)
      refine Ev.callD (same_Z l_u (by decide)) fun w30 B30 H30 _ hS30 h30 => ?_
      try simp only [cz] at h30
      subst h30
      repeat (first | refine Ev.s ?_ | refine Ev.newC fun _ _ _ => ?_ | refine Ev.boxC fun _ _ _ => ?_ | refine Ev.stC fun _ _ => ?_ | refine Ev.sc (by omega) ?_ | refine Ev.scg (by omega) ?_)
      exact Ev.doneC rfl
    · repeat (first | refine Ev.s ?_ | refine Ev.newC fun _ _ _ => ?_ | refine Ev.boxC fun _ _ _ => ?_ | refine Ev.stC fun _ _ => ?_ | refine Ev.sc (by omega) ?_ | refine Ev.scg (by omega) ?_)
      refine Ev.callD (zShift_out (xs := xa) hns) fun w31 B31 H31 _ hS31 h31 => ?_
      try simp only [cz] at h31
      subst h31
      repeat (first | refine Ev.s ?_ | refine Ev.newC fun _ _ _ => ?_ | refine Ev.boxC fun _ _ _ => ?_ | refine Ev.stC fun _ _ => ?_ | refine Ev.sc (by omega) ?_ | refine Ev.scg (by omega) ?_)
      refine Ev.callD (rIShift_out (xs := xa) hns) fun w32 B32 H32 _ hS32 h32 => ?_
      try simp only [cz] at h32
      subst h32
      repeat (first | refine Ev.s ?_ | refine Ev.newC fun _ _ _ => ?_ | refine Ev.boxC fun _ _ _ => ?_ | refine Ev.stC fun _ _ => ?_ | refine Ev.sc (by omega) ?_ | refine Ev.scg (by omega) ?_)
      refine Ev.callD (lsame_nil) fun w33 B33 H33 _ hS33 h33 => ?_
      try simp only [cz] at h33
      subst h33
      repeat (first | refine Ev.s ?_ | refine Ev.newC fun _ _ _ => ?_ | refine Ev.boxC fun _ _ _ => ?_ | refine Ev.stC fun _ _ => ?_ | refine Ev.sc (by omega) ?_ | refine Ev.scg (by omega) ?_)
      exact Ev.doneC rfl
theorem coreZintDivides (H : AH) (vs : List Value) (x : (Bool × List Int × Unit) × (Bool × List Int × Unit) × Int × Unit) (hK : ∃ v0 vs0, vs = v0 :: vs0 ∧ KvS KInt H x.1 v0 ∧ ∃ v1 vs1, vs0 = v1 :: vs1 ∧ KvS KInt H x.2.1 v1 ∧ ∃ v2 vs2, vs1 = v2 :: vs2 ∧ KvC (Kn.int .i64) H x.2.2.1 v2 ∧ vs2 = [])
    (hG : GInt x.1 ∧ GInt x.2.1 ∧ (Lit.int .i64 x.2.2.1).wf = true ∧ True) : Ev (fun k _ => rn k 4 vs H) (fun r => r.1 = .bool true) := by
  obtain ⟨v0, _, rfl, h0, v1, _, rfl, h1, v2, _, rfl, h2, rfl⟩ := hK
  obtain ⟨g0, g1, g2, _⟩ := hG
  obtain ⟨m0, rfl, a0, b0⟩ := int_open h0 g0
  obtain ⟨m1, rfl, a1, b1⟩ := int_open h1 g1
  have h2 : [v2] = [.int .i64 x.2.2.1] := h2
  cases h2
  exact An.tt (divides_spec b0 a0 b1 a1 (wf_i64 g2) ⟨Mo.refl H⟩)
end Go.AM.Z
set_option linter.unusedVariables false
namespace Go.AM.Z
open Go Go.Proofs Go.RowKit
set_option maxHeartbeats 1000000 in
set_option maxRecDepth 100000 in
theorem copyCheck_used (b : Nat) (w : World) (h0 : w.cell? ⟨b, 0, none⟩ = some (.pointer (some ⟨b, 0, none⟩))) :
    Calls Tryd.prog 95 #[.pointer (some ⟨b, 0, none⟩)] w fun e w' => e = .returned (.tuple #[]) ∧ w' = w := by
  obtain ⟨j, hj⟩ := Option.isSome_iff_exists.1 (show (Tryd.prog.info? 100).isSome = true by kernel_rfl)
  have mixed : Tryd.prog.follows .mixedOrders = true := by kernel_rfl
  have t72 := Tryd.underlying100; have a72 := Tryd.isAgg100; have z72 := Tryd.sizeOf100; have v72 := Tryd.zeroValue100; have u72 := run_underlying t72
  have t70 := Tryd.underlying98; have a70 := Tryd.isAgg98; have z70 := Tryd.sizeOf98; have v70 := Tryd.zeroValue98; have u70 := run_underlying t70
  go_enter Tryd.func95, Tryd.ntmps95
  go_wp2
  rw [Lib.run_neq_ptr_same w _ t70 hj]
  go_wp2
  go_end0
  exact ⟨rfl, rfl⟩
set_option maxHeartbeats 1000000 in
set_option maxRecDepth 100000 in
theorem copyCheck_fresh (T n b : Nat) (hn : 0 < n) (hT : liesAt Tryd.prog Tryd.prog.depth T (n / Tryd.prog.cellsOf T) 0 100 1 = true) (w : World) (h0 : w.cell? ⟨b, 0, none⟩ = some (.pointer none)) (hsh : w.shape? b = some (T, n)) (hfz : w.frozen? ⟨b, 0, none⟩ = false) :
    Calls Tryd.prog 95 #[.pointer (some ⟨b, 0, none⟩)] w fun e w' => e = .returned (.tuple #[]) ∧ w' = w.setCell ⟨b, 0, none⟩ (.pointer (some ⟨b, 0, none⟩)) := by
  obtain ⟨j, hj⟩ := Option.isSome_iff_exists.1 (show (Tryd.prog.info? 100).isSome = true by kernel_rfl)
  have hc2 : Tryd.prog.cellsOf 100 = 2 := by kernel_rfl
  have hjs : j.size ≠ 0 := by
    unfold Program.cellsOf at hc2
    rw [hj] at hc2
    have : j.size = 2 := hc2
    omega
  have mixed : Tryd.prog.follows .mixedOrders = true := by kernel_rfl
  have t72 := Tryd.underlying100; have a72 := Tryd.isAgg100; have z72 := Tryd.sizeOf100; have v72 := Tryd.zeroValue100; have u72 := run_underlying t72
  have t70 := Tryd.underlying98; have a70 := Tryd.isAgg98; have z70 := Tryd.sizeOf98; have v70 := Tryd.zeroValue98; have u70 := run_underlying t70
  have tU := Tryd.underlying116; have aU := Tryd.isAgg116; have zU := Tryd.sizeOf116; have vU := Tryd.zeroValue116; have uU := run_underlying tU
  go_enter Tryd.func95, Tryd.ntmps95
  go_wp2
  rw [Lib.run_to_unsafe w ⟨b, 0, none⟩ t70 tU hj hjs hsh hn]
  simp only [Result.andThen]
  rw [Oper.upon_value]
  go_wp2
  rw [run_callFunc_extern Tryd.func100 (by kernel_rfl) (by kernel_rfl) (by kernel_rfl) (e := Extern.AbiNoEscape.same) (by kernel_rfl)]
  rw [Lib.run_noEscape]
  simp only [Result.andThen]
  rw [Oper.upon_value]
  go_wp2
  rw [Lib.run_from_unsafe w ⟨b, 0, none⟩ tU t70 hj hsh hT]
  simp only [Result.andThen]
  rw [Oper.upon_value]
  go_wp2
  go_end0
  exact ⟨rfl, rfl⟩
end Go.AM.Z
set_option linter.unusedVariables false
namespace Go.AM.Z
open Go Go.Proofs Go.RowKit
set_option maxHeartbeats 1000000 in
set_option maxRecDepth 100000 in
theorem grow_fresh (b n : Nat) (w : World) (c : Array Value) (T : TypeId) (hbk : w.heap[b]? = some (.cells c T (0, 0))) (h1 : c[1]? = some (.slice none 0 0)) (hn : n ≤ 140737488355328) :
    Calls Tryd.prog 96 #[.pointer (some ⟨b, 0, none⟩), .int .i64 n] w fun e w' => e = .returned (.tuple #[]) ∧ ∃ cs : Array Value,
      w'.heap = ((w.setCell ⟨b, 1, none⟩ (.slice (some ⟨w.heap.size, 0, none⟩) 0 cs.size)).alloc (.cells cs 5)).heap ∧ Below b w w' := by
  have t76 := Tryd.underlying76; have a76 := Tryd.isAgg76; have z76 := Tryd.sizeOf76; have v76 := Tryd.zeroValue76; have u76 := run_underlying t76
  have t98 := Tryd.underlying98; have a98 := Tryd.isAgg98; have z98 := Tryd.sizeOf98; have v98 := Tryd.zeroValue98; have u98 := run_underlying t98
  have t100 := Tryd.underlying100; have a100 := Tryd.isAgg100; have z100 := Tryd.sizeOf100; have v100 := Tryd.zeroValue100; have u100 := run_underlying t100
  have t3 := Tryd.underlying3; have a3 := Tryd.isAgg3; have z3 := Tryd.sizeOf3; have v3 := Tryd.zeroValue3; have u3 := run_underlying t3
  have t5 := Tryd.underlying5; have a5 := Tryd.isAgg5; have z5 := Tryd.sizeOf5; have v5 := Tryd.zeroValue5; have u5 := run_underlying t5
  obtain ⟨cs, hrun, hle, hmax⟩ := Lib.run_makeNoZero (P := Tryd.prog) w.drew #[3] 76 5 t76 n (by omega)
  have hw : IntKind.i64.wrap (IntKind.i64.wrap 0 + (n : Int)) = n := by
    rw [IntKind.wrap_i64, IntKind.wrap_i64]
    omega
  have hcall : (callFunc 101 #[.int .i64 (IntKind.i64.wrap (IntKind.i64.wrap 0 + (n : Int)))]).run Tryd.prog w.drew = .ok (.value (.slice (some ⟨w.drew.heap.size, 0, none⟩) n cs.size)) (w.drew.drew.drew.alloc (.cells cs 5)) := by
    rw [hw, run_callFunc_extern Tryd.func101 (by kernel_rfl) (by kernel_rfl) (by kernel_rfl) (e := Extern.BytealgMakeNoZero.makeNoZero #[3] #[76]) (by kernel_rfl), hrun]
    rfl
  have hlt : b < w.heap.size := (Array.getElem?_eq_some_iff.1 hbk).1
  have c1 : w.drew.cell? ⟨b, 1, none⟩ = some (.slice none 0 0) := by
    have : w.drew.heap[b]? = _ := hbk
    rw [Lib.cell_of_heap this]; exact h1
  have c2 : (w.alloc (.cells cs 5)).cell? ⟨b, 1, none⟩ = some (.slice none 0 0) := by
    have : (w.alloc (.cells cs 5)).heap[b]? = _ := (Lib.alloc_old w _ b hlt).trans hbk
    rw [Lib.cell_of_heap this]; exact h1
  have f2 : (w.alloc (.cells cs 5)).frozen? ⟨b, 1, none⟩ = false := Lib.frozen_of_heap ((Lib.alloc_old w _ b hlt).trans hbk) 1
  have hcopy : ∀ W : World, (Builtin.copy_ #[76, 76] 3 #[.slice (some ⟨w.heap.size, 0, none⟩) 0 cs.size, .slice none 0 0]).run Tryd.prog W = .ok (goInt 0) W :=
    fun W => run_copy_none W 76 76 3 5 _ _ 0 cs.size 0 0 t76 (by kernel_rfl) rfl
  have hbel : Below b w ((w.setCell ⟨b, 1, none⟩ (.slice (some ⟨w.heap.size, 0, none⟩) 0 cs.size)).alloc (.cells cs 5)) :=
    ((Below.refl b w).setCell (p := ⟨b, 1, none⟩) (Nat.le_refl _) _).alloc (by simp [World.setCell]; omega) _
  clear hw
  have mixed : Tryd.prog.follows .mixedOrders = true := by kernel_rfl
  go_enter Tryd.func96, Tryd.ntmps96
  go_wp2
  go_region_o
  all_goals (go_wp2; go_end0; first | exact ⟨rfl, cs, rfl, hbel.drew.drew.drew⟩ | exact ⟨rfl, cs, rfl, hbel.drew.drew⟩ | exact ⟨rfl, cs, rfl, hbel.drew.drew.drew.drew⟩)
end Go.AM.Z
set_option linter.unusedVariables false
namespace Go.AM.Z
open Go Go.Proofs Go.RowKit
theorem heap_two (w : World) (b : Nat) (c : Array Value) (T : TypeId) (u v : Value) (o : Obj) (hbk : w.heap[b]? = some (.cells c T (0, 0))) :
    (((w.setCell ⟨b, 0, none⟩ u).setCell ⟨b, 1, none⟩ v).alloc o).heap = ((w.alloc o).setRow b ((c.setIfInBounds 0 u).setIfInBounds 1 v)).heap := by
  have hlt := (Array.getElem?_eq_some_iff.1 hbk).1
  have hg := (Array.getElem?_eq_some_iff.1 hbk).2
  apply Array.ext_getElem?
  intro i
  unfold World.setCell World.setRow World.alloc
  simp only [Array.getElem?_modify, Array.getElem?_push, Array.size_modify]
  by_cases hi : i = w.heap.size
  · subst hi
    rw [if_pos rfl, if_pos rfl, if_neg (by omega)]
  · rw [if_neg hi, if_neg hi]
    by_cases hb : b = i
    · subst hb
      rw [if_pos rfl, if_pos rfl, if_pos rfl, hbk]; rfl
    · rw [if_neg hb, if_neg hb, if_neg hb]
set_option maxHeartbeats 1000000 in
set_option maxRecDepth 100000 in
theorem Grow_fresh (T b n : Nat) (hT2 : 2 ≤ szT Tryd.prog T) (hT : liesAt Tryd.prog Tryd.prog.depth T (szT Tryd.prog T / Tryd.prog.cellsOf T) 0 100 1 = true) (w : World) (c : Array Value) (hbk : w.heap[b]? = some (.cells c T (0, 0))) (hsz : c.size = szT Tryd.prog T) (h0 : c[0]? = some (.pointer none))
    (h1 : c[1]? = some (.slice none 0 0)) (hn0 : 0 < n) (hn : n ≤ 140737488355328) :
    Calls Tryd.prog 85 #[.pointer (some ⟨b, 0, none⟩), .int .i64 n] w fun e w' => e = .returned (.tuple #[]) ∧ ∃ cs : Array Value,
      w'.heap = ((w.alloc (.cells cs 5)).setRow b ((c.setIfInBounds 0 (.pointer (some ⟨b, 0, none⟩))).setIfInBounds 1 (.slice (some ⟨w.heap.size, 0, none⟩) 0 cs.size))).heap ∧ Below b w w' := by
  have t76 := Tryd.underlying76; have a76 := Tryd.isAgg76; have z76 := Tryd.sizeOf76; have v76 := Tryd.zeroValue76; have u76 := run_underlying t76
  have t98 := Tryd.underlying98; have a98 := Tryd.isAgg98; have z98 := Tryd.sizeOf98; have v98 := Tryd.zeroValue98; have u98 := run_underlying t98
  have t100 := Tryd.underlying100; have a100 := Tryd.isAgg100; have z100 := Tryd.sizeOf100; have v100 := Tryd.zeroValue100; have u100 := run_underlying t100
  have t3 := Tryd.underlying3; have a3 := Tryd.isAgg3; have z3 := Tryd.sizeOf3; have v3 := Tryd.zeroValue3; have u3 := run_underlying t3
  have hlt : b < w.heap.size := (Array.getElem?_eq_some_iff.1 hbk).1
  have hbk1 : (w.setCell ⟨b, 0, none⟩ (.pointer (some ⟨b, 0, none⟩))).heap[b]? = some (.cells (c.setIfInBounds 0 (.pointer (some ⟨b, 0, none⟩))) T (0, 0)) := by
    simp [World.setCell, Array.getElem?_modify, hbk]
  have h11 : (c.setIfInBounds 0 (.pointer (some ⟨b, 0, none⟩)))[1]? = some (.slice none 0 0) := by rw [Array.getElem?_setIfInBounds_ne (by decide)]; exact h1
  have c1 : (w.setCell ⟨b, 0, none⟩ (.pointer (some ⟨b, 0, none⟩))).cell? ⟨b, 1, none⟩ = some (.slice none 0 0) := by rw [Lib.cell_of_heap hbk1]; exact h11
  have c1' : (w.setCell ⟨b, 0, none⟩ (.pointer (some ⟨b, 0, none⟩))).drew.cell? ⟨b, 1, none⟩ = some (.slice none 0 0) := c1
  have hb1 : Below b w (w.setCell ⟨b, 0, none⟩ (.pointer (some ⟨b, 0, none⟩))) := (Below.refl b w).setCell (p := ⟨b, 0, none⟩) (Nat.le_refl _) _
  have hsize : (w.setCell ⟨b, 0, none⟩ (.pointer (some ⟨b, 0, none⟩))).heap.size = w.heap.size := by simp [World.setCell]
  have hs2 : (w.setCell ⟨b, 0, none⟩ (.pointer (some ⟨b, 0, none⟩))).drew.heap.size = w.heap.size := hsize
  have e95 : ∀ args w, (callFunc 95 args).run Tryd.prog w = .ok (.enter 95 args) w := enters_of Tryd.func95 (by kernel_rfl) rfl
  have e96 : ∀ args w, (callFunc 96 args).run Tryd.prog w = .ok (.enter 96 args) w := enters_of Tryd.func96 (by kernel_rfl) rfl
  have mixed : Tryd.prog.follows .mixedOrders = true := by kernel_rfl
  have hn' : ¬ ((n : Int) < 0) := by omega
  have hn2 : (0 : Int) < (n : Int) := by omega
  have hcc := copyCheck_fresh T (szT Tryd.prog T) b (by omega) hT w (by rw [Lib.cell_of_heap hbk]; exact h0) (by simp [World.shape?, hbk, hsz]) (Lib.frozen_of_heap hbk 0)
  have hgr := grow_fresh b n (w.setCell ⟨b, 0, none⟩ (.pointer (some ⟨b, 0, none⟩))).drew (c.setIfInBounds 0 (.pointer (some ⟨b, 0, none⟩))) T hbk1 h11 hn
  go_enter Tryd.func85, Tryd.ntmps85
  go_wp2_with (go_at_fn 95; refine hcc.mono ?_; rintro e w' ⟨rfl, rfl⟩)
  go_region_o
  all_goals go_wp2_with (go_at_fn 96; refine hgr.mono ?_; rintro e w' ⟨rfl, cs, h1, h2⟩)
  all_goals (go_end0; refine ⟨rfl, cs, ?_, hb1.drew.trans h2⟩; rw [hs2] at h1; exact h1.trans (by rw [← heap_two w b c T _ _ _ hbk]; rfl))
end Go.AM.Z
set_option linter.unusedVariables false
set_option linter.unusedSimpArgs false
set_option maxRecDepth 100000
namespace Go.AM.Z
open Go Go.AM Go.Proofs
attribute [local irreducible] run bin un ld st box newV mkS fldA fld ixA ix slc slc3 build buildS cv cvS ap cpy lenV gOp pickV b2 aIf aChk evalK resume iterD Option.bind

theorem gv_ok : GivenOK Tryd.prog gv := by
  intro f g h
  have hgv : gv f = (if f = 95 then some (gCopy Tryd.prog [100]) else if f = 85 then some (gGrow Tryd.prog [100] 5) else none) := rfl
  rw [hgv] at h
  by_cases hf : f = 95
  · rw [if_pos hf] at h
    cases h
    subst hf
    refine gCopy_ok ⟨_, Tryd.func95, by decide +kernel, by kernel_rfl⟩ (fun T hT b w h0 hsh hfz => ?_) (fun b w h0 => copyCheck_used b w h0)
    simp only [List.mem_cons, List.not_mem_nil, or_false] at hT
    subst hT
    exact copyCheck_fresh _ _ b (by have : szT Tryd.prog 100 = 2 := by kernel_rfl
                                    omega) (by kernel_rfl) w h0 hsh hfz
  · rw [if_neg hf] at h
    by_cases hf : f = 85
    · rw [if_pos hf] at h
      cases h
      subst hf
      have s2 : szT Tryd.prog 100 = 2 := by kernel_rfl
      refine gGrow_ok ⟨_, Tryd.func85, by decide +kernel, by kernel_rfl⟩ (by kernel_rfl) (fun T hT => ?_) (fun T hT b n w c hbk hsz h0 h1 hn0 hn => ?_)
      · simp only [List.mem_cons, List.not_mem_nil, or_false] at hT
        subst hT; omega
      · simp only [List.mem_cons, List.not_mem_nil, or_false] at hT
        subst hT
        exact Grow_fresh _ b n (by omega) (by kernel_rfl) w c hbk hsz h0 h1 hn0 hn
    · rw [if_neg hf] at h
      cases h
end Go.AM.Z
