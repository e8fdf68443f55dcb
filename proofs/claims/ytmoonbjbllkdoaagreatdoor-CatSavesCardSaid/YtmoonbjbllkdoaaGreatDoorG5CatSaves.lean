/-
  Facts of the abstract evaluator and of the functions that the law reaches, part 5. Conditions: none.
-/
import Derived.ProofKit
import Derived.Deep.Slices
import Derived.DataElems
import Derived.DataReads
import Derived.ChangeArms
import Derived.ChangeSame
import Derived.Test.YtmoonbjbllkdoaaGreatDoorG4CatSaves
set_option linter.unusedVariables false
set_option linter.unusedSimpArgs false
set_option linter.unnecessarySimpa false
set_option exponentiation.threshold 200000
set_option maxRecDepth 100000
namespace Go.AM.E
open Go Go.AM Go.Proofs
attribute [local irreducible] run bin un ld st box newV mkS fldA fld ixA ix slc slc3 build buildS cv cvS ap cpy lenV gOp pickV b2 aIf aChk evalK resume iterD Option.bind

section
variable {B B0 H0 H : AH} {L : List (Nat × Blk)}
theorem xmany_spec {p : Value} {D : Dsk} {Ls Lx : List (Nat × Blk)} (hD : XK p D Ls) (hO : D.OK) (hS : St H0 B0 B Lx H) (hsub : ∀ x ∈ Ls, x ∈ Lx) : Ev (fun k _ => rn k 65 [p] H) (fun r => r = (i64 (D.n / 2), H)) := by
  obtain ⟨x, sv, cv, fx, Ls1, Lc, rfl, hfx, hf1, hG1, hG2, rfl⟩ := hD
  have hcell1 := hG1.cell
  have hcell2 := hG2.cell
  have h2 := hO.n2
  have hls := hG1.len (Und.eq (P := Tryz.prog) (t := 51))
  rw [List.length_map, secsB_len] at hls
  have hxm : InL x ⟨[sv, cv, .int .i64 fx, .bool D.down], 54, .fix⟩ Lx := ⟨hsub _ (.head _)⟩
  refine Ev.fn (fun k => f65_eq k _ H) ?_
  repeat (first|refine zA ?_|refine zB fun _ _ _=>?_|refine zC fun _ _ _=>?_|refine zD fun _ _=>?_|refine zE ?_|refine zF ?_)
  refine Ev.prim hls ?_
  repeat (first | (first|refine zA ?_|refine zB fun _ _ _=>?_|refine zC fun _ _ _=>?_|refine zD fun _ _=>?_|refine zE ?_|refine zF ?_) | rw [decide_eq_true (by omega)] | rw [decide_eq_false (by omega)])
  exact Ev.ret rfl
theorem rtext_loop0 {b t : Nat} {rv uv : Value} : ∀ (m i : Nat) (H : AH), i + m = 6 →
    St H0 B0 B ((b, ⟨List.replicate (6 - i) (.int .u8 0) ++ ((tB t).drop (6 - i) ++ List.replicate 66 (.int .u8 0)), 5, .fix⟩) :: L) H →
    Ev (fun k K => f66_L0 k (i64 t) rv uv (sl b 0 72 72) (i64 i) K H) (fun o => ∃ H', o = (.exit 0, f66_X_L0 rv uv (sl b 0 72 72), H') ∧ St H0 B0 B ((b, ⟨tB t ++ List.replicate 66 (.int .u8 0), 5, .fix⟩) :: L) H') := by
  intro m
  induction m with
  | zero =>
    intro i H hi hS
    have : i = 6 := by omega
    subst this
    refine Ev.succ (fun k K => f66_L0_succ k _ _ _ _ _ K H) ?_
    repeat (first | (first|refine zA ?_|refine zB fun _ _ _=>?_|refine zC fun _ _ _=>?_|refine zD fun _ _=>?_|refine zE ?_|refine zF ?_) | rw [decide_eq_true (by omega)] | rw [decide_eq_false (by omega)])
    exact Ev.ret ⟨H, rfl, hS⟩
  | succ m ih =>
    intro i H hi hS
    refine Ev.succ (fun k K => f66_L0_succ k _ _ _ _ _ K H) ?_
    repeat (first | (first|refine zA ?_|refine zB fun _ _ _=>?_|refine zC fun _ _ _=>?_|refine zD fun _ _=>?_|refine zE ?_|refine zF ?_) | rw [decide_eq_true (by omega)] | rw [decide_eq_false (by omega)])
    refine Ev.prim (shrN (show 8 * i < IntKind.i64.bits by show 8 * i < 64; omega)) ?_
    refine Ev.prim (toU8 (Und.eq (P := Tryz.prog) (t := 3)) (Und.eq (P := Tryz.prog) (t := 5))) ?_
    have hE : Elt Tryz.prog 95 5 (.int .u8 0) 1 := inferInstance
    refine Ev.prim (ixA_own (i := 5 - i) hE (by omega)) ?_
    rw [Nat.zero_add]
    refine Ev.st hS (.head _) (stK_own (i := 5 - i) hE (by simp [tB_len]; omega) rfl) rfl (.head _) fun H' hS' => ?_
    have h6 : (tB t)[5 - i]? = some (u8 (t / 2 ^ (8 * i) % 256)) := by
      unfold tB
      rw [List.getElem?_map, List.getElem?_range (by omega)]
      show some (u8 (t / 2 ^ (8 * (5 - (5 - i))) % 256)) = _
      rw [show 5 - (5 - i) = i by omega]
    have hd : (tB t).drop (5 - i) = u8 (t / 2 ^ (8 * i) % 256) :: (tB t).drop (6 - i) := by
      have h1 := List.getElem?_eq_some_iff.1 h6
      rw [show 6 - i = 5 - i + 1 by omega, ← h1.2]
      exact List.drop_eq_getElem_cons h1.1
    have e : (List.replicate (6 - i) (Value.int .u8 0) ++ ((tB t).drop (6 - i) ++ List.replicate 66 (Value.int .u8 0))).set (5 - i) (u8 (t / 2 ^ (8 * i) % 256)) = List.replicate (6 - (i + 1)) (.int .u8 0) ++ ((tB t).drop (6 - (i + 1)) ++ List.replicate 66 (.int .u8 0)) := by
      rw [show 6 - (i + 1) = 5 - i by omega, hd]
      generalize (tB t).drop (6 - i) = z
      rw [show 6 - i = (5 - i) + 1 by omega, List.replicate_succ', List.append_assoc, List.set_append_right _ _ (by rw [List.length_replicate]; exact Nat.le_refl _), List.length_replicate, Nat.sub_self]
      rfl
    rw [e] at hS'
    repeat (first | (first|refine zA ?_|refine zB fun _ _ _=>?_|refine zC fun _ _ _=>?_|refine zD fun _ _=>?_|refine zE ?_|refine zF ?_) | rw [decide_eq_true (by omega)] | rw [decide_eq_false (by omega)])
    exact ih (i + 1) H' (by omega) hS'
theorem rtext_loop1 {b m : Nat} {uv : Value} {U : List Int} {hd : List Value} {Lu : List (Nat × Blk)} (hhd : hd.length = 8) (hm : m ≤ 512) (hK : UK 4 uv (boolC U m) Lu) (hsub : ∀ x ∈ Lu, x ∈ L) : ∀ (q i : Nat) (H : AH), i + q = m →
    St H0 B0 B ((b, ⟨hd ++ bmV (usedT U i), 5, .fix⟩) :: L) H →
    Ev (fun k K => f66_L1 k uv (sl b 0 72 72) (i64 i) K H) (fun o => ∃ H', o = (.exit 2, f66_X_L1 (sl b 0 72 72), H') ∧ St H0 B0 B ((b, ⟨hd ++ bmV (usedT U m), 5, .fix⟩) :: L) H') := by
  intro q
  have hlu := hK.len (Und.eq (P := Tryz.prog) (t := 81))
  rw [boolC_len] at hlu
  induction q with
  | zero =>
    intro i H hi hS
    have : i = m := by omega
    subst this
    refine Ev.succ (fun k K => f66_L1_succ k _ _ _ K H) ?_
    refine Ev.prim hlu ?_
    repeat (first | (first|refine zA ?_|refine zB fun _ _ _=>?_|refine zC fun _ _ _=>?_|refine zD fun _ _=>?_|refine zE ?_|refine zF ?_) | rw [decide_eq_true (by omega)] | rw [decide_eq_false (by omega)])
    exact Ev.ret ⟨H, rfl, hS⟩
  | succ q ih =>
    intro i H hi hS
    have hm8 := Nat.mod_lt i (show 0 < 8 by decide)
    refine Ev.succ (fun k K => f66_L1_succ k _ _ _ K H) ?_
    refine Ev.prim hlu ?_
    repeat (first | (first|refine zA ?_|refine zB fun _ _ _=>?_|refine zC fun _ _ _=>?_|refine zD fun _ _=>?_|refine zE ?_|refine zF ?_) | rw [decide_eq_true (by omega)] | rw [decide_eq_false (by omega)])
    have hN := hK.now hS (fun x hx => .tail _ (hsub x hx))
    rw [boolC_len] at hN
    refine Ev.ixN (t := 81) hN i rfl (by omega) (boolC_at (by omega)) fun pp hp => ?_
    refine Ev.prim (hp.eq H (Mo.refl H)) ?_
    by_cases hu : (i : Int) ∈ U
    case neg =>
      rw [decide_eq_false hu]
      repeat (first | (first|refine zA ?_|refine zB fun _ _ _=>?_|refine zC fun _ _ _=>?_|refine zD fun _ _=>?_|refine zE ?_|refine zF ?_) | rw [decide_eq_true (by omega)] | rw [decide_eq_false (by omega)])
      refine ih (i + 1) H (by omega) ?_
      rw [show usedT U (i + 1) = usedT U i from if_neg hu]
      exact hS
    rw [decide_eq_true hu]
    repeat (first | (first|refine zA ?_|refine zB fun _ _ _=>?_|refine zC fun _ _ _=>?_|refine zD fun _ _=>?_|refine zE ?_|refine zF ?_) | rw [decide_eq_true (by omega)] | rw [decide_eq_false (by omega)])
    have hE : Elt Tryz.prog 95 5 (.int .u8 0) 1 := inferInstance
    have hget : (hd ++ bmV (usedT U i))[8 + i / 8]? = some (u8 (bm (usedT U i) (i / 8))) := by
      rw [List.getElem?_append_right (by omega), hhd, Nat.add_sub_cancel_left, bmV_at _ (by omega)]
    refine Ev.prim ((ld_blk (hS.get (.head _))).trans ((ldK_own hE).trans hget)) ?_
    repeat (first | (first|refine zA ?_|refine zB fun _ _ _=>?_|refine zC fun _ _ _=>?_|refine zD fun _ _=>?_|refine zE ?_|refine zF ?_) | rw [decide_eq_true (by omega)] | rw [decide_eq_false (by omega)])
    refine Ev.prim (shl1 hm8) ?_
    have h2 : 2 ^ (i % 8) < 256 := Nat.pow_lt_pow_right (by decide) (m := i % 8) (n := 8) hm8
    refine Ev.prim (orU8 (bm_lt _ _) h2) ?_
    refine Ev.prim (ixA_own (i := 8 + i / 8) hE (by omega)) ?_
    rw [Nat.zero_add]
    refine Ev.st hS (.head _) (stK_own (i := 8 + i / 8) hE (by rw [List.length_append, hhd, bmV_len]; omega) rfl) rfl (.head _) fun H' hS' => ?_
    have e : (hd ++ bmV (usedT U i)).set (8 + i / 8) (u8 (bm (usedT U i) (i / 8) ||| 2 ^ (i % 8))) = hd ++ bmV (usedT U (i + 1)) := by
      rw [List.set_append_right _ _ (by omega), hhd, Nat.add_sub_cancel_left, show usedT U (i + 1) = (i : Int) :: usedT U i from if_pos hu, bmV_cons (n := (i : Int)) (by rw [Int.toNat_natCast]; omega), Int.toNat_natCast]
    rw [e] at hS'
    clear hS hN
    repeat (first | (first|refine zA ?_|refine zB fun _ _ _=>?_|refine zC fun _ _ _=>?_|refine zD fun _ _=>?_|refine zE ?_|refine zF ?_) | rw [decide_eq_true (by omega)] | rw [decide_eq_false (by omega)])
    exact ih (i + 1) H' (by omega) hS'
theorem rtext_spec {t r m : Nat} {uv : Value} {U : List Int} {Lu : List (Nat × Blk)} (hr : r < 9223372036854775808) (hm : m ≤ 512) (hU : ∀ n ∈ U, 0 ≤ n ∧ n < m) (hK : UK 4 uv (boolC U m) Lu) (hS : St H0 B0 B L H) (hsub : ∀ x ∈ Lu, x ∈ L) :
    Ev (fun k _ => rn k 66 [i64 t, i64 r, uv] H) (fun o => o.1 = str (textH t (r : Int) U) ∧ ∃ B', MoC B B' ∧ St H0 B0 B' L o.2) := by
  refine Ev.fn (fun k => f66_eq k _ _ _ H) ?_
  have hE : Elt Tryz.prog 95 5 (.int .u8 0) 1 := inferInstance
  refine Ev.mkS (t := 95) (m := 72) inferInstance hS (by omega) (by omega) fun b B' H2 hm2 hS2 => ?_
  clear hS
  have hS2' : St H0 B0 B' ((b, ⟨List.replicate (6 - 0) (.int .u8 0) ++ ((tB t).drop (6 - 0) ++ List.replicate 66 (.int .u8 0)), 5, .fix⟩) :: L) H2 := by
    rw [List.drop_of_length_le (by rw [tB_len]; decide)]
    exact hS2
  refine Ev.bind (Ev.loop (rtext_loop0 6 0 H2 rfl hS2')) ?_
  clear hS2 hS2'
  rintro _ ⟨H3, rfl, hS3⟩
  refine Ev.eq (fun k _ => f66_A0_x0 k _ _ _ H3) ?_
  refine Ev.prim (shrL (by decide)) ?_
  refine Ev.prim (toU8 (Und.eq (P := Tryz.prog) (t := 3)) (Und.eq (P := Tryz.prog) (t := 5))) ?_
  refine Ev.prim (show ixA Tryz.prog 95 (sl b 0 72 72) (.int .i64 6) = some (ptr b 6) from ixA_own (i := 6) hE (by decide)) ?_
  refine Ev.st hS3 (.head _) (stK_own (i := 6) hE (by simp [tB_len]) rfl) rfl (.head _) fun H4 hS4 => ?_
  clear hS3
  repeat (first|refine zA ?_|refine zB fun _ _ _=>?_|refine zC fun _ _ _=>?_|refine zD fun _ _=>?_|refine zE ?_|refine zF ?_)
  refine Ev.prim (show ixA Tryz.prog 95 (sl b 0 72 72) (.int .i64 7) = some (ptr b 7) from ixA_own (i := 7) hE (by decide)) ?_
  refine Ev.st hS4 (.head _) (stK_own (i := 7) hE (by simp [tB_len]) rfl) rfl (.head _) fun H5 hS5 => ?_
  clear hS4
  have e : ((tB t ++ List.replicate 66 (Value.int .u8 0)).set 6 (u8 (r / 2 ^ 8 % 256))).set 7 (u8 (r % 256)) = (tB t ++ [u8 (r / 2 ^ 8 % 256), u8 (r % 256)]) ++ bmV (usedT U 0) := by
    rw [List.set_append_right _ _ (by rw [tB_len]; decide), tB_len, List.set_append_right _ _ (by rw [tB_len]; decide), tB_len, List.append_assoc, show usedT U 0 = [] from rfl, bmV_nil]
    rfl
  rw [e] at hS5
  refine Ev.bind (Ev.loop (rtext_loop1 (hd := tB t ++ [u8 (r / 2 ^ 8 % 256), u8 (r % 256)]) (by simp [tB_len]) hm hK hsub m 0 H5 (by omega) hS5)) ?_
  clear hS5
  rintro _ ⟨H6, rfl, hS6⟩
  refine Ev.eq (fun k _ => f66_A1_x2 k _ H6) ?_
  have e2 : (tB t ++ [u8 (r / 2 ^ 8 % 256), u8 (r % 256)]) ++ bmV (usedT U m) = byts (textH t (r : Int) U) := by
    rw [tB_bytes, bmV_byts, usedT_bmL hU]
    unfold textH
    rw [byts_app, byts_app, List.append_assoc]
    congr 2
  rw [e2] at hS6
  refine Ev.prim (cvS_part (d := 9) (bs := textH t (r : Int) U) hS6 (.head _) (by omega) (by rw [textH_len]; omega)) ?_
  rw [List.drop_zero, List.take_of_length_le (by rw [textH_len]; exact Nat.le_refl _)]
  exact Ev.ret ⟨rfl, B', ⟨hm2⟩, hS6.drop1⟩
theorem rhas_spec {v : Value} {l : List Int} {x : Int} (hl : l.length < 1000000000000) (hN : ScN H v l.length 1 (intV l)) (hlv : lenV Tryz.prog 82 v = some (i64 l.length)) : Ev (fun k _ => rn k 43 [v, .int .i64 x] H) (fun r => r = (.bool (decide (x ∈ l)), H)) := by
  refine Ev.fn (fun k => f43_eq k _ _ H) ?_
  have key : ∀ (m i : Nat), i + m = l.length → Ev (fun k K => f43_L0 k v (.int .i64 x) (i64 i) K H) (fun o => (x ∈ l.drop i ∧ o = (.ret, f43_X_L0 (.bool true), H)) ∨ (x ∉ l.drop i ∧ o = (.exit 0, f43_X_L0 unk, H))) := by
    intro m
    induction m with
    | zero =>
      intro i hi
      refine Ev.succ (fun k K => f43_L0_succ k _ _ _ K H) ?_
      refine Ev.prim hlv ?_
      repeat (first | (first|refine zA ?_|refine zB fun _ _ _=>?_|refine zC fun _ _ _=>?_|refine zD fun _ _=>?_|refine zE ?_|refine zF ?_) | rw [decide_eq_true (by omega)] | rw [decide_eq_false (by omega)])
      exact Ev.ret (.inr ⟨by rw [List.drop_of_length_le (by omega)]; exact List.not_mem_nil, rfl⟩)
    | succ m ih =>
      intro i hi
      refine Ev.succ (fun k K => f43_L0_succ k _ _ _ K H) ?_
      refine Ev.prim hlv ?_
      repeat (first | (first|refine zA ?_|refine zB fun _ _ _=>?_|refine zC fun _ _ _=>?_|refine zD fun _ _=>?_|refine zE ?_|refine zF ?_) | rw [decide_eq_true (by omega)] | rw [decide_eq_false (by omega)])
      obtain ⟨y, hy⟩ : ∃ y, l[i]? = some y := ⟨_, List.getElem?_eq_getElem (by omega)⟩
      have hd : l.drop i = y :: l.drop (i + 1) := by
        have h1 := List.getElem?_eq_some_iff.1 hy
        rw [← h1.2]; exact List.drop_eq_getElem_cons h1.1
      refine Ev.ixN (t := 82) (x := .int .i64 y) hN i rfl (by omega) (by unfold intV; rw [List.getElem?_map, hy]; rfl) fun pp hp => ?_
      refine Ev.prim (hp.eq H (Mo.refl H)) ?_
      repeat (first|refine zA ?_|refine zB fun _ _ _=>?_|refine zC fun _ _ _=>?_|refine zD fun _ _=>?_|refine zE ?_|refine zF ?_)
      rw [hd]
      by_cases hyx : y = x
      · rw [decide_eq_true hyx]
        repeat (first|refine zA ?_|refine zB fun _ _ _=>?_|refine zC fun _ _ _=>?_|refine zD fun _ _=>?_|refine zE ?_|refine zF ?_)
        exact Ev.ret (.inl ⟨by rw [hyx]; exact .head _, rfl⟩)
      · rw [decide_eq_false hyx]
        repeat (first | (first|refine zA ?_|refine zB fun _ _ _=>?_|refine zC fun _ _ _=>?_|refine zD fun _ _=>?_|refine zE ?_|refine zF ?_) | rw [decide_eq_true (by omega)] | rw [decide_eq_false (by omega)])
        refine (ih (i + 1) (by omega)).mono ?_
        rintro o (⟨h, e⟩ | ⟨h, e⟩)
        · exact .inl ⟨.tail _ h, e⟩
        · exact .inr ⟨fun hh => by rcases List.mem_cons.1 hh with h2 | h2; exact hyx h2.symm; exact h h2, e⟩
  refine Ev.bind (Ev.loop (key l.length 0 (by omega))) ?_
  rintro _ (⟨h, rfl⟩ | ⟨h, rfl⟩)
  · rw [List.drop_zero] at h
    refine Ev.eq (fun k _ => f43_A0_ret k _ H) ?_
    rw [decide_eq_true h]
    exact Ev.ret rfl
  · rw [List.drop_zero] at h
    refine Ev.eq (fun k _ => f43_A0_x0 k _ H) ?_
    rw [decide_eq_false h]
    exact Ev.ret rfl
theorem rhasF_spec {v : Value} {l : List Int} {x : Int} {Lf Lx : List (Nat × Blk)} (hF : FR v l Lf) (hl : l.length < 1000000000000) (hS : St H0 B0 B Lx H) (hsub : ∀ p ∈ Lf, p ∈ Lx) : Ev (fun k _ => rn k 43 [v, .int .i64 x] H) (fun r => r = (.bool (decide (x ∈ l)), H)) :=
  rhas_spec hl (hF.now hS hsub) (hF.len (Und.eq (P := Tryz.prog) (t := 82)))
theorem rtold_spec {rb : Nat} {c0 c1 c2 c3 c4 : Value} {gn : Bool} {e : Int} [IsCell c0] [IsCell c1] [IsCell c2] [IsCell c3] [IsCell c4] (hS : St H0 B0 B ((rb, ⟨[c0, c1, c2, c3, c4, .bool gn], 84, .fix⟩) :: L) H) :
    Ev (fun k _ => rn k 46 [ptr rb 0, .int .i64 e] H) (fun r => r.1 = .int .i64 e ∧ St H0 B0 B ((rb, ⟨[c0, c1, c2, c3, c4, .bool (gn || decide (e = 7))], 84, .fix⟩) :: L) r.2) := by
  refine Ev.fn (fun k => f46_eq k _ _ H) ?_
  repeat (first|refine zA ?_|refine zB fun _ _ _=>?_|refine zC fun _ _ _=>?_|refine zD fun _ _=>?_|refine zE ?_|refine zF ?_)
  by_cases he : e = 7
  · rw [decide_eq_true he, Bool.or_true]
    repeat (first|refine zA ?_|refine zB fun _ _ _=>?_|refine zC fun _ _ _=>?_|refine zD fun _ _=>?_|refine zE ?_|refine zF ?_)
    rename_i H1 hS1
    refine Ev.eq (fun k _ => f46_J0_eq k _ H1) ?_
    exact Ev.ret ⟨rfl, hS1⟩
  · rw [decide_eq_false he, Bool.or_false]
    repeat (first|refine zA ?_|refine zB fun _ _ _=>?_|refine zC fun _ _ _=>?_|refine zD fun _ _=>?_|refine zE ?_|refine zF ?_)
    refine Ev.eq (fun k _ => f46_J0_eq k _ H) ?_
    exact Ev.ret ⟨rfl, hS⟩
theorem rroot_spec {rb m : Nat} {c0 c1 c2 uv fv gv' : Value} {U F : List Int} {n : Int} {Lu Lf : List (Nat × Blk)} (hK : UK 4 uv (boolC U m) Lu) (hF : FR fv F Lf) (hfl : F.length < 1000000) (hi : InL rb ⟨[c0, c1, c2, uv, fv, gv'], 84, .fix⟩ L) (hsu : ∀ x ∈ Lu, x ∈ L) (hsf : ∀ x ∈ Lf, x ∈ L) (hm : m ≤ 512) (hS : St H0 B0 B L H) :
    Ev (fun k _ => rn k 39 [ptr rb 0, .int .i64 n] H) (fun r => r = (.bool (decide (n = 0) || (decide (1 < n) && (decide (n < m) && (decide (n ∈ U) || decide (n ∈ F))))), H)) := by
  refine Ev.fn (fun k => f39_eq k _ _ H) ?_
  have hcu := hK.cell
  have hcf := hF.cell
  have hlu := hK.len (Und.eq (P := Tryz.prog) (t := 81))
  rw [boolC_len] at hlu
  repeat (first|refine zA ?_|refine zB fun _ _ _=>?_|refine zC fun _ _ _=>?_|refine zD fun _ _=>?_|refine zE ?_|refine zF ?_)
  by_cases h0 : n = 0
  · rw [decide_eq_true h0, Bool.true_or]
    repeat (first|refine zA ?_|refine zB fun _ _ _=>?_|refine zC fun _ _ _=>?_|refine zD fun _ _=>?_|refine zE ?_|refine zF ?_)
    exact Ev.ret rfl
  rw [decide_eq_false h0, Bool.false_or]
  repeat (first|refine zA ?_|refine zB fun _ _ _=>?_|refine zC fun _ _ _=>?_|refine zD fun _ _=>?_|refine zE ?_|refine zF ?_)
  by_cases h1 : 1 < n
  case neg =>
    rw [decide_eq_false h1, Bool.false_and]
    repeat (first|refine zA ?_|refine zB fun _ _ _=>?_|refine zC fun _ _ _=>?_|refine zD fun _ _=>?_|refine zE ?_|refine zF ?_)
    exact Ev.ret rfl
  rw [decide_eq_true h1, Bool.true_and]
  repeat (first|refine zA ?_|refine zB fun _ _ _=>?_|refine zC fun _ _ _=>?_|refine zD fun _ _=>?_|refine zE ?_|refine zF ?_)
  rw [hlu, Option.bind_some]
  repeat (first|refine zA ?_|refine zB fun _ _ _=>?_|refine zC fun _ _ _=>?_|refine zD fun _ _=>?_|refine zE ?_|refine zF ?_)
  by_cases h2 : n < m
  case neg =>
    rw [decide_eq_false h2, Bool.false_and]
    repeat (first|refine zA ?_|refine zB fun _ _ _=>?_|refine zC fun _ _ _=>?_|refine zD fun _ _=>?_|refine zE ?_|refine zF ?_)
    exact Ev.ret rfl
  rw [decide_eq_true h2, Bool.true_and]
  repeat (first|refine zA ?_|refine zB fun _ _ _=>?_|refine zC fun _ _ _=>?_|refine zD fun _ _=>?_|refine zE ?_|refine zF ?_)
  obtain ⟨q, rfl⟩ : ∃ q : Nat, n = q := ⟨n.toNat, by omega⟩
  have hN := hK.now hS hsu
  rw [boolC_len] at hN
  refine Ev.ixNg (t := 81) hN q rfl (by omega) (boolC_at (by omega)) fun pp hp => ?_
  repeat (first|refine zA ?_|refine zB fun _ _ _=>?_|refine zC fun _ _ _=>?_|refine zD fun _ _=>?_|refine zE ?_|refine zF ?_)
  rw [hp.eq H (Mo.refl H), Option.bind_some]
  repeat (first|refine zA ?_|refine zB fun _ _ _=>?_|refine zC fun _ _ _=>?_|refine zD fun _ _=>?_|refine zE ?_|refine zF ?_)
  by_cases h3 : (q : Int) ∈ U
  · rw [decide_eq_true h3, Bool.true_or]
    repeat (first|refine zA ?_|refine zB fun _ _ _=>?_|refine zC fun _ _ _=>?_|refine zD fun _ _=>?_|refine zE ?_|refine zF ?_)
    exact Ev.ret rfl
  rw [decide_eq_false h3, Bool.false_or]
  repeat (first|refine zA ?_|refine zB fun _ _ _=>?_|refine zC fun _ _ _=>?_|refine zD fun _ _=>?_|refine zE ?_|refine zF ?_)
  refine Ev.b2 (rhasF_spec (x := (q : Int)) hF (by omega) hS hsf) ?_
  rintro _ _ h
  cases h
  repeat (first|refine zA ?_|refine zB fun _ _ _=>?_|refine zC fun _ _ _=>?_|refine zD fun _ _=>?_|refine zE ?_|refine zF ?_)
  exact Ev.ret rfl
end
end Go.AM.E
namespace Go.AM.E
open Go Go.AM Go.Proofs
attribute [local irreducible] run bin un ld st box newV mkS fldA fld ixA ix slc slc3 build buildS cv cvS ap cpy lenV gOp pickV b2 aIf aChk evalK resume iterD Option.bind

section
variable {B B0 H0 H : AH} {L : List (Nat × Blk)}
def RK (p xv : Value) (G : Pgr) (D : Dsk) (Ls : List (Nat × Blk)) : Prop := ∃ rb uv fv Lu Lf Ld, p = ptr rb 0 ∧ XK xv D Ld ∧ UK 4 uv (boolC G.used (D.n / 2)) Lu ∧ FR fv G.fresh Lf ∧
  Ls = (rb, ⟨[xv, i64 G.turn, .int .i64 G.root, uv, fv, .bool G.down], 84, .fix⟩) :: (Lu ++ (Lf ++ Ld))
theorem RK.ptr {p xv : Value} {G : Pgr} {D : Dsk} {Ls : List (Nat × Blk)} (h : RK p xv G D Ls) : ∃ b, p = ptr b 0 := by obtain ⟨rb, _, _, _, _, _, hp, _⟩ := h; exact ⟨rb, hp⟩
def RgP (H0 B0 B : AH) (L : List (Nat × Blk)) (p xv v : Value) (G : Pgr) (D : Dsk) (r : Value × AH) : Prop := r.1 = v ∧ ∃ Ls B', MoC B B' ∧ RK p xv G D Ls ∧ St H0 B0 B' (Ls ++ L) r.2
theorem rBack_spec {p xv : Value} {G : Pgr} {D : Dsk} {Ls : List (Nat × Blk)} {many : Int} (hP : RK p xv G D Ls) (hl : G.fresh.length < 100000) (hS : St H0 B0 B (Ls ++ L) H) :
    Ev (fun k _ => rn k 79 [p, .int .i64 many] H) (RgP H0 B0 B L p xv (.tuple #[]) (G.back many) D) := by
  obtain ⟨rb, uv, fv, Lu, Lf, Ld, rfl, hD, hK, hF, rfl⟩ := hP
  obtain ⟨d, rfl⟩ := hD.ptr
  have hcu := hK.cell
  have hcell := hF.cell
  simp only [List.cons_append] at hS
  refine Ev.fn (fun k => f79_eq k _ _ H) ?_
  repeat (first|refine zA ?_|refine zB fun _ _ _=>?_|refine zC fun _ _ _=>?_|refine zD fun _ _=>?_|refine zE ?_|refine zF ?_)
  refine Ev.prim (hF.len (Und.eq (P := Tryz.prog) (t := 82))) ?_
  refine Ev.prim (show fold1 minV [.int .i64 (if 0 > many then 0 else many), i64 G.fresh.length] = some (.int .i64 ((min many.toNat G.fresh.length : Nat) : Int)) from by
    rw [min_int]; congr 2; split <;> omega) ?_
  obtain ⟨fv', q1, q2⟩ := hF.back eltI (j := min many.toNat G.fresh.length) (Nat.min_le_right _ _)
  have hcell' := q2.cell
  refine Ev.prim q1 ?_
  repeat (first|refine zA ?_|refine zB fun _ _ _=>?_|refine zC fun _ _ _=>?_|refine zD fun _ _=>?_|refine zE ?_|refine zF ?_)
  have e : G.fresh.take (min many.toNat G.fresh.length) = G.fresh.take many.toNat := by
    rcases Nat.le_total many.toNat G.fresh.length with h | h
    · rw [Nat.min_eq_left h]
    · rw [Nat.min_eq_right h, List.take_length, List.take_of_length_le h]
  rw [e] at q2
  exact Ev.ret ⟨rfl, _, B, ⟨Mo.refl B⟩, ⟨rb, uv, fv', Lu, Lf, Ld, rfl, hD, hK, q2, rfl⟩, by assumption⟩
theorem rAlloc_loop {rb d m : Nat} {fv tv rv uv : Value} {Lu Lf Lr : List (Nat × Blk)} {U F : List Int} [IsCell tv] [IsCell rv] (hK : UK 4 uv (boolC U m) Lu) (hF : FR fv F Lf) (hl : F.length < 100000) (hm : m ≤ 512) : ∀ (q i : Nat), i + q = m →
    (St H0 B0 B ((rb, ⟨[ptr d 0, tv, rv, uv, fv, .bool false], 84, .fix⟩) :: (Lu ++ (Lf ++ Lr))) H) → (∀ j < i, (!decide (((j : Nat) : Int) ∈ U) && !decide ((j : Int) ∈ F)) = false) →
    Ev (fun k K => f17_L0 k (ptr rb 0) (i64 i) K H) (fun o =>
      (∃ n : Nat, (List.range m).find? (fun (n : Nat) => !decide ((n : Int) ∈ U) && !decide ((n : Int) ∈ F)) = some n ∧ ∃ fv' Lf' H', o = (.ret, f17_X_L0 (i64 n) (.int .i64 0), H') ∧ FR fv' (F ++ [(n : Int)]) Lf' ∧
        St H0 B0 B ((rb, ⟨[ptr d 0, tv, rv, uv, fv', .bool false], 84, .fix⟩) :: (Lu ++ (Lf' ++ Lr))) H') ∨
      ((List.range m).find? (fun (n : Nat) => !decide ((n : Int) ∈ U) && !decide ((n : Int) ∈ F)) = none ∧ o = (.exit 0, f17_X_L0 unk unk, H))) := by
  have hcu := hK.cell
  have hcell := hF.cell
  have hlu := hK.len (Und.eq (P := Tryz.prog) (t := 81))
  rw [boolC_len] at hlu
  have hlf := hF.len (Und.eq (P := Tryz.prog) (t := 82))
  intro q
  induction q with
  | zero =>
    intro i hi hS hno
    refine Ev.succ (fun k K => f17_L0_succ k _ _ K H) ?_
    repeat (first|refine zA ?_|refine zB fun _ _ _=>?_|refine zC fun _ _ _=>?_|refine zD fun _ _=>?_|refine zE ?_|refine zF ?_)
    refine Ev.prim hlu ?_
    repeat (first|refine zA ?_|refine zB fun _ _ _=>?_|refine zC fun _ _ _=>?_|refine zD fun _ _=>?_|refine zE ?_|refine zF ?_)
    rw [decide_eq_false (by omega)]
    repeat (first|refine zA ?_|refine zB fun _ _ _=>?_|refine zC fun _ _ _=>?_|refine zD fun _ _=>?_|refine zE ?_|refine zF ?_)
    refine Ev.ret (.inr ⟨?_, rfl⟩)
    rw [List.find?_eq_none]
    intro j hj
    rw [hno j (by have := List.mem_range.1 hj; omega)]
    decide
  | succ q ih =>
    intro i hi hS hno
    refine Ev.succ (fun k K => f17_L0_succ k _ _ K H) ?_
    repeat (first|refine zA ?_|refine zB fun _ _ _=>?_|refine zC fun _ _ _=>?_|refine zD fun _ _=>?_|refine zE ?_|refine zF ?_)
    refine Ev.prim hlu ?_
    repeat (first|refine zA ?_|refine zB fun _ _ _=>?_|refine zC fun _ _ _=>?_|refine zD fun _ _=>?_|refine zE ?_|refine zF ?_)
    rw [decide_eq_true (by omega)]
    repeat (first|refine zA ?_|refine zB fun _ _ _=>?_|refine zC fun _ _ _=>?_|refine zD fun _ _=>?_|refine zE ?_|refine zF ?_)
    have hN := hK.now hS (fun x hx => .tail _ (List.mem_append_left _ hx))
    rw [boolC_len] at hN
    refine Ev.ixN (t := 81) hN i rfl (by omega) (boolC_at (by omega)) fun pp hp => ?_
    refine Ev.prim (hp.eq H (Mo.refl H)) ?_
    have next : (!decide ((i : Int) ∈ U) && !decide ((i : Int) ∈ F)) = false → ∀ j < i + 1, (!decide (((j : Nat) : Int) ∈ U) && !decide ((j : Int) ∈ F)) = false := fun h j hj => by
      by_cases he : j = i
      · subst he; exact h
      · exact hno j (by omega)
    by_cases hu : (i : Int) ∈ U
    · rw [decide_eq_true hu]
      repeat (first | (first|refine zA ?_|refine zB fun _ _ _=>?_|refine zC fun _ _ _=>?_|refine zD fun _ _=>?_|refine zE ?_|refine zF ?_) | rw [decide_eq_true (by omega)] | rw [decide_eq_false (by omega)])
      exact ih (i + 1) (by omega) hS (next (by simp [hu]))
    rw [decide_eq_false hu]
    repeat (first|refine zA ?_|refine zB fun _ _ _=>?_|refine zC fun _ _ _=>?_|refine zD fun _ _=>?_|refine zE ?_|refine zF ?_)
    refine Ev.b2 (rhasF_spec (x := (i : Int)) hF (by omega) hS fun x hx => .tail _ (List.mem_append_right _ (List.mem_append_left _ hx))) ?_
    rintro v H1 h
    cases h
    by_cases hf : (i : Int) ∈ F
    · rw [decide_eq_true hf]
      repeat (first | (first|refine zA ?_|refine zB fun _ _ _=>?_|refine zC fun _ _ _=>?_|refine zD fun _ _=>?_|refine zE ?_|refine zF ?_) | rw [decide_eq_true (by omega)] | rw [decide_eq_false (by omega)])
      exact ih (i + 1) (by omega) hS (next (by simp [hf]))
    rw [decide_eq_false hf]
    repeat (first|refine zA ?_|refine zB fun _ _ _=>?_|refine zC fun _ _ _=>?_|refine zD fun _ _=>?_|refine zE ?_|refine zF ?_)
    refine Ev.prim hlf ?_
    repeat (first|refine zA ?_|refine zB fun _ _ _=>?_|refine zC fun _ _ _=>?_|refine zD fun _ _=>?_|refine zE ?_|refine zF ?_)
    refine Ev.prim hlf ?_
    obtain ⟨fv2, Lf2, s1, s2, s3⟩ := hF.slc3 (P := Tryz.prog) (t := 82) eltI hS fun p hp => .tail _ (List.mem_append_right _ (List.mem_append_left _ hp))
    refine Ev.prim s1 ?_
    have hS2 : St H0 B0 B ((rb, ⟨[ptr d 0, tv, rv, uv, fv, .bool false], 84, .fix⟩) :: (Lu ++ (Lf2 ++ Lr))) H := hS.drop (.cons_cons _ (List.Sublist.append_left (List.Sublist.append_right s3 _) _))
    clear hS hN
    refine FRS.push (x := ((i : Nat) : Int)) eltI s2 (hS2.perm (L' := Lf2 ++ ((rb, ⟨[ptr d 0, tv, rv, uv, fv, .bool false], 84, .fix⟩) :: (Lu ++ Lr))) (by (refine perm_cnt ?_; intro _ a; simp only [List.count_append, List.count_cons, List.cons_append, List.nil_append, List.append_assoc]; try ac_rfl))) (by omega) fun fv' Lf' H' hF' hS' => ?_
    have hcell' := hF'.cell
    have hS3 : St H0 B0 B ((rb, ⟨[ptr d 0, tv, rv, uv, fv, .bool false], 84, .fix⟩) :: (Lu ++ (Lf' ++ Lr))) H' := hS'.perm (by (refine perm_cnt ?_; intro _ a; simp only [List.count_append, List.count_cons, List.cons_append, List.nil_append, List.append_assoc]; try ac_rfl))
    clear hS2 hS'
    repeat (first|refine zA ?_|refine zB fun _ _ _=>?_|refine zC fun _ _ _=>?_|refine zD fun _ _=>?_|refine zE ?_|refine zF ?_)
    refine Ev.ret (.inl ⟨i, ?_, fv', Lf', _, rfl, hF', by assumption⟩)
    rw [List.find?_range_eq_some]
    exact ⟨by simp [hu, hf], List.mem_range.2 (by omega), fun j hj => by rw [hno j hj]; rfl⟩
theorem rAlloc_spec {p xv : Value} {G : Pgr} {D : Dsk} {Ls : List (Nat × Blk)} (hP : RK p xv G D Ls) (hO : D.OK) (hl : G.fresh.length < 100000) (hS : St H0 B0 B (Ls ++ L) H) :
    Ev (fun k _ => rn k 17 [p] H) (RgP H0 B0 B L p xv (.tuple #[.int .i64 (G.alloc (D.n / 2)).1, .int .i64 (G.alloc (D.n / 2)).2.1]) (G.alloc (D.n / 2)).2.2 D) := by
  have hP0 := hP
  obtain ⟨rb, uv, fv, Lu, Lf, Ld, rfl, hD, hK, hF, rfl⟩ := hP
  obtain ⟨d, rfl⟩ := hD.ptr
  have hcu := hK.cell
  have hcell := hF.cell
  obtain ⟨turn, root, U, F, dn⟩ := G
  dsimp only at hF hl hP0 hS hK
  refine Ev.fn (fun k => f17_eq k _ H) ?_
  simp only [List.cons_append] at hS
  unfold Pgr.alloc
  dsimp only
  have hn := hO.n2
  cases dn with
  | true =>
    repeat (first|refine zA ?_|refine zB fun _ _ _=>?_|refine zC fun _ _ _=>?_|refine zD fun _ _=>?_|refine zE ?_|refine zF ?_)
    exact Ev.ret ⟨rfl, _, B, ⟨Mo.refl B⟩, hP0, hS⟩
  | false =>
    rw [if_neg (by decide)]
    repeat (first|refine zA ?_|refine zB fun _ _ _=>?_|refine zC fun _ _ _=>?_|refine zD fun _ _=>?_|refine zE ?_|refine zF ?_)
    have hS2 : St H0 B0 B ((rb, ⟨[ptr d 0, i64 turn, .int .i64 root, uv, fv, .bool false], 84, .fix⟩) :: (Lu ++ (Lf ++ (Ld ++ L)))) H := hS.perm (by (refine perm_cnt ?_; intro _ a; simp only [List.count_append, List.count_cons, List.cons_append, List.nil_append, List.append_assoc]; try ac_rfl))
    refine Ev.bind (Ev.loop (rAlloc_loop hK hF hl (by omega) (D.n / 2) 0 (by omega) hS2 (fun j hj => by omega))) ?_
    rintro _ (⟨n, hfd, fv', Lf', H', rfl, hF', hS'⟩ | ⟨hfd, rfl⟩)
    · refine Ev.eq (fun k _ => f17_A0_ret k _ _ H') ?_
      rw [hfd]
      exact Ev.ret ⟨rfl, _, B, ⟨Mo.refl B⟩, ⟨rb, uv, fv', Lu, Lf', Ld, rfl, hD, hK, hF', rfl⟩, hS'.perm (by (refine perm_cnt ?_; intro _ a; simp only [List.count_append, List.count_cons, List.cons_append, List.nil_append, List.append_assoc]; try ac_rfl))⟩
    · refine Ev.eq (fun k _ => f17_A0_x0 k _ _ H) ?_
      rw [hfd]
      exact Ev.ret ⟨rfl, _, B, ⟨Mo.refl B⟩, hP0, hS⟩
theorem rWrite_spec {p xv : Value} {G : Pgr} {D : Dsk} {Ls : List (Nat × Blk)} {n kind : Int} {t : List UInt8} (hP : RK p xv G D Ls) (hO : D.OK) (hc : D.cache.length + 1 < 1000000000000) (hl : G.fresh.length < 100000) (ht : t.length < 9223372036854775808) (hk : -9223372036854775808 ≤ kind ∧ kind < 9223372036854775808) (hS : St H0 B0 B (Ls ++ L) H) :
    Ev (fun k _ => rn k 19 [p, .int .i64 n, .int .i64 kind, str t] H) (RgP H0 B0 B L p xv (.int .i64 (G.write D n kind t).1) (G.write D n kind t).2.1 (G.write D n kind t).2.2) := by
  have hP0 := hP
  obtain ⟨rb, uv, fv, Lu, Lf, Ld, rfl, hD, hK, hF, rfl⟩ := hP
  obtain ⟨d, rfl⟩ := hD.ptr
  have hcu := hK.cell
  have hcell := hF.cell
  obtain ⟨turn, root, U, F, dn⟩ := G
  dsimp only at hF hl hP0 hS hK
  simp only [List.cons_append] at hS
  refine Ev.fn (fun k => f19_eq k _ _ _ _ H) ?_
  unfold Pgr.write
  dsimp only
  cases dn with
  | true =>
    rw [if_pos rfl]
    repeat (first|refine zA ?_|refine zB fun _ _ _=>?_|refine zC fun _ _ _=>?_|refine zD fun _ _=>?_|refine zE ?_|refine zF ?_)
    exact Ev.ret ⟨rfl, _, B, ⟨Mo.refl B⟩, hP0, hS⟩
  | false =>
    rw [if_neg (by decide)]
    repeat (first|refine zA ?_|refine zB fun _ _ _=>?_|refine zC fun _ _ _=>?_|refine zD fun _ _=>?_|refine zE ?_|refine zF ?_)
    refine Ev.b2 (rhasF_spec (x := n) hF (by omega) hS fun x hx => .tail _ (List.mem_append_left _ (List.mem_append_right _ (List.mem_append_left _ hx)))) ?_
    rintro v H1 h
    cases h
    by_cases hf : n ∈ F
    case neg =>
      rw [decide_eq_false hf, if_pos hf]
      repeat (first|refine zA ?_|refine zB fun _ _ _=>?_|refine zC fun _ _ _=>?_|refine zD fun _ _=>?_|refine zE ?_|refine zF ?_)
      exact Ev.ret ⟨rfl, _, B, ⟨Mo.refl B⟩, hP0, hS⟩
    rw [decide_eq_true hf, if_neg (by simpa using hf)]
    repeat (first|refine zA ?_|refine zB fun _ _ _=>?_|refine zC fun _ _ _=>?_|refine zD fun _ _=>?_|refine zE ?_|refine zF ?_)
    have hpn := D.pwrite_n n kind t
    refine Ev.b2 (xpWrite_spec (n := n) (kind := kind) (L := (rb, ⟨[ptr d 0, i64 turn, .int .i64 root, uv, fv, .bool false], 84, .fix⟩) :: (Lu ++ (Lf ++ L))) hD hO hc ht hk (hS.perm (by (refine perm_cnt ?_; intro _ a; simp only [List.count_append, List.count_cons, List.cons_append, List.nil_append, List.append_assoc]; try ac_rfl)))) ?_
    generalize D.pwrite n kind t = w at hpn
    obtain ⟨w1, w2⟩ := w
    dsimp only at hpn ⊢
    rintro _ H2 ⟨rfl, Ld2, B2, hm2, hD2, hS2⟩
    dsimp only at hS2
    clear hS
    repeat (first|refine zA ?_|refine zB fun _ _ _=>?_|refine zC fun _ _ _=>?_|refine zD fun _ _=>?_|refine zE ?_|refine zF ?_)
    refine Ev.b2 (rtold_spec (L := Lu ++ (Lf ++ (Ld2 ++ L))) (hS2.perm (by (refine perm_cnt ?_; intro _ a; simp only [List.count_append, List.count_cons, List.cons_append, List.nil_append, List.append_assoc]; try ac_rfl)))) ?_
    rintro _ H3 ⟨rfl, hS3⟩
    dsimp only at hS3
    rw [← hpn] at hK
    exact Ev.ret ⟨rfl, _, B2, hm2, ⟨rb, uv, fv, Lu, Lf, Ld2, rfl, hD2, hK, hF, rfl⟩, hS3.perm (by unfold Pgr.told; dsimp only; (refine perm_cnt ?_; intro _ a; simp only [List.count_append, List.count_cons, List.cons_append, List.nil_append, List.append_assoc]; try ac_rfl))⟩
theorem rRead_spec {p xv : Value} {G : Pgr} {D : Dsk} {Ls : List (Nat × Blk)} {n : Int} (hP : RK p xv G D Ls) (hO : D.OK) (hc : D.cache.length < 1000000000000) (hS : St H0 B0 B (Ls ++ L) H) :
    Ev (fun k _ => rn k 95 [p, .int .i64 n] H) (RgP H0 B0 B L p xv (OpenV (G.read D n).1) (G.read D n).2 D) := by
  have hP0 := hP
  obtain ⟨rb, uv, fv, Lu, Lf, Ld, rfl, hD, hK, hF, rfl⟩ := hP
  obtain ⟨d, rfl⟩ := hD.ptr
  have hcu := hK.cell
  have hcell := hF.cell
  have hlu := hK.len (Und.eq (P := Tryz.prog) (t := 81))
  rw [boolC_len] at hlu
  obtain ⟨turn, root, U, F, dn⟩ := G
  dsimp only at hF hP0 hS hK
  simp only [List.cons_append] at hS
  refine Ev.fn (fun k => f95_eq k _ _ H) ?_
  unfold Pgr.read
  dsimp only
  cases dn with
  | true =>
    rw [if_pos rfl]
    repeat (first|refine zA ?_|refine zB fun _ _ _=>?_|refine zC fun _ _ _=>?_|refine zD fun _ _=>?_|refine zE ?_|refine zF ?_)
    exact Ev.ret ⟨rfl, _, B, ⟨Mo.refl B⟩, hP0, hS⟩
  | false =>
    rw [if_neg (by decide)]
    repeat (first|refine zA ?_|refine zB fun _ _ _=>?_|refine zC fun _ _ _=>?_|refine zD fun _ _=>?_|refine zE ?_|refine zF ?_)
    by_cases h1 : n < 0
    · rw [decide_eq_true h1, if_pos (.inl h1)]
      repeat (first|refine zA ?_|refine zB fun _ _ _=>?_|refine zC fun _ _ _=>?_|refine zD fun _ _=>?_|refine zE ?_|refine zF ?_)
      exact Ev.ret ⟨rfl, _, B, ⟨Mo.refl B⟩, hP0, hS⟩
    rw [decide_eq_false h1]
    repeat (first|refine zA ?_|refine zB fun _ _ _=>?_|refine zC fun _ _ _=>?_|refine zD fun _ _=>?_|refine zE ?_|refine zF ?_)
    rw [hlu, Option.bind_some]
    repeat (first|refine zA ?_|refine zB fun _ _ _=>?_|refine zC fun _ _ _=>?_|refine zD fun _ _=>?_|refine zE ?_|refine zF ?_)
    by_cases h2 : ((D.n / 2 : Nat) : Int) ≤ n
    · rw [decide_eq_true h2, if_pos (.inr h2)]
      repeat (first|refine zA ?_|refine zB fun _ _ _=>?_|refine zC fun _ _ _=>?_|refine zD fun _ _=>?_|refine zE ?_|refine zF ?_)
      exact Ev.ret ⟨rfl, _, B, ⟨Mo.refl B⟩, hP0, hS⟩
    rw [decide_eq_false h2, if_neg (fun h => by rcases h with h | h; exact h1 h; exact h2 h)]
    repeat (first|refine zA ?_|refine zB fun _ _ _=>?_|refine zC fun _ _ _=>?_|refine zD fun _ _=>?_|refine zE ?_|refine zF ?_)
    refine Ev.b2 (xpRead_spec (n := n) hD hO hc hS fun x hx => .tail _ (List.mem_append_left _ (List.mem_append_right _ (List.mem_append_right _ hx)))) ?_
    generalize D.pread n = w
    obtain ⟨w1, w2, w3⟩ := w
    rintro _ H2 ⟨rfl, B2, hm2, hS2⟩
    dsimp only at hS2
    clear hS
    unfold OpenV
    dsimp only
    repeat (first|refine zA ?_|refine zB fun _ _ _=>?_|refine zC fun _ _ _=>?_|refine zD fun _ _=>?_|refine zE ?_|refine zF ?_)
    refine Ev.b2 (rtold_spec hS2) ?_
    rintro _ H3 ⟨rfl, hS3⟩
    dsimp only at hS3
    exact Ev.ret ⟨rfl, _, B2, hm2, ⟨rb, uv, fv, Lu, Lf, Ld, rfl, hD, hK, hF, rfl⟩, hS3⟩
theorem rFormat_spec {xv : Value} {D : Dsk} {Ls : List (Nat × Blk)} (hD : XK xv D Ls) (hO : D.OK) (hc : D.cache.length + 2 < 1000000000000) (hS : St H0 B0 B (Ls ++ L) H) :
    Ev (fun k _ => rn k 27 [xv] H) (fun r => (D.format.1 ≠ 0 ∧ XkP H0 B0 B L xv (.tuple #[.pointer none, .int .i64 D.format.1]) D.format.2 r) ∨ (D.format.1 = 0 ∧ ∃ p, RgP H0 B0 B L p xv (.tuple #[p, .int .i64 0]) ⟨1, 0, [0, 1], [], false⟩ D.format.2 r)) := by
  have hn2 := hO.n2
  obtain ⟨d, rfl⟩ := hD.ptr
  refine Ev.fn (fun k => f27_eq k _ H) ?_
  refine Ev.b2 (xmany_spec hD hO hS fun x hx => List.mem_append_left _ hx) ?_
  rintro _ _ h
  cases h
  unfold Dsk.format
  by_cases h4 : D.n / 2 < 4
  · rw [if_pos h4]
    repeat (first|refine zA ?_|refine zB fun _ _ _=>?_|refine zC fun _ _ _=>?_|refine zD fun _ _=>?_|refine zE ?_|refine zF ?_)
    rw [decide_eq_true h4]
    repeat (first|refine zA ?_|refine zB fun _ _ _=>?_|refine zC fun _ _ _=>?_|refine zD fun _ _=>?_|refine zE ?_|refine zF ?_)
    exact Ev.ret (.inl ⟨show (1 : Int) ≠ 0 by decide, rfl, Ls, B, ⟨Mo.refl B⟩, hD, hS⟩)
  rw [if_neg h4]
  repeat (first|refine zA ?_|refine zB fun _ _ _=>?_|refine zC fun _ _ _=>?_|refine zD fun _ _=>?_|refine zE ?_|refine zF ?_)
  rw [decide_eq_false h4]
  repeat (first|refine zA ?_|refine zB fun _ _ _=>?_|refine zC fun _ _ _=>?_|refine zD fun _ _=>?_|refine zE ?_|refine zF ?_)
  refine Ev.b2 (xmany_spec hD hO hS fun x hx => List.mem_append_left _ hx) ?_
  rintro _ _ h
  cases h
  have hE : Elt Tryz.prog 81 4 (.bool false) 1 := inferInstance
  refine Ev.mkS (t := 81) (m := D.n / 2) inferInstance hS (by omega) (by omega) fun b B2 H2 hm2 hS2 => ?_
  clear hS
  have hK0 : UK 4 (sl b 0 (D.n / 2) (D.n / 2)) (boolC [] (D.n / 2)) [(b, ⟨boolC [] (D.n / 2), 4, .fix⟩)] := ⟨b, .fix, D.n / 2, by rw [boolC_len], by rw [boolC_len]; exact Nat.le_refl _, .inr rfl, rfl⟩
  have hS2' : St H0 B0 B2 ([(b, ⟨boolC [] (D.n / 2), 4, .fix⟩)] ++ (Ls ++ L)) H2 := by rw [boolC_nil]; exact hS2
  clear hS2
  obtain ⟨p0, H3, L3, a1, a2, hK3, hS3⟩ := hK0.store (P := Tryz.prog) (t := 81) (i := 0) (w := .bool true) hS2' (by rw [boolC_len]; omega) rfl
  rw [boolC_set (by omega)] at hK3
  obtain ⟨p1, H4, L4, b1, b2, hK4, hS4⟩ := hK3.store (P := Tryz.prog) (t := 81) (i := 1) (w := .bool true) hS3 (by rw [boolC_len]; omega) rfl
  rw [boolC_set (by omega)] at hK4
  clear hS2' hS3
  refine Ev.prim (a1 .i64) ?_
  refine Ev.prim a2 ?_
  refine Ev.prim (b1 .i64) ?_
  refine Ev.prim b2 ?_
  have eU : boolC (insI (insI [] ((0 : Nat) : Int)) ((1 : Nat) : Int)) (D.n / 2) = boolC [0, 1] (D.n / 2) := rfl
  rw [eU] at hK4
  refine Ev.b2 (rtext_spec (t := 1) (r := 0) (by decide) (by omega) (U := [0, 1]) (fun n hn => by simp at hn; omega) hK4 hS4 fun x hx => List.mem_append_left _ hx) ?_
  rintro _ H5 ⟨rfl, B5, hm5, hS5⟩
  dsimp only at hS5
  clear hS4
  have hwn := hwrite_n D 1 0 [0, 1]
  have hwo : (hwrite D 1 0 [0, 1]).2.OK := pwrite_ok hO _ _ _
  have hwc : (hwrite D 1 0 [0, 1]).2.cache.length ≤ D.cache.length + 2 := pwrite_cache D _ _ _
  refine Ev.b2 (xpWrite_spec (n := 1) (kind := 1) (t := textH 1 0 [0, 1]) (L := L4 ++ L) hD hO (by omega) (by rw [textH_len]; decide) (by decide) (hS5.perm (by (refine perm_cnt ?_; intro _ a; simp only [List.count_append, List.count_cons, List.cons_append, List.nil_append, List.append_assoc]; try ac_rfl)))) ?_
  rw [show D.pwrite 1 1 (textH 1 0 [0, 1]) = hwrite D 1 0 [0, 1] from rfl]
  generalize hwrite D 1 0 [0, 1] = w at hwn hwo hwc
  obtain ⟨w1, w2⟩ := w
  dsimp only at hwn hwo hwc ⊢
  rintro _ H6 ⟨rfl, Ls6, B6, hm6, hD6, hS6⟩
  dsimp only at hS6
  clear hS5
  repeat (first|refine zA ?_|refine zB fun _ _ _=>?_|refine zC fun _ _ _=>?_|refine zD fun _ _=>?_|refine zE ?_|refine zF ?_)
  by_cases hw : w1 = 0
  case neg =>
    rw [decide_eq_false hw, if_pos hw]
    repeat (first|refine zA ?_|refine zB fun _ _ _=>?_|refine zC fun _ _ _=>?_|refine zD fun _ _=>?_|refine zE ?_|refine zF ?_)
    refine Ev.eq (fun k _ => f27_J0_eq k _ _ _ H6) ?_
    repeat (first|refine zA ?_|refine zB fun _ _ _=>?_|refine zC fun _ _ _=>?_|refine zD fun _ _=>?_|refine zE ?_|refine zF ?_)
    rw [decide_eq_true hw]
    repeat (first|refine zA ?_|refine zB fun _ _ _=>?_|refine zC fun _ _ _=>?_|refine zD fun _ _=>?_|refine zE ?_|refine zF ?_)
    exact Ev.ret (.inl ⟨hw, rfl, Ls6, B6, ⟨hm2.trans (hm5.mo.trans hm6.mo)⟩, hD6, hS6.drop (List.Sublist.append_left (List.sublist_append_right _ _) _)⟩)
  rw [decide_eq_true hw, if_neg (by simpa using hw)]
  repeat (first|refine zA ?_|refine zB fun _ _ _=>?_|refine zC fun _ _ _=>?_|refine zD fun _ _=>?_|refine zE ?_|refine zF ?_)
  refine Ev.b2 (xBarrier_spec hD6 hwo (by omega) hS6) ?_
  have hbn := w2.barrier_n
  generalize w2.barrier = z at hbn
  obtain ⟨z1, z2⟩ := z
  dsimp only at hbn ⊢
  rintro _ H7 ⟨rfl, Ls7, B7, hm7, hD7, hS7⟩
  dsimp only at hS7
  clear hS6
  refine Ev.eq (fun k _ => f27_J0_eq k _ _ _ H7) ?_
  repeat (first|refine zA ?_|refine zB fun _ _ _=>?_|refine zC fun _ _ _=>?_|refine zD fun _ _=>?_|refine zE ?_|refine zF ?_)
  by_cases hz : z1 = 0
  case neg =>
    rw [decide_eq_true hz]
    repeat (first|refine zA ?_|refine zB fun _ _ _=>?_|refine zC fun _ _ _=>?_|refine zD fun _ _=>?_|refine zE ?_|refine zF ?_)
    exact Ev.ret (.inl ⟨hz, rfl, Ls7, B7, ⟨hm2.trans (hm5.mo.trans (hm6.mo.trans hm7.mo))⟩, hD7, hS7.drop (List.Sublist.append_left (List.sublist_append_right _ _) _)⟩)
  rw [decide_eq_false (by simpa using hz)]
  have hcu := hK4.cell
  repeat (first|refine zA ?_|refine zB fun _ _ _=>?_|refine zC fun _ _ _=>?_|refine zD fun _ _=>?_|refine zE ?_|refine zF ?_)
  rename_i rb H8 hS8
  have hK8 : UK 4 (sl b 0 (D.n / 2) (D.n / 2)) (boolC [0, 1] (z2.n / 2)) L4 := by rw [hbn, hwn]; exact hK4
  exact Ev.ret (.inr ⟨hz, ptr rb 0, rfl, _, B7, ⟨hm2.trans (hm5.mo.trans (hm6.mo.trans hm7.mo))⟩, ⟨rb, _, .slice none 0 0, L4, [], Ls7, rfl, hD7, hK8, FRS.nil, rfl⟩, hS8.perm (by (refine perm_cnt ?_; intro _ a; simp only [List.count_append, List.count_cons, List.cons_append, List.nil_append, List.append_assoc]; try ac_rfl))⟩)
end
end Go.AM.E
namespace Go.AM.E
open Go Go.AM Go.Proofs
attribute [local irreducible] run bin un ld st box newV mkS fldA fld ixA ix slc slc3 build buildS cv cvS ap cpy lenV gOp pickV b2 aIf aChk evalK resume iterD Option.bind

section
variable {B B0 H0 H : AH} {L : List (Nat × Blk)}
theorem rNeed_spec {n : Nat} : Ev (fun k _ => rn k 78 [i64 n] H) (fun r => r = (i64 (need n), H)) := by
  refine Ev.fn (fun k => f78_eq k _ H) ?_
  refine Ev.prim (show fold1 maxV [i64 n, .int .i64 0] = some (i64 n) from by rw [max_int]; congr 2; omega) ?_
  refine Ev.prim (show fold1 minV [i64 n, .int .i64 1048576] = some (i64 (min n 1048576)) from by rw [min_int]; congr 2; omega) ?_
  unfold need
  generalize hz : min n 1048576 = z
  have hz2 : z ≤ 1048576 := by omega
  repeat (first | (first|refine zA ?_|refine zB fun _ _ _=>?_|refine zC fun _ _ _=>?_|refine zD fun _ _=>?_|refine zE ?_|refine zF ?_) | rw [decide_eq_true (by omega)] | rw [decide_eq_false (by omega)])
  refine Ev.ret ?_
  congr 2
  by_cases h0 : z = 0
  · rw [if_pos h0, h0]; rfl
  · rw [if_neg h0, show z + 118 - 1 = z + 117 by omega]
    have : 1 ≤ (z + 117) / 118 := by omega
    split <;> omega
theorem rb_alloc {p xv : Value} {D : Dsk} {m was : Nat} {s : List UInt8} (hO : D.OK) (hm : D.n / 2 = m) (hs : s.length ≤ 60000) : ∀ (q i : Nat) (B H : AH) (G : Pgr) (Ls Lv : List (Nat × Blk)) (l : List Int) (v : Value), i + q = need s.length → G.In m → RK p xv G D Ls → FR v l Lv → l.length = i → St H0 B0 B (Lv ++ (Ls ++ L)) H →
    Ev (fun K K2 => f36_L0 K p (str s) (i64 was) v (i64 i) K2 H) (fun o =>
      ((allocN m q G l).2.1 = 0 ∧ ∃ B' H' Ls' Lv' v', o = (.exit 0, f36_X_L0 p (str s) unk unk (i64 was) v', H') ∧ MoC B B' ∧ RK p xv (allocN m q G l).2.2 D Ls' ∧ FR v' (allocN m q G l).1 Lv' ∧ St H0 B0 B' (Lv' ++ (Ls' ++ L)) H') ∨
      ((allocN m q G l).2.1 ≠ 0 ∧ ∃ B' H' Ls' w, o = (.ret, f36_X_L0 p (str s) (.int .i64 0) (.int .i64 (allocN m q G l).2.1) (i64 was) w, H') ∧ MoC B B' ∧ RK p xv ((allocN m q G l).2.2.back was) D Ls' ∧ St H0 B0 B' (Ls' ++ L) H')) := by
  have hneed : need s.length ≤ 10000 := by unfold need; split <;> omega
  have hm5 : m ≤ 512 := by have := hO.n2; omega
  intro q
  induction q with
  | zero =>
    intro i B H G Ls Lv l v hi hG hP hF hll hS
    refine Ev.succ (fun K K2 => f36_L0_succ K _ _ _ _ _ K2 H) ?_
    repeat (first|refine zA ?_|refine zB fun _ _ _=>?_|refine zC fun _ _ _=>?_|refine zD fun _ _=>?_|refine zE ?_|refine zF ?_)
    refine Ev.b2 (rNeed_spec (n := s.length)) ?_
    rintro _ _ h
    cases h
    repeat (first | (first|refine zA ?_|refine zB fun _ _ _=>?_|refine zC fun _ _ _=>?_|refine zD fun _ _=>?_|refine zE ?_|refine zF ?_) | rw [decide_eq_true (by omega)] | rw [decide_eq_false (by omega)])
    exact Ev.ret (.inl ⟨rfl, B, H, Ls, Lv, v, rfl, ⟨Mo.refl B⟩, hP, hF, hS⟩)
  | succ q ih =>
    intro i B H G Ls Lv l v hi hG hP hF hll hS
    refine Ev.succ (fun K K2 => f36_L0_succ K _ _ _ _ _ K2 H) ?_
    repeat (first|refine zA ?_|refine zB fun _ _ _=>?_|refine zC fun _ _ _=>?_|refine zD fun _ _=>?_|refine zE ?_|refine zF ?_)
    refine Ev.b2 (rNeed_spec (n := s.length)) ?_
    rintro _ _ h
    cases h
    repeat (first | (first|refine zA ?_|refine zB fun _ _ _=>?_|refine zC fun _ _ _=>?_|refine zD fun _ _=>?_|refine zE ?_|refine zF ?_) | rw [decide_eq_true (by omega)] | rw [decide_eq_false (by omega)])
    have hgl := hG.len
    refine Ev.b2 (rAlloc_spec hP hO (by omega) (hS.perm (L' := Ls ++ (Lv ++ L)) (by (refine perm_cnt ?_; intro _ a; simp only [List.count_append, List.count_cons, List.cons_append, List.nil_append, List.append_assoc]; try ac_rfl)))) ?_
    rw [hm]
    have hGa := hG.alloc
    unfold allocN
    generalize G.alloc m = a at hGa
    obtain ⟨a1, a2, G1⟩ := a
    dsimp only at hGa ⊢
    rintro _ H1 ⟨rfl, Ls1, B1, hm1, hP1, hS1⟩
    dsimp only at hS1
    clear hS
    repeat (first|refine zA ?_|refine zB fun _ _ _=>?_|refine zC fun _ _ _=>?_|refine zD fun _ _=>?_|refine zE ?_|refine zF ?_)
    by_cases he : a2 = 0
    case neg =>
      rw [if_pos he, decide_eq_true he]
      repeat (first|refine zA ?_|refine zB fun _ _ _=>?_|refine zC fun _ _ _=>?_|refine zD fun _ _=>?_|refine zE ?_|refine zF ?_)
      have hgl2 := hGa.len
      refine Ev.b2 (rBack_spec (many := (was : Int)) hP1 (by omega) hS1) ?_
      rintro _ H2 ⟨rfl, Ls2, B2, hm2, hP2, hS2⟩
      dsimp only at hS2
      repeat (first|refine zA ?_|refine zB fun _ _ _=>?_|refine zC fun _ _ _=>?_|refine zD fun _ _=>?_|refine zE ?_|refine zF ?_)
      exact Ev.ret (.inr ⟨he, B2, H2, Ls2, v, rfl, ⟨hm1.mo.trans hm2.mo⟩, hP2, hS2.drop (List.Sublist.append_left (List.sublist_append_right _ _) _)⟩)
    rw [if_neg (by simpa using he), decide_eq_false (by simpa using he)]
    repeat (first|refine zA ?_|refine zB fun _ _ _=>?_|refine zC fun _ _ _=>?_|refine zD fun _ _=>?_|refine zE ?_|refine zF ?_)
    refine FRS.push (x := a1) eltI hF (hS1.perm (L' := Lv ++ (Ls1 ++ L)) (by (refine perm_cnt ?_; intro _ a; simp only [List.count_append, List.count_cons, List.cons_append, List.nil_append, List.append_assoc]; try ac_rfl))) (by omega) fun v' Lv' H2 hF2 hS2 => ?_
    clear hS1
    repeat (first | (first|refine zA ?_|refine zB fun _ _ _=>?_|refine zC fun _ _ _=>?_|refine zD fun _ _=>?_|refine zE ?_|refine zF ?_) | rw [decide_eq_true (by omega)] | rw [decide_eq_false (by omega)])
    refine (ih (i + 1) B1 H2 G1 Ls1 Lv' _ v' (by omega) hGa hP1 hF2 (by rw [List.length_append, List.length_singleton, hll]) hS2).mono ?_
    rintro o (⟨h1, B', H', Ls', Lv2, v2, e, hm', h2⟩ | ⟨h1, B', H', Ls', w, e, hm', h2⟩)
    · exact .inl ⟨h1, B', H', Ls', Lv2, v2, e, ⟨hm1.mo.trans hm'.mo⟩, h2⟩
    · exact .inr ⟨h1, B', H', Ls', w, e, ⟨hm1.mo.trans hm'.mo⟩, h2⟩
theorem piece_at {s : List UInt8} {i : Nat} (hs : s.length ≤ 60000) (hi : i < need s.length) : 118 * i ≤ s.length ∧ (s.drop (118 * i)).take (min s.length (118 * (i + 1)) - 118 * i) = pieceT s i := by
  have h1 : 118 * i ≤ s.length := by
    unfold need at hi
    split at hi <;> omega
  refine ⟨h1, ?_⟩
  unfold pieceT
  rcases Nat.le_total s.length (118 * (i + 1)) with h | h
  · rw [Nat.min_eq_left h, List.take_of_length_le (by rw [List.length_drop]; exact Nat.le_refl _), List.take_of_length_le (by rw [List.length_drop]; omega)]
  · rw [Nat.min_eq_right h, show 118 * (i + 1) - 118 * i = 118 by omega]
theorem rb_lay {p xv : Value} {m was : Nat} {v : Value} {s : List UInt8} {l : List Int} {Lv : List (Nat × Blk)} (hm5 : m ≤ 512) (hs : s.length ≤ 60000) (hl : ∀ x ∈ l, 0 ≤ x ∧ x < m) (hln : l.length = need s.length) (hF : FR v l Lv) : ∀ (q i : Nat) (B H : AH) (G : Pgr) (D : Dsk) (Ls : List (Nat × Blk)), i + q = l.length → G.In m → D.OK → D.n / 2 = m → D.cache.length + 2 * q < 100000000 → RK p xv G D Ls → St H0 B0 B (Lv ++ (Ls ++ L)) H →
    Ev (fun K K2 => f36_L1 K p (str s) (i64 was) v (i64 i) K2 H) (fun o =>
      ((layN s l q i G D).1 = 0 ∧ ∃ B' H' Ls', o = (.exit 2, f36_X_L1 unk unk v, H') ∧ MoC B B' ∧ RK p xv (layN s l q i G D).2.1 (layN s l q i G D).2.2 Ls' ∧ St H0 B0 B' (Lv ++ (Ls' ++ L)) H') ∨
      ((layN s l q i G D).1 ≠ 0 ∧ ∃ B' H' Ls', o = (.ret, f36_X_L1 (.int .i64 0) (.int .i64 (layN s l q i G D).1) v, H') ∧ MoC B B' ∧ RK p xv ((layN s l q i G D).2.1.back was) (layN s l q i G D).2.2 Ls' ∧ St H0 B0 B' (Lv ++ (Ls' ++ L)) H')) := by
  have hneed : need s.length ≤ 10000 := by unfold need; split <;> omega
  have hlv := hF.len (Und.eq (P := Tryz.prog) (t := 82))
  intro q
  induction q with
  | zero =>
    intro i B H G D Ls hi hG hO hm hc hP hS
    refine Ev.succ (fun K K2 => f36_L1_succ K _ _ _ _ _ K2 H) ?_
    refine Ev.prim hlv ?_
    repeat (first | (first|refine zA ?_|refine zB fun _ _ _=>?_|refine zC fun _ _ _=>?_|refine zD fun _ _=>?_|refine zE ?_|refine zF ?_) | rw [decide_eq_true (by omega)] | rw [decide_eq_false (by omega)])
    exact Ev.ret (.inl ⟨rfl, B, H, Ls, rfl, ⟨Mo.refl B⟩, hP, hS⟩)
  | succ q ih =>
    intro i B H G D Ls hi hG hO hm hc hP hS
    refine Ev.succ (fun K K2 => f36_L1_succ K _ _ _ _ _ K2 H) ?_
    refine Ev.prim hlv ?_
    repeat (first | (first|refine zA ?_|refine zB fun _ _ _=>?_|refine zC fun _ _ _=>?_|refine zD fun _ _=>?_|refine zE ?_|refine zF ?_) | rw [decide_eq_true (by omega)] | rw [decide_eq_false (by omega)])
    refine Ev.prim hlv ?_
    repeat (first|refine zA ?_|refine zB fun _ _ _=>?_|refine zC fun _ _ _=>?_|refine zD fun _ _=>?_|refine zE ?_|refine zF ?_)
    have hN := hF.now hS fun x hx => List.mem_append_left _ hx
    have hat : ∀ a, a < l.length → (intV l)[a]? = some (.int .i64 (l.getD a 0)) := fun a ha => by
      unfold intV
      rw [List.getElem?_map, List.getElem?_eq_getElem ha, List.getD, List.getElem?_eq_getElem ha]; rfl
    obtain ⟨hp1, hp2⟩ := piece_at (i := i) hs (by omega)
    have go : ∀ nx : Nat, (nx : Int) = nextL l i → Ev (fun K K2 => f36_J0 K K2 p (str s) (i64 was) v (i64 i) (i64 nx) H) (fun o =>
      ((layN s l (q + 1) i G D).1 = 0 ∧ ∃ B' H' Ls', o = (.exit 2, f36_X_L1 unk unk v, H') ∧ MoC B B' ∧ RK p xv (layN s l (q + 1) i G D).2.1 (layN s l (q + 1) i G D).2.2 Ls' ∧ St H0 B0 B' (Lv ++ (Ls' ++ L)) H') ∨
      ((layN s l (q + 1) i G D).1 ≠ 0 ∧ ∃ B' H' Ls', o = (.ret, f36_X_L1 (.int .i64 0) (.int .i64 (layN s l (q + 1) i G D).1) v, H') ∧ MoC B B' ∧ RK p xv ((layN s l (q + 1) i G D).2.1.back was) (layN s l (q + 1) i G D).2.2 Ls' ∧ St H0 B0 B' (Lv ++ (Ls' ++ L)) H')) := by
      intro nx hnx
      refine Ev.eq (fun K K2 => f36_J0_eq K K2 _ _ _ _ _ _ H) ?_
      repeat (first|refine zA ?_|refine zB fun _ _ _=>?_|refine zC fun _ _ _=>?_|refine zD fun _ _=>?_|refine zE ?_|refine zF ?_)
      rw [show (if ((118 * (i + 1) : Nat) : Int) < (s.length : Int) then ((118 * (i + 1) : Nat) : Int) else (s.length : Int)) = ((min s.length (118 * (i + 1)) : Nat) : Int) by split <;> omega]
      refine Ev.prim (slc_str2 (l := s) (118 * i) (min s.length (118 * (i + 1))) rfl rfl (by omega) (Nat.min_le_left _ _)) ?_
      rw [hp2]
      refine Ev.ixN (t := 82) hN i rfl (by omega) (hat i (by omega)) fun pp hp => ?_
      refine Ev.prim (hp.eq H (Mo.refl H)) ?_
      refine Ev.prim (shrL (by decide)) ?_
      refine Ev.prim (toU8 (Und.eq (P := Tryz.prog) (t := 3)) (Und.eq (P := Tryz.prog) (t := 5))) ?_
      refine Ev.prim (toU8 (Und.eq (P := Tryz.prog) (t := 3)) (Und.eq (P := Tryz.prog) (t := 5))) ?_
      refine Ev.bsC (by decide) fun bb H1 hS1 => ?_
      rw [show nx / 2 ^ 8 = nx / 256 from rfl, show [u8 (nx / 256 % 256), u8 (nx % 256)] = byts [UInt8.ofNat (nx / 256), UInt8.ofNat nx] from rfl] at hS1
      refine Ev.prim (cvS_part (d := 9) (bs := hdr nx) hS1 (.head _) (Nat.le_refl _) (by show 0 + 2 ≤ 2; decide)) ?_
      rw [show ((hdr nx).drop 0).take 2 = hdr nx from rfl]
      have hpl : (pieceT s i).length ≤ 118 := by unfold pieceT; rw [List.length_take]; omega
      refine Ev.prim (add_str (a := hdr nx) (b := pieceT s i) (by unfold hdr; simp; omega)) ?_
      have eb : hdr nx ++ pieceT s i = pageL s l i := by unfold pageL; rw [← hnx, Int.toNat_natCast]
      rw [eb]
      have hgl := hG.len
      have hlen : (pageL s l i).length < 9223372036854775808 := by rw [← eb]; unfold hdr; simp; omega
      refine Ev.b2 (rWrite_spec (n := l.getD i 0) (kind := 2) (t := pageL s l i) (L := Lv ++ L) hP hO (by omega) (by omega) hlen (by decide) (hS1.drop1.perm (by (refine perm_cnt ?_; intro _ a; simp only [List.count_append, List.count_cons, List.cons_append, List.nil_append, List.append_assoc]; try ac_rfl)))) ?_
      obtain ⟨w1, w2, w3⟩ := G.write_ok hO (l.getD i 0) 2 (pageL s l i)
      have w4 := hG.write D (l.getD i 0) 2 (pageL s l i)
      unfold layN
      generalize G.write D (l.getD i 0) 2 (pageL s l i) = w at w1 w2 w3 w4
      obtain ⟨e, G1, D1⟩ := w
      dsimp only at w1 w2 w3 w4 ⊢
      rintro _ H2 ⟨rfl, Ls2, B2, hm2, hP2, hS2⟩
      dsimp only at hS2
      clear hS1
      repeat (first|refine zA ?_|refine zB fun _ _ _=>?_|refine zC fun _ _ _=>?_|refine zD fun _ _=>?_|refine zE ?_|refine zF ?_)
      by_cases he : e = 0
      case neg =>
        rw [if_pos he, decide_eq_true he]
        repeat (first|refine zA ?_|refine zB fun _ _ _=>?_|refine zC fun _ _ _=>?_|refine zD fun _ _=>?_|refine zE ?_|refine zF ?_)
        have hgl2 := w4.len
        refine Ev.b2 (rBack_spec (many := (was : Int)) hP2 (by omega) hS2) ?_
        rintro _ H3 ⟨rfl, Ls3, B3, hm3, hP3, hS3⟩
        dsimp only at hS3
        repeat (first|refine zA ?_|refine zB fun _ _ _=>?_|refine zC fun _ _ _=>?_|refine zD fun _ _=>?_|refine zE ?_|refine zF ?_)
        exact Ev.ret (.inr ⟨he, B3, H3, Ls3, rfl, ⟨hm2.mo.trans hm3.mo⟩, hP3, hS3.perm (by (refine perm_cnt ?_; intro _ a; simp only [List.count_append, List.count_cons, List.cons_append, List.nil_append, List.append_assoc]; try ac_rfl))⟩)
      rw [if_neg (by simpa using he), decide_eq_false (by simpa using he)]
      repeat (first | (first|refine zA ?_|refine zB fun _ _ _=>?_|refine zC fun _ _ _=>?_|refine zD fun _ _=>?_|refine zE ?_|refine zF ?_) | rw [decide_eq_true (by omega)] | rw [decide_eq_false (by omega)])
      refine (ih (i + 1) B2 H2 G1 D1 Ls2 (by omega) w4 w1 (by rw [w2]; exact hm) (by omega) hP2 (hS2.perm (by (refine perm_cnt ?_; intro _ a; simp only [List.count_append, List.count_cons, List.cons_append, List.nil_append, List.append_assoc]; try ac_rfl)))).mono ?_
      rintro o (⟨h1, B', H', Ls', e', hm', h2⟩ | ⟨h1, B', H', Ls', e', hm', h2⟩)
      · exact .inl ⟨h1, B', H', Ls', e', ⟨hm2.mo.trans hm'.mo⟩, h2⟩
      · exact .inr ⟨h1, B', H', Ls', e', ⟨hm2.mo.trans hm'.mo⟩, h2⟩
    by_cases hlast : i + 1 < l.length
    · rw [decide_eq_true (by omega)]
      repeat (first | (first|refine zA ?_|refine zB fun _ _ _=>?_|refine zC fun _ _ _=>?_|refine zD fun _ _=>?_|refine zE ?_|refine zF ?_) | rw [decide_eq_true (by omega)] | rw [decide_eq_false (by omega)])
      refine Ev.ixN (t := 82) hN (i + 1) rfl (by omega) (hat (i + 1) hlast) fun pp2 hp2 => ?_
      refine Ev.prim (hp2.eq H (Mo.refl H)) ?_
      have hx := hl (l.getD (i + 1) 0) (by rw [List.getD, List.getElem?_eq_getElem hlast]; exact List.getElem_mem hlast)
      have := go (l.getD (i + 1) 0).toNat (by unfold nextL; omega)
      have e9 : i64 (l.getD (i + 1) 0).toNat = Value.int .i64 (l.getD (i + 1) 0) := by
        show Value.int .i64 ((l.getD (i + 1) 0).toNat : Int) = _
        rw [Int.toNat_of_nonneg hx.1]
      rw [e9] at this
      exact this
    · rw [decide_eq_false (by omega)]
      repeat (first | (first|refine zA ?_|refine zB fun _ _ _=>?_|refine zC fun _ _ _=>?_|refine zD fun _ _=>?_|refine zE ?_|refine zF ?_) | rw [decide_eq_true (by omega)] | rw [decide_eq_false (by omega)])
      exact go 0 (by unfold nextL; rw [List.getD, List.getElem?_eq_none (by omega)]; rfl)
theorem rbWrite_spec {p xv : Value} {G : Pgr} {D : Dsk} {Ls : List (Nat × Blk)} {s : List UInt8} (hO : D.OK) (hG : G.In (D.n / 2)) (hc : D.cache.length < 10000000) (hsl : s.length < 9223372036854775808) (hP : RK p xv G D Ls) (hS : St H0 B0 B (Ls ++ L) H) :
    Ev (fun K _ => rn K 36 [p, str s] H) (RgP H0 B0 B L p xv (.tuple #[.int .i64 (G.bwrite D s).1, .int .i64 (G.bwrite D s).2.1]) (G.bwrite D s).2.2.1 (G.bwrite D s).2.2.2) := by
  have hP0 := hP
  have hm5 := hO.n2
  refine Ev.fn (fun K => f36_eq K _ _ H) ?_
  have hnp := need_pos s.length
  unfold Pgr.bwrite
  repeat (first|refine zA ?_|refine zB fun _ _ _=>?_|refine zC fun _ _ _=>?_|refine zD fun _ _=>?_|refine zE ?_|refine zF ?_)
  by_cases h6 : 60000 < s.length
  · rw [if_pos h6, decide_eq_true h6]
    repeat (first|refine zA ?_|refine zB fun _ _ _=>?_|refine zC fun _ _ _=>?_|refine zD fun _ _=>?_|refine zE ?_|refine zF ?_)
    exact Ev.ret ⟨rfl, Ls, B, ⟨Mo.refl B⟩, hP0, hS⟩
  rw [if_neg h6, decide_eq_false h6]
  obtain ⟨rb, uv, fv, Lu, Lf, Ld, rfl, hD, hK, hF, rfl⟩ := hP
  obtain ⟨d, rfl⟩ := hD.ptr
  have hcu := hK.cell
  have hcell := hF.cell
  simp only [List.cons_append] at hS
  repeat (first|refine zA ?_|refine zB fun _ _ _=>?_|refine zC fun _ _ _=>?_|refine zD fun _ _=>?_|refine zE ?_|refine zF ?_)
  refine Ev.prim (hF.len (Und.eq (P := Tryz.prog) (t := 82))) ?_
  refine Ev.bind (Ev.loop (rb_alloc (m := D.n / 2) (was := G.fresh.length) (s := s) hO rfl (by omega) (need s.length) 0 B H G _ [] [] (.slice none 0 0) (by omega) hG hP0 FRS.nil rfl hS)) ?_
  clear hS
  obtain ⟨a1, a2, a3⟩ := allocN_in (m := D.n / 2) (need s.length) G [] hG (fun x hx => by cases hx)
  generalize allocN (D.n / 2) (need s.length) G [] = a at a1 a2 a3
  obtain ⟨l, e, G1⟩ := a
  dsimp only at a1 a2 a3 ⊢
  rintro _ (⟨h1, B1, H1, Ls1, Lv1, v1, rfl, hm1, hP1, hF1, hS1⟩ | ⟨h1, B1, H1, Ls1, w, rfl, hm1, hP1, hS1⟩)
  case inr =>
    rw [if_pos h1]
    refine Ev.eq (fun K _ => f36_A0_ret K _ _ _ _ _ _ H1) ?_
    exact Ev.ret ⟨rfl, Ls1, B1, hm1, hP1, hS1⟩
  rw [if_neg (by simpa using h1)]
  have hln : l.length = need s.length := by have := a3 h1; simpa using this
  have hneed : need s.length ≤ 10000 := by unfold need; split <;> omega
  refine Ev.eq (fun K _ => f36_A0_x0 K _ _ _ _ _ _ H1) ?_
  refine Ev.bind (Ev.loop (rb_lay (m := D.n / 2) (was := G.fresh.length) (s := s) (l := l) (by omega) (by omega) a2 hln hF1 l.length 0 B1 H1 G1 D Ls1 (by omega) a1 hO rfl (by omega) hP1 hS1)) ?_
  clear hS1
  rw [hln]
  generalize layN s l (need s.length) 0 G1 D = w
  obtain ⟨e2, G2, D2⟩ := w
  dsimp only
  rintro _ (⟨h2, B2, H2, Ls2, rfl, hm2, hP2, hS2⟩ | ⟨h2, B2, H2, Ls2, rfl, hm2, hP2, hS2⟩)
  case inr =>
    rw [if_pos h2]
    refine Ev.eq (fun K _ => f36_A1_ret K _ _ _ H2) ?_
    exact Ev.ret ⟨rfl, Ls2, B2, ⟨hm1.mo.trans hm2.mo⟩, hP2, hS2.drop (List.sublist_append_right _ _)⟩
  rw [if_neg (by simpa using h2)]
  refine Ev.eq (fun K _ => f36_A1_x2 K _ _ _ H2) ?_
  have hN := hF1.now hS2 fun x hx => List.mem_append_left _ hx
  refine Ev.ixN (t := 82) (x := .int .i64 (l.getD 0 0)) hN 0 rfl (by omega) (by unfold intV; rw [List.getElem?_map, List.getD, List.getElem?_eq_getElem (show 0 < l.length by omega)]; rfl) fun pp hp => ?_
  refine Ev.prim (hp.eq H2 (Mo.refl H2)) ?_
  exact Ev.ret ⟨rfl, Ls2, B2, ⟨hm1.mo.trans hm2.mo⟩, hP2, hS2.drop (List.sublist_append_right _ _)⟩
end
end Go.AM.E
namespace Go.AM.E
open Go Go.AM Go.Proofs
attribute [local irreducible] run bin un ld st box newV mkS fldA fld ixA ix slc slc3 build buildS cv cvS ap cpy lenV gOp pickV b2 aIf aChk evalK resume iterD Option.bind

section
variable {B B0 H0 H : AH} {L : List (Nat × Blk)}
theorem rseen_spec {v : Value} {l : List Int} {x : Int} {Lf Lx : List (Nat × Blk)} (hF : FR v l Lf) (hl : l.length < 1000000000000) (hS : St H0 B0 B Lx H) (hsub : ∀ p ∈ Lf, p ∈ Lx) : Ev (fun k _ => rn k 96 [v, .int .i64 x] H) (fun r => r = (.bool (decide (x ∈ l)), H)) := by
  refine Ev.fn (fun k => f96_eq k _ _ H) ?_
  have hN := hF.now hS hsub
  have hlv := hF.len (Und.eq (P := Tryz.prog) (t := 82))
  have key : ∀ (m i : Nat), i + m = l.length → Ev (fun k K => f96_L0 k v (.int .i64 x) (i64 i) K H) (fun o => (x ∈ l.drop i ∧ o = (.ret, f96_X_L0 (.bool true), H)) ∨ (x ∉ l.drop i ∧ o = (.exit 0, f96_X_L0 unk, H))) := by
    intro m
    induction m with
    | zero =>
      intro i hi
      refine Ev.succ (fun k K => f96_L0_succ k _ _ _ K H) ?_
      refine Ev.prim hlv ?_
      repeat (first | (first|refine zA ?_|refine zB fun _ _ _=>?_|refine zC fun _ _ _=>?_|refine zD fun _ _=>?_|refine zE ?_|refine zF ?_) | rw [decide_eq_true (by omega)] | rw [decide_eq_false (by omega)])
      exact Ev.ret (.inr ⟨by rw [List.drop_of_length_le (by omega)]; exact List.not_mem_nil, rfl⟩)
    | succ m ih =>
      intro i hi
      refine Ev.succ (fun k K => f96_L0_succ k _ _ _ K H) ?_
      refine Ev.prim hlv ?_
      repeat (first | (first|refine zA ?_|refine zB fun _ _ _=>?_|refine zC fun _ _ _=>?_|refine zD fun _ _=>?_|refine zE ?_|refine zF ?_) | rw [decide_eq_true (by omega)] | rw [decide_eq_false (by omega)])
      obtain ⟨y, hy⟩ : ∃ y, l[i]? = some y := ⟨_, List.getElem?_eq_getElem (by omega)⟩
      have hd : l.drop i = y :: l.drop (i + 1) := by
        have h1 := List.getElem?_eq_some_iff.1 hy
        rw [← h1.2]; exact List.drop_eq_getElem_cons h1.1
      refine Ev.ixN (t := 82) (x := .int .i64 y) hN i rfl (by omega) (by unfold intV; rw [List.getElem?_map, hy]; rfl) fun pp hp => ?_
      refine Ev.prim (hp.eq H (Mo.refl H)) ?_
      repeat (first|refine zA ?_|refine zB fun _ _ _=>?_|refine zC fun _ _ _=>?_|refine zD fun _ _=>?_|refine zE ?_|refine zF ?_)
      rw [hd]
      by_cases hyx : y = x
      · rw [decide_eq_true hyx]
        repeat (first|refine zA ?_|refine zB fun _ _ _=>?_|refine zC fun _ _ _=>?_|refine zD fun _ _=>?_|refine zE ?_|refine zF ?_)
        exact Ev.ret (.inl ⟨by rw [hyx]; exact .head _, rfl⟩)
      · rw [decide_eq_false hyx]
        repeat (first | (first|refine zA ?_|refine zB fun _ _ _=>?_|refine zC fun _ _ _=>?_|refine zD fun _ _=>?_|refine zE ?_|refine zF ?_) | rw [decide_eq_true (by omega)] | rw [decide_eq_false (by omega)])
        refine (ih (i + 1) (by omega)).mono ?_
        rintro o (⟨h, e⟩ | ⟨h, e⟩)
        · exact .inl ⟨.tail _ h, e⟩
        · exact .inr ⟨fun hh => by rcases List.mem_cons.1 hh with h2 | h2; exact hyx h2.symm; exact h h2, e⟩
  refine Ev.bind (Ev.loop (key l.length 0 (by omega))) ?_
  rintro _ (⟨h, rfl⟩ | ⟨h, rfl⟩)
  · rw [List.drop_zero] at h
    refine Ev.eq (fun k _ => f96_A0_ret k _ H) ?_
    rw [decide_eq_true h]
    exact Ev.ret rfl
  · rw [List.drop_zero] at h
    refine Ev.eq (fun k _ => f96_A0_x0 k _ H) ?_
    rw [decide_eq_false h]
    exact Ev.ret rfl
theorem rwalk_loop {p xv : Value} {D : Dsk} {m : Nat} (hO : D.OK) (hm : D.n / 2 = m) (hc : D.cache.length < 1000000000000) : ∀ (k : Nat) (B H : AH) (G : Pgr) (Ls Lv : List (Nat × Blk)) (l : List Int) (v : Value) (s : List UInt8) (a : Int), l.length + k = 513 → l.length ≤ 512 → s.length ≤ 128 * l.length → RK p xv G D Ls → FR v l Lv → St H0 B0 B (Lv ++ (Ls ++ L)) H →
    Ev (fun K K2 => f71_L0 K p v (str s) (.int .i64 a) K2 H) (fun o => ∃ B' H' Ls' Lv' v', o = (.ret, f71_X_L0 v' (str (walkR D m k G l s a).1.2.1) (.int .i64 (walkR D m k G l s a).1.2.2), H') ∧ MoC B B' ∧ RK p xv (walkR D m k G l s a).2 D Ls' ∧ FR v' (walkR D m k G l s a).1.1 Lv' ∧ St H0 B0 B' (Lv' ++ (Ls' ++ L)) H') := by
  intro k
  induction k with
  | zero => intro B H G Ls Lv l v s a hk hl; omega
  | succ k ih =>
    intro B H G Ls Lv l v s a hk hl hsl hP hF hS
    have hm5 := hO.n2
    have hlv := hF.len (Und.eq (P := Tryz.prog) (t := 82))
    have hcv := hF.cell
    refine Ev.succ (fun K K2 => f71_L0_succ K _ _ _ _ K2 H) ?_
    refine Ev.b2 (rRead_spec (n := a) hP hO hc (hS.perm (L' := Ls ++ (Lv ++ L)) (by (refine perm_cnt ?_; intro _ a; simp only [List.count_append, List.count_cons, List.cons_append, List.nil_append, List.append_assoc]; try ac_rfl)))) ?_
    have htl := gread_len hO G a
    unfold walkR
    generalize G.read D a = r at htl
    obtain ⟨⟨kd, t, e⟩, G1⟩ := r
    dsimp only at htl ⊢
    rintro _ H1 ⟨rfl, Ls1, B1, hm1, hP1, hS1⟩
    dsimp only at hS1
    clear hS
    unfold OpenV
    dsimp only
    have none0 : St H0 B0 B1 (Ls1 ++ L) H1 := hS1.drop (List.Sublist.append_left (List.sublist_append_right _ _) _)
    have noneA : St H0 B0 B1 ([] ++ (Ls1 ++ L)) H1 := none0
    repeat (first|refine zA ?_|refine zB fun _ _ _=>?_|refine zC fun _ _ _=>?_|refine zD fun _ _=>?_|refine zE ?_|refine zF ?_)
    by_cases he : e = 0
    case neg =>
      rw [if_pos he, decide_eq_true he]
      repeat (first|refine zA ?_|refine zB fun _ _ _=>?_|refine zC fun _ _ _=>?_|refine zD fun _ _=>?_|refine zE ?_|refine zF ?_)
      exact Ev.ret ⟨B1, H1, Ls1, [], .slice none 0 0, rfl, hm1, hP1, FRS.nil, noneA⟩
    rw [if_neg (by simpa using he), decide_eq_false (by simpa using he)]
    repeat (first|refine zA ?_|refine zB fun _ _ _=>?_|refine zC fun _ _ _=>?_|refine zD fun _ _=>?_|refine zE ?_|refine zF ?_)
    by_cases h1 : kd = 2
    case neg =>
      rw [if_pos (.inl h1), decide_eq_true h1]
      repeat (first|refine zA ?_|refine zB fun _ _ _=>?_|refine zC fun _ _ _=>?_|refine zD fun _ _=>?_|refine zE ?_|refine zF ?_)
      exact Ev.ret ⟨B1, H1, Ls1, [], .slice none 0 0, rfl, hm1, hP1, FRS.nil, noneA⟩
    rw [decide_eq_false (by simpa using h1)]
    repeat (first|refine zA ?_|refine zB fun _ _ _=>?_|refine zC fun _ _ _=>?_|refine zD fun _ _=>?_|refine zE ?_|refine zF ?_)
    by_cases h2 : t.length < 2
    · rw [if_pos (.inr (.inl h2)), decide_eq_true h2]
      repeat (first|refine zA ?_|refine zB fun _ _ _=>?_|refine zC fun _ _ _=>?_|refine zD fun _ _=>?_|refine zE ?_|refine zF ?_)
      exact Ev.ret ⟨B1, H1, Ls1, [], .slice none 0 0, rfl, hm1, hP1, FRS.nil, noneA⟩
    rw [decide_eq_false h2]
    repeat (first|refine zA ?_|refine zB fun _ _ _=>?_|refine zC fun _ _ _=>?_|refine zD fun _ _=>?_|refine zE ?_|refine zF ?_)
    rw [hlv, Option.bind_some]
    repeat (first|refine zA ?_|refine zB fun _ _ _=>?_|refine zC fun _ _ _=>?_|refine zD fun _ _=>?_|refine zE ?_|refine zF ?_)
    by_cases h3 : 512 ≤ l.length
    · rw [if_pos (.inr (.inr h3)), decide_eq_true h3]
      repeat (first|refine zA ?_|refine zB fun _ _ _=>?_|refine zC fun _ _ _=>?_|refine zD fun _ _=>?_|refine zE ?_|refine zF ?_)
      exact Ev.ret ⟨B1, H1, Ls1, [], .slice none 0 0, rfl, hm1, hP1, FRS.nil, noneA⟩
    rw [if_neg (fun h => by rcases h with h | h | h; exact h h1; exact h2 h; exact h3 h), decide_eq_false h3]
    repeat (first|refine zA ?_|refine zB fun _ _ _=>?_|refine zC fun _ _ _=>?_|refine zD fun _ _=>?_|refine zE ?_|refine zF ?_)
    refine FRS.push (x := a) eltI hF (hS1.perm (L' := Lv ++ (Ls1 ++ L)) (by (refine perm_cnt ?_; intro _ a; simp only [List.count_append, List.count_cons, List.cons_append, List.nil_append, List.append_assoc]; try ac_rfl))) (by omega) fun v' Lv' H2 hF2 hS2 => ?_
    clear hS1 noneA none0
    have hcv' := hF2.cell
    refine Ev.prim (slc_str (l := t) 2 rfl (by omega)) ?_
    have hdl : (t.drop 2).length ≤ 128 := by rw [List.length_drop]; omega
    refine Ev.prim (add_str (a := s) (b := t.drop 2) (by omega)) ?_
    have hb0 := UInt8.toNat_lt (t.getD 0 0)
    have hb1 := UInt8.toNat_lt (t.getD 1 0)
    refine Ev.prim (ix_str (l := t) 0 rfl (by omega)) ?_
    repeat (first|refine zA ?_|refine zB fun _ _ _=>?_|refine zC fun _ _ _=>?_|refine zD fun _ _=>?_|refine zE ?_|refine zF ?_)
    refine Ev.prim (shl8 (by omega)) ?_
    refine Ev.prim (ix_str (l := t) 1 rfl (by omega)) ?_
    repeat (first|refine zA ?_|refine zB fun _ _ _=>?_|refine zC fun _ _ _=>?_|refine zD fun _ _=>?_|refine zE ?_|refine zF ?_)
    refine Ev.prim (or8 (by omega) hb1) ?_
    rw [show (t.getD 0 0).toNat * 256 + (t.getD 1 0).toNat = nextT t from rfl]
    have hnx : nextT t < 65536 := by unfold nextT; omega
    have hsl2 : (s ++ t.drop 2).length ≤ 128 * (l ++ [a]).length := by rw [List.length_append, List.length_append, List.length_singleton]; omega
    have hll2 : (l ++ [a]).length = l.length + 1 := by rw [List.length_append, List.length_singleton]
    generalize nextT t = nx at hnx
    repeat (first|refine zA ?_|refine zB fun _ _ _=>?_|refine zC fun _ _ _=>?_|refine zD fun _ _=>?_|refine zE ?_|refine zF ?_)
    by_cases hz : nx = 0
    · rw [if_pos hz, decide_eq_true hz]
      repeat (first|refine zA ?_|refine zB fun _ _ _=>?_|refine zC fun _ _ _=>?_|refine zD fun _ _=>?_|refine zE ?_|refine zF ?_)
      exact Ev.ret ⟨B1, H2, Ls1, Lv', v', rfl, hm1, hP1, hF2, hS2⟩
    rw [if_neg hz, decide_eq_false hz]
    repeat (first|refine zA ?_|refine zB fun _ _ _=>?_|refine zC fun _ _ _=>?_|refine zD fun _ _=>?_|refine zE ?_|refine zF ?_)
    have none3 : St H0 B0 B1 (Ls1 ++ L) H2 := hS2.drop (List.sublist_append_right _ _)
    have none2 : St H0 B0 B1 ([] ++ (Ls1 ++ L)) H2 := none3
    by_cases hn1 : nx = 1
    · rw [if_pos (.inl hn1), decide_eq_true hn1]
      repeat (first|refine zA ?_|refine zB fun _ _ _=>?_|refine zC fun _ _ _=>?_|refine zD fun _ _=>?_|refine zE ?_|refine zF ?_)
      exact Ev.ret ⟨B1, H2, Ls1, [], .slice none 0 0, rfl, hm1, hP1, FRS.nil, none2⟩
    rw [decide_eq_false hn1]
    have hP1' := hP1
    obtain ⟨rb, uv, fv, Lu, Lf, Ld, hpe, hD1, hK1, hF1, hLs⟩ := hP1'
    obtain ⟨d, rfl⟩ := hD1.ptr
    have hcu := hK1.cell
    have hcf := hF1.cell
    have hlu := hK1.len (Und.eq (P := Tryz.prog) (t := 81))
    rw [boolC_len, hm] at hlu
    have ix : InL rb ⟨[ptr d 0, i64 G1.turn, .int .i64 G1.root, uv, fv, .bool G1.down], 84, .fix⟩ (Lv' ++ (Ls1 ++ L)) := ⟨List.mem_append_right _ (List.mem_append_left _ (by rw [hLs]; exact .head _))⟩
    rw [hpe]
    repeat (first|refine zA ?_|refine zB fun _ _ _=>?_|refine zC fun _ _ _=>?_|refine zD fun _ _=>?_|refine zE ?_|refine zF ?_)
    rw [hlu, Option.bind_some]
    repeat (first|refine zA ?_|refine zB fun _ _ _=>?_|refine zC fun _ _ _=>?_|refine zD fun _ _=>?_|refine zE ?_|refine zF ?_)
    by_cases hn2 : m ≤ nx
    · rw [if_pos (.inr (.inl hn2)), decide_eq_true hn2]
      repeat (first|refine zA ?_|refine zB fun _ _ _=>?_|refine zC fun _ _ _=>?_|refine zD fun _ _=>?_|refine zE ?_|refine zF ?_)
      exact Ev.ret ⟨B1, H2, Ls1, [], .slice none 0 0, rfl, hm1, hpe ▸ hP1, FRS.nil, none2⟩
    rw [decide_eq_false hn2]
    repeat (first|refine zA ?_|refine zB fun _ _ _=>?_|refine zC fun _ _ _=>?_|refine zD fun _ _=>?_|refine zE ?_|refine zF ?_)
    refine Ev.b2 (rseen_spec (x := (nx : Int)) hF2 (by omega) hS2 fun x hx => List.mem_append_left _ hx) ?_
    rintro _ _ h
    cases h
    by_cases hn3 : (nx : Int) ∈ l ++ [a]
    · rw [if_pos (.inr (.inr hn3)), decide_eq_true hn3]
      repeat (first|refine zA ?_|refine zB fun _ _ _=>?_|refine zC fun _ _ _=>?_|refine zD fun _ _=>?_|refine zE ?_|refine zF ?_)
      exact Ev.ret ⟨B1, H2, Ls1, [], .slice none 0 0, rfl, hm1, hpe ▸ hP1, FRS.nil, none2⟩
    rw [if_neg (fun h => by rcases h with h | h | h; exact hn1 h; exact hn2 h; exact hn3 h), decide_eq_false hn3]
    repeat (first|refine zA ?_|refine zB fun _ _ _=>?_|refine zC fun _ _ _=>?_|refine zD fun _ _=>?_|refine zE ?_|refine zF ?_)
    rw [← hpe]
    refine (ih B1 H2 G1 Ls1 Lv' (l ++ [a]) v' (s ++ t.drop 2) (nx : Int) (by omega) (by omega) hsl2 hP1 hF2 hS2).mono ?_
    rintro o ⟨B', H', Ls', Lv2, v2, e', hm', h2⟩
    exact ⟨B', H', Ls', Lv2, v2, e', ⟨hm1.mo.trans hm'.mo⟩, h2⟩
theorem rwalk_spec {p xv : Value} {G : Pgr} {D : Dsk} {Ls : List (Nat × Blk)} {a : Int} (hO : D.OK) (hc : D.cache.length < 1000000000000) (hP : RK p xv G D Ls) (hS : St H0 B0 B (Ls ++ L) H) :
    Ev (fun K _ => rn K 71 [p, .int .i64 a] H) (fun r => ∃ v Lv Ls' B', r.1 = .tuple #[v, str (G.walk D a).1.2.1, .int .i64 (G.walk D a).1.2.2] ∧ MoC B B' ∧ RK p xv (G.walk D a).2 D Ls' ∧ FR v (G.walk D a).1.1 Lv ∧ St H0 B0 B' (Lv ++ (Ls' ++ L)) r.2) := by
  refine Ev.fn (fun K => f71_eq K _ _ H) ?_
  refine Ev.bind (Ev.loop (rwalk_loop hO rfl hc 513 B H G Ls [] [] (.slice none 0 0) [] a rfl (by decide) (Nat.le_refl _) hP FRS.nil hS)) ?_
  rintro _ ⟨B', H', Ls', Lv, v, rfl, hm', h1, h2, h3⟩
  refine Ev.eq (fun K _ => f71_A0_ret K _ _ _ H') ?_
  exact Ev.ret ⟨v, Lv, Ls', B', rfl, hm', h1, h2, h3⟩
theorem rbRead_spec {p xv : Value} {G : Pgr} {D : Dsk} {Ls : List (Nat × Blk)} {a : Int} (hO : D.OK) (hc : D.cache.length < 1000000000000) (hP : RK p xv G D Ls) (hS : St H0 B0 B (Ls ++ L) H) :
    Ev (fun K _ => rn K 31 [p, .int .i64 a] H) (RgP H0 B0 B L p xv (.tuple #[str (G.walk D a).1.2.1, .int .i64 (G.walk D a).1.2.2]) (G.walk D a).2 D) := by
  refine Ev.fn (fun K => f31_eq K _ _ H) ?_
  refine Ev.b2 (rwalk_spec (a := a) hO hc hP hS) ?_
  rintro _ H1 ⟨v, Lv, Ls', B', rfl, hm', h1, h2, h3⟩
  repeat (first|refine zA ?_|refine zB fun _ _ _=>?_|refine zC fun _ _ _=>?_|refine zD fun _ _=>?_|refine zE ?_|refine zF ?_)
  exact Ev.ret ⟨rfl, Ls', B', hm', h1, h3.drop (List.sublist_append_right _ _)⟩
end
end Go.AM.E
namespace Go.AM.E
open Go Go.AM Go.Proofs
attribute [local irreducible] run bin un ld st box newV mkS fldA fld ixA ix slc slc3 build buildS cv cvS ap cpy lenV gOp pickV b2 aIf aChk evalK resume iterD Option.bind

section
variable {B B0 H0 H : AH} {L : List (Nat × Blk)}
theorem DK.ptr {dv : Value} {D : Dsk} {Ls : List (Nat × Blk)} (h : DK dv D Ls) : ∃ d, dv = ptr d 0 := by obtain ⟨d, bb, cv, Lc, hp, _⟩ := h; exact ⟨d, hp⟩
theorem Format_spec {dv : Value} {D : Dsk} {Ls : List (Nat × Blk)} (hD : DK dv D Ls) (hO : D.OK) (hc : D.cache.length + 2 < 1000000000000) (hS : St H0 B0 B (Ls ++ L) H) :
    Ev (fun k _ => rn k 26 [dv] H) (fun r => (D.format.1 ≠ 0 ∧ DkP H0 B0 B L dv (.tuple #[.pointer none, .int .i64 D.format.1]) D.format.2 r) ∨ (D.format.1 = 0 ∧ ∃ p, PgP H0 B0 B L p dv (.tuple #[p, .int .i64 0]) ⟨1, 0, [0, 1], [], false⟩ D.format.2 r)) := by
  refine Ev.fn (fun k => f26_eq k _ H) ?_
  have h2 := hO.n2
  refine Ev.b2 (pages_spec hD hO hS fun x hx => List.mem_append_left _ hx) ?_
  rintro v H1 h
  cases h
  unfold Dsk.format
  by_cases h4 : D.n / 2 < 4
  · rw [if_pos h4]
    repeat (first | (first|refine zA ?_|refine zB fun _ _ _=>?_|refine zC fun _ _ _=>?_|refine zD fun _ _=>?_|refine zE ?_|refine zF ?_) | rw [decide_eq_true (by omega)] | rw [decide_eq_false (by omega)])
    exact Ev.ret (.inl ⟨by simp, rfl, Ls, B, ⟨Mo.refl B⟩, hD, hS⟩)
  rw [if_neg h4]
  obtain ⟨d, rfl⟩ := hD.ptr
  repeat (first | (first|refine zA ?_|refine zB fun _ _ _=>?_|refine zC fun _ _ _=>?_|refine zD fun _ _=>?_|refine zE ?_|refine zF ?_) | rw [decide_eq_true (by omega)] | rw [decide_eq_false (by omega)])
  refine Ev.mkMap (P := Tryz.prog) hS fun mb H1 hS1 => ?_
  refine Ev.mpTrueI (S := []) (kt := 3) (et := 4) (Und.eq (P := Tryz.prog) (t := 99)) (Und.eq (P := Tryz.prog) (t := 3)) hS1 (.head _) (.head _) fun H2 hS2 => ?_
  refine Ev.mpTrueI (S := [0]) (kt := 3) (et := 4) (Und.eq (P := Tryz.prog) (t := 99)) (Und.eq (P := Tryz.prog) (t := 3)) hS2 (.head _) (.head _) fun H3 hS3 => ?_
  clear hS hS1 hS2
  rw [show insI [0] 1 = [0, 1] from rfl] at hS3
  repeat (first | (first|refine zA ?_|refine zB fun _ _ _=>?_|refine zC fun _ _ _=>?_|refine zD fun _ _=>?_|refine zE ?_|refine zF ?_) | rw [decide_eq_true (by omega)] | rw [decide_eq_false (by omega)])
  rename_i pb H4 hS4
  clear hS3
  have hS5 : St H0 B0 B (Ls ++ ((pb, _) :: (mb, _) :: L)) H4 := hS4.perm (permA [_, _] Ls L)
  refine Ev.b2 (hwrite_spec (t := 1) (r := 0) (U := [0, 1]) hD hO (by omega) (by decide) (by decide) (by decide) (.tail _ (.head _)) hS5) ?_
  clear hS4 hS5
  have hwo := pwrite_ok hO ((1 % 2 : Nat) : Int) 1 (textH 1 0 [0, 1])
  have hwc := pwrite_cache D ((1 % 2 : Nat) : Int) 1 (textH 1 0 [0, 1])
  change (hwrite D 1 0 [0, 1]).2.OK at hwo
  change (hwrite D 1 0 [0, 1]).2.cache.length ≤ _ at hwc
  rw [show ((0 : Nat) : Int) = 0 from rfl]
  generalize hwrite D 1 0 [0, 1] = w at hwo hwc ⊢
  obtain ⟨w1, w2⟩ := w
  dsimp only at hwo hwc ⊢
  rintro _ H5 ⟨rfl, Ls5, B5, hm5, hD5, hS5⟩
  dsimp only at hS5
  by_cases hw : w1 = 0
  case neg =>
    rw [if_pos hw]
    repeat (first|refine zA ?_|refine zB fun _ _ _=>?_|refine zC fun _ _ _=>?_|refine zD fun _ _=>?_|refine zE ?_|refine zF ?_)
    rw [decide_eq_true hw]
    repeat (first|refine zA ?_|refine zB fun _ _ _=>?_|refine zC fun _ _ _=>?_|refine zD fun _ _=>?_|refine zE ?_|refine zF ?_)
    exact Ev.ret (.inl ⟨hw, rfl, Ls5, B5, hm5, hD5, hS5.drop (List.Sublist.append_left (.cons _ (.cons _ (List.Sublist.refl _))) _)⟩)
  rw [if_neg (by simpa using hw)]
  repeat (first|refine zA ?_|refine zB fun _ _ _=>?_|refine zC fun _ _ _=>?_|refine zD fun _ _=>?_|refine zE ?_|refine zF ?_)
  rw [decide_eq_false (by simpa using hw)]
  repeat (first|refine zA ?_|refine zB fun _ _ _=>?_|refine zC fun _ _ _=>?_|refine zD fun _ _=>?_|refine zE ?_|refine zF ?_)
  refine Ev.b2 (Barrier_spec hD5 hwo (by omega) hS5) ?_
  generalize w2.barrier = b at ⊢
  obtain ⟨b1, b2⟩ := b
  dsimp only
  rintro _ H6 ⟨rfl, Ls6, B6, hm6, hD6, hS6⟩
  dsimp only at hS6
  by_cases hb : b1 = 0
  case neg =>
    repeat (first|refine zA ?_|refine zB fun _ _ _=>?_|refine zC fun _ _ _=>?_|refine zD fun _ _=>?_|refine zE ?_|refine zF ?_)
    rw [decide_eq_true hb]
    repeat (first|refine zA ?_|refine zB fun _ _ _=>?_|refine zC fun _ _ _=>?_|refine zD fun _ _=>?_|refine zE ?_|refine zF ?_)
    exact Ev.ret (.inl ⟨hb, rfl, Ls6, B6, ⟨hm5.mo.trans hm6.mo⟩, hD6, hS6.drop (List.Sublist.append_left (.cons _ (.cons _ (List.Sublist.refl _))) _)⟩)
  repeat (first|refine zA ?_|refine zB fun _ _ _=>?_|refine zC fun _ _ _=>?_|refine zD fun _ _=>?_|refine zE ?_|refine zF ?_)
  rw [decide_eq_false (by simpa using hb)]
  repeat (first|refine zA ?_|refine zB fun _ _ _=>?_|refine zC fun _ _ _=>?_|refine zD fun _ _=>?_|refine zE ?_|refine zF ?_)
  refine Ev.ret (.inr ⟨hb, ptr pb 0, rfl, _, B6, ⟨hm5.mo.trans hm6.mo⟩, ⟨pb, mb, _, [], Ls6, rfl, hD6, FRS.nil, rfl⟩, ?_⟩)
  exact (hS6.perm (permA Ls6 [_, _] L))
theorem PK.sub {p dv : Value} {G : Pgr} {D : Dsk} {Ls : List (Nat × Blk)} (h : PK p dv G D Ls) : ∃ Ld, DK dv D Ld ∧ ∀ x ∈ Ld, x ∈ Ls := by
  obtain ⟨pb, mb, fv, Lf, Ld, rfl, hD, hF, rfl⟩ := h
  exact ⟨Ld, hD, fun x hx => .tail _ (.tail _ (List.mem_append_right _ hx))⟩
theorem Pages_spec {p dv : Value} {G : Pgr} {D : Dsk} {Ls Lx : List (Nat × Blk)} (hP : PK p dv G D Ls) (hO : D.OK) (hS : St H0 B0 B Lx H) (hsub : ∀ x ∈ Ls, x ∈ Lx) :
    Ev (fun k _ => rn k 41 [p] H) (fun r => r = (i64 (D.n / 2), H)) := by
  obtain ⟨Ld, hD, hs⟩ := hP.sub
  obtain ⟨pb, mb, fv, Lf, Ld', rfl, hD', hF, rfl⟩ := hP
  obtain ⟨d, rfl⟩ := hD.ptr
  have hcell := hF.cell
  have hi : InL pb _ Lx := ⟨hsub _ (.head _)⟩
  refine Ev.fn (fun k => f41_eq k _ H) ?_
  repeat (first|refine zA ?_|refine zB fun _ _ _=>?_|refine zC fun _ _ _=>?_|refine zD fun _ _=>?_|refine zE ?_|refine zF ?_)
  refine Ev.b2 (pages_spec hD hO hS fun x hx => hsub _ (hs x hx)) ?_
  rintro v H1 h
  cases h
  exact Ev.ret rfl
theorem Alloc_loop {pb mb d : Nat} {fv : Value} {Lf Lr : List (Nat × Blk)} {tv rv : Value} {U F : List Int} {m : Nat} [IsCell tv] [IsCell rv] (hF : FR fv F Lf) (hl : F.length < 100000) (hm : m < 100000) : ∀ (q i : Nat), i + q = m → 
    (St H0 B0 B ((pb, ⟨[tv, rv, .map (some mb), ptr d 0, fv, .bool false], 103, .fix⟩) :: (mb, ⟨entI U, 99, .map⟩) :: (Lf ++ Lr)) H) → (∀ j < i, (!decide (((j : Nat) : Int) ∈ U) && !decide ((j : Int) ∈ F)) = false) →
    Ev (fun k K => f16_L0 k (ptr pb 0) (i64 m) (i64 i) K H) (fun o =>
      (∃ n : Nat, (List.range m).find? (fun (n : Nat) => !decide ((n : Int) ∈ U) && !decide ((n : Int) ∈ F)) = some n ∧ ∃ fv' Lf' H', o = (.ret, f16_X_L0 (i64 n) (.int .i64 0), H') ∧ FR fv' (F ++ [(n : Int)]) Lf' ∧
        St H0 B0 B ((pb, ⟨[tv, rv, .map (some mb), ptr d 0, fv', .bool false], 103, .fix⟩) :: (mb, ⟨entI U, 99, .map⟩) :: (Lf' ++ Lr)) H') ∨
      ((List.range m).find? (fun (n : Nat) => !decide ((n : Int) ∈ U) && !decide ((n : Int) ∈ F)) = none ∧ o = (.exit 0, f16_X_L0 unk unk, H))) := by
  intro q
  induction q with
  | zero =>
    intro i hi hS hno
    refine Ev.succ (fun k K => f16_L0_succ k _ _ _ K H) ?_
    repeat (first|refine zA ?_|refine zB fun _ _ _=>?_|refine zC fun _ _ _=>?_|refine zD fun _ _=>?_|refine zE ?_|refine zF ?_)
    rw [decide_eq_false (by omega)]
    repeat (first|refine zA ?_|refine zB fun _ _ _=>?_|refine zC fun _ _ _=>?_|refine zD fun _ _=>?_|refine zE ?_|refine zF ?_)
    refine Ev.ret (.inr ⟨?_, rfl⟩)
    rw [List.find?_eq_none]
    intro j hj
    rw [hno j (by have := List.mem_range.1 hj; omega)]
    decide
  | succ q ih =>
    intro i hi hS hno
    have hcell := hF.cell
    refine Ev.succ (fun k K => f16_L0_succ k _ _ _ K H) ?_
    repeat (first|refine zA ?_|refine zB fun _ _ _=>?_|refine zC fun _ _ _=>?_|refine zD fun _ _=>?_|refine zE ?_|refine zF ?_)
    rw [decide_eq_true (by omega)]
    repeat (first|refine zA ?_|refine zB fun _ _ _=>?_|refine zC fun _ _ _=>?_|refine zD fun _ _=>?_|refine zE ?_|refine zF ?_)
    refine Ev.prim (lkI (kt := 3) (et := 4) (Und.eq (P := Tryz.prog) (t := 99)) (Und.eq (P := Tryz.prog) (t := 3)) (by kernel_rfl) hS (.tail _ (.head _))) ?_
    have next : (!decide ((i : Int) ∈ U) && !decide ((i : Int) ∈ F)) = false → ∀ j < i + 1, (!decide (((j : Nat) : Int) ∈ U) && !decide ((j : Int) ∈ F)) = false := fun h j hj => by
      by_cases he : j = i
      · subst he; exact h
      · exact hno j (by omega)
    by_cases hu : (i : Int) ∈ U
    · rw [decide_eq_true hu]
      repeat (first | (first|refine zA ?_|refine zB fun _ _ _=>?_|refine zC fun _ _ _=>?_|refine zD fun _ _=>?_|refine zE ?_|refine zF ?_) | rw [decide_eq_true (by omega)] | rw [decide_eq_false (by omega)])
      exact ih (i + 1) (by omega) hS (next (by simp [hu]))
    rw [decide_eq_false hu]
    repeat (first|refine zA ?_|refine zB fun _ _ _=>?_|refine zC fun _ _ _=>?_|refine zD fun _ _=>?_|refine zE ?_|refine zF ?_)
    refine Ev.b2 (Contains_spec (i : Int) hF (by omega) hS fun x hx => .tail _ (.tail _ (List.mem_append_left _ hx))) ?_
    rintro v H1 h
    cases h
    by_cases hf : (i : Int) ∈ F
    · rw [decide_eq_true hf]
      repeat (first | (first|refine zA ?_|refine zB fun _ _ _=>?_|refine zC fun _ _ _=>?_|refine zD fun _ _=>?_|refine zE ?_|refine zF ?_) | rw [decide_eq_true (by omega)] | rw [decide_eq_false (by omega)])
      exact ih (i + 1) (by omega) hS (next (by simp [hf]))
    rw [decide_eq_false hf]
    repeat (first|refine zA ?_|refine zB fun _ _ _=>?_|refine zC fun _ _ _=>?_|refine zD fun _ _=>?_|refine zE ?_|refine zF ?_)
    have hS2 : St H0 B0 B (Lf ++ ((pb, _) :: (mb, _) :: Lr)) H := hS.perm (permA [_, _] Lf Lr)
    refine FRS.push eltI hF hS2 (by omega) fun fv' Lf' H' hF' hS' => ?_
    have hcell' := hF'.cell
    have hS3 : St H0 B0 B ((pb, _) :: (mb, _) :: (Lf' ++ Lr)) H' := hS'.perm (permA Lf' [_, _] Lr)
    clear hS hS2 hS'
    repeat (first|refine zA ?_|refine zB fun _ _ _=>?_|refine zC fun _ _ _=>?_|refine zD fun _ _=>?_|refine zE ?_|refine zF ?_)
    refine Ev.ret (.inl ⟨i, ?_, fv', Lf', _, rfl, hF', by assumption⟩)
    rw [List.find?_range_eq_some]
    exact ⟨by simp [hu, hf], List.mem_range.2 (by omega), fun j hj => by rw [hno j hj]; rfl⟩
theorem Alloc_spec {p dv : Value} {G : Pgr} {D : Dsk} {Ls : List (Nat × Blk)} (hP : PK p dv G D Ls) (hO : D.OK) (hl : G.fresh.length < 100000) (hS : St H0 B0 B (Ls ++ L) H) :
    Ev (fun k _ => rn k 16 [p] H) (PgP H0 B0 B L p dv (.tuple #[.int .i64 (G.alloc (D.n / 2)).1, .int .i64 (G.alloc (D.n / 2)).2.1]) (G.alloc (D.n / 2)).2.2 D) := by
  have hP0 := hP
  obtain ⟨pb, mb, fv, Lf, Ld, rfl, hD, hF, rfl⟩ := hP
  obtain ⟨d, rfl⟩ := hD.ptr
  have hcell := hF.cell
  obtain ⟨turn, root, U, F, dn⟩ := G
  dsimp only at hF hl hP0 hS
  refine Ev.fn (fun k => f16_eq k _ H) ?_
  simp only [List.cons_append] at hS
  unfold Pgr.alloc
  dsimp only
  have hn := hO.n2
  cases dn with
  | true =>
    repeat (first|refine zA ?_|refine zB fun _ _ _=>?_|refine zC fun _ _ _=>?_|refine zD fun _ _=>?_|refine zE ?_|refine zF ?_)
    exact Ev.ret ⟨rfl, _, B, ⟨Mo.refl B⟩, hP0, hS⟩
  | false =>
    rw [if_neg (by decide)]
    repeat (first|refine zA ?_|refine zB fun _ _ _=>?_|refine zC fun _ _ _=>?_|refine zD fun _ _=>?_|refine zE ?_|refine zF ?_)
    refine Ev.b2 (Pages_spec hP0 hO hS fun x hx => ?_) ?_
    · rcases List.mem_cons.1 hx with rfl | hx
      · exact .head _
      · rcases List.mem_cons.1 hx with rfl | hx
        · exact .tail _ (.head _)
        · exact .tail _ (.tail _ (List.mem_append_left _ hx))
    rintro v H1 h
    cases h
    have hS2 : St H0 B0 B ((pb, ⟨[i64 turn, .int .i64 root, .map (some mb), ptr d 0, fv, .bool false], 103, .fix⟩) :: (mb, ⟨entI U, 99, .map⟩) :: (Lf ++ (Ld ++ L))) H := by rw [List.append_assoc] at hS; exact hS
    refine Ev.bind (Ev.loop (Alloc_loop hF hl (by omega) (D.n / 2) 0 (by omega) hS2 (fun j hj => by omega))) ?_
    rintro _ (⟨n, hfd, fv', Lf', H', rfl, hF', hS'⟩ | ⟨hfd, rfl⟩)
    · refine Ev.eq (fun k _ => f16_A0_ret k _ _ H') ?_
      rw [hfd]
      refine Ev.ret ⟨rfl, _, B, ⟨Mo.refl B⟩, ⟨pb, mb, fv', Lf', Ld, rfl, hD, hF', rfl⟩, ?_⟩
      show St H0 B0 B ((pb, _) :: (mb, _) :: ((Lf' ++ Ld) ++ L)) H'
      rw [List.append_assoc]
      exact hS'
    · refine Ev.eq (fun k _ => f16_A0_x0 k _ _ H) ?_
      rw [hfd]
      exact Ev.ret ⟨rfl, _, B, ⟨Mo.refl B⟩, hP0, hS⟩
theorem Back_spec {p dv : Value} {G : Pgr} {D : Dsk} {Ls : List (Nat × Blk)} {many : Int} (hP : PK p dv G D Ls) (hl : G.fresh.length < 100000) (hS : St H0 B0 B (Ls ++ L) H) :
    Ev (fun k _ => rn k 76 [p, .int .i64 many] H) (PgP H0 B0 B L p dv (.tuple #[]) (G.back many) D) := by
  obtain ⟨pb, mb, fv, Lf, Ld, rfl, hD, hF, rfl⟩ := hP
  obtain ⟨d, rfl⟩ := hD.ptr
  have hcell := hF.cell
  simp only [List.cons_append] at hS
  refine Ev.fn (fun k => f76_eq k _ _ H) ?_
  repeat (first|refine zA ?_|refine zB fun _ _ _=>?_|refine zC fun _ _ _=>?_|refine zD fun _ _=>?_|refine zE ?_|refine zF ?_)
  refine Ev.prim (hF.len (Und.eq (P := Tryz.prog) (t := 82))) ?_
  refine Ev.prim (show fold1 minV [.int .i64 (if 0 > many then 0 else many), i64 G.fresh.length] = some (.int .i64 ((min many.toNat G.fresh.length : Nat) : Int)) from by
    rw [min_int]; congr 2; split <;> omega) ?_
  obtain ⟨fv', q1, q2⟩ := hF.back eltI (j := min many.toNat G.fresh.length) (Nat.min_le_right _ _)
  have hcell' := q2.cell
  refine Ev.prim q1 ?_
  repeat (first|refine zA ?_|refine zB fun _ _ _=>?_|refine zC fun _ _ _=>?_|refine zD fun _ _=>?_|refine zE ?_|refine zF ?_)
  have e : G.fresh.take (min many.toNat G.fresh.length) = G.fresh.take many.toNat := by
    rcases Nat.le_total many.toNat G.fresh.length with h | h
    · rw [Nat.min_eq_left h]
    · rw [Nat.min_eq_right h, List.take_length, List.take_of_length_le h]
  rw [e] at q2
  exact Ev.ret ⟨rfl, _, B, ⟨Mo.refl B⟩, ⟨pb, mb, fv', Lf, Ld, rfl, hD, q2, rfl⟩, by assumption⟩
theorem Root_spec {p dv : Value} {G : Pgr} {D : Dsk} {Ls Lx : List (Nat × Blk)} (hP : PK p dv G D Ls) (hS : St H0 B0 B Lx H) (hsub : ∀ x ∈ Ls, x ∈ Lx) :
    Ev (fun k _ => rn k 29 [p] H) (fun r => r = (.int .i64 G.root, H)) := by
  obtain ⟨pb, mb, fv, Lf, Ld', rfl, hD', hF, rfl⟩ := hP
  have hi : InL pb _ Lx := ⟨hsub _ (.head _)⟩
  refine Ev.fn (fun k => f29_eq k _ H) ?_
  repeat (first|refine zA ?_|refine zB fun _ _ _=>?_|refine zC fun _ _ _=>?_|refine zD fun _ _=>?_|refine zE ?_|refine zF ?_)
  exact Ev.ret rfl
theorem Fresh_spec {p dv : Value} {G : Pgr} {D : Dsk} {Ls : List (Nat × Blk)} (hP : PK p dv G D Ls) (hl : G.fresh.length < 100000) (hS : St H0 B0 B (Ls ++ L) H) :
    Ev (fun k _ => rn k 74 [p] H) (fun r => ∃ B', MoC B B' ∧ ScN B' r.1 G.fresh.length 1 (intV G.fresh) ∧ St H0 B0 B' (Ls ++ L) r.2) := by
  have hP0 := hP
  obtain ⟨pb, mb, fv, Lf, Ld, rfl, hD, hF, rfl⟩ := hP
  have hcell := hF.cell
  simp only [List.cons_append] at hS
  refine Ev.fn (fun k => f74_eq k _ H) ?_
  repeat (first|refine zA ?_|refine zB fun _ _ _=>?_|refine zC fun _ _ _=>?_|refine zD fun _ _=>?_|refine zE ?_|refine zF ?_)
  rw [show (fun k n : Nat => AM.b2 (rn k 98 [fv] H) fun v4 h4 => some (v4, h4)) = fun k n => rn k 98 [fv] H from funext fun k => funext fun _ => b2_id _]
  refine Ev.fn (fun k => f98_eq k _ H) ?_
  have hN := hF.now hS (fun x hx => .tail _ (.tail _ (List.mem_append_left _ (List.mem_append_left _ hx))))
  have app : ∀ (Lx : List (Nat × Blk)), (∀ x ∈ Lf, x ∈ Lx) → ∀ B' H' v, MoC B B' → St H0 B0 B' Lx H' → GAcc 3 1 H0 B0 B' Lx H' v 0 [] →
      Ev (fun k n => AM.b2 (AM.ap Tryz.prog 82 82 H' v fv) fun v3 h3 => some (v3, h3)) (fun r : Value × AH => ∃ B', MoC B B' ∧ ScN B' r.1 G.fresh.length 1 (intV G.fresh) ∧ St H0 B0 B' Lx r.2) := by
    intro Lx hsub B' H' v hm hS' hG
    have hN' := hF.now hS' hsub
    refine GAcc.more (t := 82) (u := 82) (Und.eq (P := Tryz.prog) (t := 82)) hG hN' (by simp [intV, isCell]) (by omega) fun v' B2 H2 hm2 hG2 => ?_
    obtain ⟨B3, hm3, hsc, hS3⟩ := hG2.freeze
    rw [Nat.zero_add, List.nil_append] at hsc
    exact Ev.ret ⟨B3, ⟨hm.mo.trans (hm2.mo.trans hm3.mo)⟩, hsc, hS3⟩
  have bs : ∀ (w : Value), (bin Tryz.prog .eql 82 w (.slice none 0 0) = some (.bool true) ∧ w = .slice none 0 0) ∨ bin Tryz.prog .eql 82 w (.slice none 0 0) = some (.bool false) ∨ (∀ b o n c, w ≠ sl b o n c) ∧ w ≠ .slice none 0 0 := by
    intro w
    by_cases h1 : w = .slice none 0 0
    · left; rw [h1]; exact ⟨by kernel_rfl, rfl⟩
    · by_cases h2 : ∃ b o n c, w = sl b o n c
      · obtain ⟨b, o, n, c, rfl⟩ := h2
        right; left
        unfold bin sl
        rw [if_neg (by simp [flat1])]
        dsimp only
        rw [Und.eq (P := Tryz.prog) (t := 82), Option.bind_some]
        rfl
      · exact .inr (.inr ⟨fun b o n c h => h2 ⟨b, o, n, c, h⟩, h1⟩)
  rcases bs fv with ⟨h1, rfl⟩ | h1 | ⟨h1, h2⟩
  · refine Ev.prim h1 ?_
    repeat (first|refine zA ?_|refine zB fun _ _ _=>?_|refine zC fun _ _ _=>?_|refine zD fun _ _=>?_|refine zE ?_|refine zF ?_)
    refine Ev.ret ⟨B, ⟨Mo.refl B⟩, ?_, hS⟩
    rcases hN with ⟨_, h2, h3⟩ | ⟨b, off, cap, h2, _⟩
    · exact .inl ⟨rfl, h2, h3⟩
    · cases h2
  · refine Ev.prim h1 ?_
    repeat (first|refine zA ?_|refine zB fun _ _ _=>?_|refine zC fun _ _ _=>?_|refine zD fun _ _=>?_|refine zE ?_|refine zF ?_)
    refine Ev.prim2 (v := sl H.length 0 0 0) (H := mkB H [] 3 .fix) (by kernel_rfl) ?_
    have hS2 := (hS.mkB' [] 3 .fix).drop1
    exact app _ (fun x hx => .tail _ (.tail _ (List.mem_append_left _ (List.mem_append_left _ hx)))) B _ _ ⟨Mo.refl B⟩ hS2 (.inl ⟨rfl, rfl, .inr ⟨_, _, rfl⟩, hS2⟩)
  · rcases hN with ⟨h3, _⟩ | ⟨b, off, cap, h3, _⟩
    · exact (h2 h3).elim
    · exact (h1 _ _ _ _ h3).elim
end
end Go.AM.E
namespace Go.AM.E
open Go Go.AM Go.Proofs
attribute [local irreducible] run bin un ld st box newV mkS fldA fld ixA ix slc slc3 build buildS cv cvS ap cpy lenV gOp pickV b2 aIf aChk evalK resume iterD Option.bind

section
variable {B B0 H0 H : AH} {L : List (Nat × Blk)}
theorem st_toD {x y : Nat × Blk} {Lf Ld : List (Nat × Blk)} (h : St H0 B0 B (x :: y :: (Lf ++ Ld ++ L)) H) : St H0 B0 B (Ld ++ (x :: y :: (Lf ++ L))) H := h.perm (by
  have := (permA Ld (x :: y :: Lf) L).symm
  simpa [List.append_assoc] using this)
theorem st_toP {x y : Nat × Blk} {Lf Ld : List (Nat × Blk)} (h : St H0 B0 B (Ld ++ (x :: y :: (Lf ++ L))) H) : St H0 B0 B (x :: y :: (Lf ++ Ld ++ L)) H := h.perm (by
  have := permA Ld (x :: y :: Lf) L
  simpa [List.append_assoc] using this)
theorem Write_specP {p dv : Value} {G : Pgr} {D : Dsk} {Ls : List (Nat × Blk)} {n kind : Int} {t : List UInt8} (hP : PK p dv G D Ls) (hO : D.OK) (hc : D.cache.length + 1 < 1000000000000) (hl : G.fresh.length < 100000) (ht : t.length < 9223372036854775808) (hk : -9223372036854775808 ≤ kind ∧ kind < 9223372036854775808) (hS : St H0 B0 B (Ls ++ L) H) :
    Ev (fun k _ => rn k 18 [p, .int .i64 n, .int .i64 kind, str t] H) (PgP H0 B0 B L p dv (.int .i64 (G.write D n kind t).1) (G.write D n kind t).2.1 (G.write D n kind t).2.2) := by
  have hP0 := hP
  obtain ⟨pb, mb, fv, Lf, Ld, rfl, hD, hF, rfl⟩ := hP
  obtain ⟨d, rfl⟩ := hD.ptr
  have hcell := hF.cell
  obtain ⟨turn, root, U, F, dn⟩ := G
  dsimp only at hF hl hP0 hS
  simp only [List.cons_append] at hS
  refine Ev.fn (fun k => f18_eq k _ _ _ _ H) ?_
  unfold Pgr.write
  dsimp only
  cases dn with
  | true =>
    rw [if_pos rfl]
    repeat (first|refine zA ?_|refine zB fun _ _ _=>?_|refine zC fun _ _ _=>?_|refine zD fun _ _=>?_|refine zE ?_|refine zF ?_)
    exact Ev.ret ⟨rfl, _, B, ⟨Mo.refl B⟩, hP0, hS⟩
  | false =>
    rw [if_neg (by decide)]
    repeat (first|refine zA ?_|refine zB fun _ _ _=>?_|refine zC fun _ _ _=>?_|refine zD fun _ _=>?_|refine zE ?_|refine zF ?_)
    refine Ev.b2 (Contains_spec n hF (by omega) hS fun x hx => .tail _ (.tail _ (List.mem_append_left _ (List.mem_append_left _ hx)))) ?_
    rintro v H1 h
    cases h
    by_cases hf : n ∈ F
    case neg =>
      rw [decide_eq_false hf, if_pos hf]
      repeat (first|refine zA ?_|refine zB fun _ _ _=>?_|refine zC fun _ _ _=>?_|refine zD fun _ _=>?_|refine zE ?_|refine zF ?_)
      exact Ev.ret ⟨rfl, _, B, ⟨Mo.refl B⟩, hP0, hS⟩
    rw [decide_eq_true hf, if_neg (by simpa using hf)]
    repeat (first|refine zA ?_|refine zB fun _ _ _=>?_|refine zC fun _ _ _=>?_|refine zD fun _ _=>?_|refine zE ?_|refine zF ?_)
    refine Ev.b2 (pWrite_spec (n := n) (kind := kind) hD hO hc ht hk (st_toD hS)) ?_
    generalize D.pwrite n kind t = w
    obtain ⟨w1, w2⟩ := w
    dsimp only
    rintro _ H2 ⟨rfl, Ld2, B2, hm2, hD2, hS2⟩
    dsimp only at hS2
    repeat (first|refine zA ?_|refine zB fun _ _ _=>?_|refine zC fun _ _ _=>?_|refine zD fun _ _=>?_|refine zE ?_|refine zF ?_)
    refine Ev.b2 (told_spec (.head _) (.head _) (st_toP hS2)) ?_
    rintro _ H3 ⟨rfl, hS3⟩
    exact Ev.ret ⟨rfl, _, B2, hm2, ⟨pb, mb, fv, Lf, Ld2, rfl, hD2, hF, rfl⟩, hS3⟩
theorem Read_specP {p dv : Value} {G : Pgr} {D : Dsk} {Ls : List (Nat × Blk)} {n : Int} (hP : PK p dv G D Ls) (hO : D.OK) (hc : D.cache.length < 1000000000000) (hS : St H0 B0 B (Ls ++ L) H) :
    Ev (fun k _ => rn k 93 [p, .int .i64 n] H) (PgP H0 B0 B L p dv (OpenV (G.read D n).1) (G.read D n).2 D) := by
  have hP0 := hP
  obtain ⟨pb, mb, fv, Lf, Ld, rfl, hD, hF, rfl⟩ := hP
  obtain ⟨d, rfl⟩ := hD.ptr
  have hcell := hF.cell
  obtain ⟨turn, root, U, F, dn⟩ := G
  dsimp only at hF hP0 hS
  simp only [List.cons_append] at hS
  refine Ev.fn (fun k => f93_eq k _ _ H) ?_
  have hn := hO.n2
  unfold Pgr.read
  dsimp only
  cases dn with
  | true =>
    rw [if_pos rfl]
    repeat (first|refine zA ?_|refine zB fun _ _ _=>?_|refine zC fun _ _ _=>?_|refine zD fun _ _=>?_|refine zE ?_|refine zF ?_)
    exact Ev.ret ⟨rfl, _, B, ⟨Mo.refl B⟩, hP0, hS⟩
  | false =>
    rw [if_neg (by decide)]
    repeat (first|refine zA ?_|refine zB fun _ _ _=>?_|refine zC fun _ _ _=>?_|refine zD fun _ _=>?_|refine zE ?_|refine zF ?_)
    by_cases h0 : n < 0
    · rw [decide_eq_true h0, if_pos (.inl h0)]
      repeat (first|refine zA ?_|refine zB fun _ _ _=>?_|refine zC fun _ _ _=>?_|refine zD fun _ _=>?_|refine zE ?_|refine zF ?_)
      exact Ev.ret ⟨rfl, _, B, ⟨Mo.refl B⟩, hP0, hS⟩
    rw [decide_eq_false h0]
    repeat (first|refine zA ?_|refine zB fun _ _ _=>?_|refine zC fun _ _ _=>?_|refine zD fun _ _=>?_|refine zE ?_|refine zF ?_)
    refine Ev.b2 (Pages_spec hP0 hO hS fun x hx => ?_) ?_
    · rcases List.mem_cons.1 hx with rfl | hx
      · exact .head _
      · rcases List.mem_cons.1 hx with rfl | hx
        · exact .tail _ (.head _)
        · exact .tail _ (.tail _ (List.mem_append_left _ hx))
    rintro v H1 h
    cases h
    repeat (first|refine zA ?_|refine zB fun _ _ _=>?_|refine zC fun _ _ _=>?_|refine zD fun _ _=>?_|refine zE ?_|refine zF ?_)
    by_cases h1 : ((D.n / 2 : Nat) : Int) ≤ n
    · rw [decide_eq_true h1, if_pos (.inr h1)]
      repeat (first|refine zA ?_|refine zB fun _ _ _=>?_|refine zC fun _ _ _=>?_|refine zD fun _ _=>?_|refine zE ?_|refine zF ?_)
      exact Ev.ret ⟨rfl, _, B, ⟨Mo.refl B⟩, hP0, hS⟩
    rw [decide_eq_false h1, if_neg (by omega)]
    repeat (first|refine zA ?_|refine zB fun _ _ _=>?_|refine zC fun _ _ _=>?_|refine zD fun _ _=>?_|refine zE ?_|refine zF ?_)
    refine Ev.b2 (pRead_spec (n := n) hD hO hc (st_toD hS)) ?_
    generalize D.pread n = w
    obtain ⟨w1, w2, w3⟩ := w
    dsimp only
    rintro _ H2 ⟨rfl, B2, hm2, hS2⟩
    try dsimp only at hS2
    unfold OpenV
    dsimp only
    repeat (first|refine zA ?_|refine zB fun _ _ _=>?_|refine zC fun _ _ _=>?_|refine zD fun _ _=>?_|refine zE ?_|refine zF ?_)
    refine Ev.b2 (told_spec (.head _) (.head _) (st_toP hS2)) ?_
    rintro _ H3 ⟨rfl, hS3⟩
    repeat (first|refine zA ?_|refine zB fun _ _ _=>?_|refine zC fun _ _ _=>?_|refine zD fun _ _=>?_|refine zE ?_|refine zF ?_)
    exact Ev.ret ⟨rfl, _, B2, hm2, ⟨pb, mb, fv, Lf, Ld, rfl, hD, hF, rfl⟩, hS3⟩
end
end Go.AM.E
namespace Go.AM.E
open Go Go.AM Go.Proofs
attribute [local irreducible] run bin un ld st box newV mkS fldA fld ixA ix slc slc3 build buildS cv cvS ap cpy lenV gOp pickV b2 aIf aChk evalK resume iterD Option.bind

section
variable {B B0 H0 H : AH} {L : List (Nat × Blk)}
theorem Need2_spec {n : Nat} : Ev (fun k _ => rn k 99 [i64 n] H) (fun r => r = (i64 (need n), H)) := by
  refine Ev.fn (fun k => f99_eq k _ H) ?_
  refine Ev.prim (show fold1 maxV [i64 n, .int .i64 0] = some (i64 n) from by rw [max_int]; congr 2; omega) ?_
  refine Ev.prim (show fold1 minV [i64 n, .int .i64 1048576] = some (i64 (min n 1048576)) from by rw [min_int]; congr 2; omega) ?_
  unfold need
  generalize hz : min n 1048576 = z
  repeat (first|refine zA ?_|refine zB fun _ _ _=>?_|refine zC fun _ _ _=>?_|refine zD fun _ _=>?_|refine zE ?_|refine zF ?_)
  by_cases h0 : z = 0
  · rw [if_pos h0, decide_eq_true h0]
    repeat (first|refine zA ?_|refine zB fun _ _ _=>?_|refine zC fun _ _ _=>?_|refine zD fun _ _=>?_|refine zE ?_|refine zF ?_)
    exact Ev.ret rfl
  · rw [if_neg h0, decide_eq_false h0]
    repeat (first | (first|refine zA ?_|refine zB fun _ _ _=>?_|refine zC fun _ _ _=>?_|refine zD fun _ _=>?_|refine zE ?_|refine zF ?_) | rw [decide_eq_true (by omega)] | rw [decide_eq_false (by omega)])
    exact Ev.ret (by rw [show z + 118 - 1 = z + 117 by omega])
theorem bw_alloc {p dv : Value} {D : Dsk} {m n : Nat} {s1 : Value} (hO : D.OK) (hm : D.n / 2 = m) (hn : n ≤ 10000) : ∀ (q i : Nat) (B H : AH) (G : Pgr) (Ls Lv : List (Nat × Blk)) (l : List Int) (v : Value), i + q = n → G.In m → PK p dv G D Ls → FR v l Lv → l.length = i → St H0 B0 B (Lv ++ (Ls ++ L)) H →
    Ev (fun K K2 => f75_L0 K p s1 v (i64 n) (i64 i) K2 H) (fun o =>
      ((allocN m q G l).2.1 = 0 ∧ ∃ B' H' Ls' Lv' v', o = (.exit 0, f75_X_L0 p s1 unk unk v', H') ∧ MoC B B' ∧ PK p dv (allocN m q G l).2.2 D Ls' ∧ FR v' (allocN m q G l).1 Lv' ∧ St H0 B0 B' (Lv' ++ (Ls' ++ L)) H') ∨
      ((allocN m q G l).2.1 ≠ 0 ∧ ∃ B' H' Ls' w, o = (.ret, f75_X_L0 p s1 (.slice none 0 0) (.int .i64 (allocN m q G l).2.1) w, H') ∧ MoC B B' ∧ PK p dv (allocN m q G l).2.2 D Ls' ∧ St H0 B0 B' (Ls' ++ L) H')) := by
  have hm5 : m ≤ 512 := by have := hO.n2; omega
  intro q
  induction q with
  | zero =>
    intro i B H G Ls Lv l v hi hG hP hF hll hS
    refine Ev.succ (fun K K2 => f75_L0_succ K _ _ _ _ _ K2 H) ?_
    repeat (first | (first|refine zA ?_|refine zB fun _ _ _=>?_|refine zC fun _ _ _=>?_|refine zD fun _ _=>?_|refine zE ?_|refine zF ?_) | rw [decide_eq_true (by omega)] | rw [decide_eq_false (by omega)])
    exact Ev.ret (.inl ⟨rfl, B, H, Ls, Lv, v, rfl, ⟨Mo.refl B⟩, hP, hF, hS⟩)
  | succ q ih =>
    intro i B H G Ls Lv l v hi hG hP hF hll hS
    refine Ev.succ (fun K K2 => f75_L0_succ K _ _ _ _ _ K2 H) ?_
    repeat (first | (first|refine zA ?_|refine zB fun _ _ _=>?_|refine zC fun _ _ _=>?_|refine zD fun _ _=>?_|refine zE ?_|refine zF ?_) | rw [decide_eq_true (by omega)] | rw [decide_eq_false (by omega)])
    have hgl := hG.len
    refine Ev.b2 (Alloc_spec hP hO (by omega) (hS.perm (L' := Ls ++ (Lv ++ L)) (by (refine perm_cnt ?_; intro _ a; simp only [List.count_append, List.count_cons, List.cons_append, List.nil_append, List.append_assoc]; try ac_rfl)))) ?_
    rw [hm]
    have hGa := hG.alloc
    unfold allocN
    generalize G.alloc m = a at hGa
    obtain ⟨a1, a2, G1⟩ := a
    dsimp only at hGa ⊢
    rintro _ H1 ⟨rfl, Ls1, B1, hm1, hP1, hS1⟩
    dsimp only at hS1
    clear hS
    repeat (first|refine zA ?_|refine zB fun _ _ _=>?_|refine zC fun _ _ _=>?_|refine zD fun _ _=>?_|refine zE ?_|refine zF ?_)
    by_cases he : a2 = 0
    case neg =>
      rw [if_pos he, decide_eq_true he]
      repeat (first|refine zA ?_|refine zB fun _ _ _=>?_|refine zC fun _ _ _=>?_|refine zD fun _ _=>?_|refine zE ?_|refine zF ?_)
      exact Ev.ret (.inr ⟨he, B1, H1, Ls1, v, rfl, hm1, hP1, hS1.drop (List.Sublist.append_left (List.sublist_append_right _ _) _)⟩)
    rw [if_neg (by simpa using he), decide_eq_false (by simpa using he)]
    repeat (first|refine zA ?_|refine zB fun _ _ _=>?_|refine zC fun _ _ _=>?_|refine zD fun _ _=>?_|refine zE ?_|refine zF ?_)
    refine FRS.push (x := a1) eltI hF (hS1.perm (L' := Lv ++ (Ls1 ++ L)) (by (refine perm_cnt ?_; intro _ a; simp only [List.count_append, List.count_cons, List.cons_append, List.nil_append, List.append_assoc]; try ac_rfl))) (by omega) fun v' Lv' H2 hF2 hS2 => ?_
    clear hS1
    repeat (first | (first|refine zA ?_|refine zB fun _ _ _=>?_|refine zC fun _ _ _=>?_|refine zD fun _ _=>?_|refine zE ?_|refine zF ?_) | rw [decide_eq_true (by omega)] | rw [decide_eq_false (by omega)])
    refine (ih (i + 1) B1 H2 G1 Ls1 Lv' _ v' (by omega) hGa hP1 hF2 (by rw [List.length_append, List.length_singleton, hll]) hS2).mono ?_
    rintro o (⟨h1, B', H', Ls', Lv2, v2, e, hm', h2⟩ | ⟨h1, B', H', Ls', w, e, hm', h2⟩)
    · exact .inl ⟨h1, B', H', Ls', Lv2, v2, e, ⟨hm1.mo.trans hm'.mo⟩, h2⟩
    · exact .inr ⟨h1, B', H', Ls', w, e, ⟨hm1.mo.trans hm'.mo⟩, h2⟩
theorem bw_lay {p dv : Value} {m : Nat} {v : Value} {s : List UInt8} {l : List Int} {Lv : List (Nat × Blk)} (hm5 : m ≤ 512) (hs : s.length ≤ 60000) (hl : ∀ x ∈ l, 0 ≤ x ∧ x < m) (hln : l.length = need s.length) (hF : FR v l Lv) : ∀ (q i : Nat) (B H : AH) (G : Pgr) (D : Dsk) (Ls : List (Nat × Blk)), i + q = l.length → G.In m → D.OK → D.n / 2 = m → D.cache.length + 2 * q < 100000000 → PK p dv G D Ls → St H0 B0 B (Lv ++ (Ls ++ L)) H →
    Ev (fun K K2 => f75_L1 K p (str (s.drop (118 * i))) v v (i64 l.length) (i64 i) K2 H) (fun o =>
      ((layN s l q i G D).1 = 0 ∧ ∃ B' H' Ls', o = (.exit 2, f75_X_L1 unk unk v, H') ∧ MoC B B' ∧ PK p dv (layN s l q i G D).2.1 (layN s l q i G D).2.2 Ls' ∧ St H0 B0 B' (Lv ++ (Ls' ++ L)) H') ∨
      ((layN s l q i G D).1 ≠ 0 ∧ ∃ B' H' Ls', o = (.ret, f75_X_L1 (.slice none 0 0) (.int .i64 (layN s l q i G D).1) v, H') ∧ MoC B B' ∧ PK p dv (layN s l q i G D).2.1 (layN s l q i G D).2.2 Ls' ∧ St H0 B0 B' (Lv ++ (Ls' ++ L)) H')) := by
  have hneed : need s.length ≤ 10000 := by unfold need; split <;> omega
  have hlv := hF.len (Und.eq (P := Tryz.prog) (t := 82))
  intro q
  induction q with
  | zero =>
    intro i B H G D Ls hi hG hO hm hc hP hS
    refine Ev.succ (fun K K2 => f75_L1_succ K _ _ _ _ _ _ K2 H) ?_
    repeat (first | (first|refine zA ?_|refine zB fun _ _ _=>?_|refine zC fun _ _ _=>?_|refine zD fun _ _=>?_|refine zE ?_|refine zF ?_) | rw [decide_eq_true (by omega)] | rw [decide_eq_false (by omega)])
    exact Ev.ret (.inl ⟨rfl, B, H, Ls, rfl, ⟨Mo.refl B⟩, hP, hS⟩)
  | succ q ih =>
    intro i B H G D Ls hi hG hO hm hc hP hS
    refine Ev.succ (fun K K2 => f75_L1_succ K _ _ _ _ _ _ K2 H) ?_
    repeat (first | (first|refine zA ?_|refine zB fun _ _ _=>?_|refine zC fun _ _ _=>?_|refine zD fun _ _=>?_|refine zE ?_|refine zF ?_) | rw [decide_eq_true (by omega)] | rw [decide_eq_false (by omega)])
    have hN := hF.now hS fun x hx => List.mem_append_left _ hx
    have hat : ∀ a, a < l.length → (intV l)[a]? = some (.int .i64 (l.getD a 0)) := fun a ha => by
      unfold intV
      rw [List.getElem?_map, List.getElem?_eq_getElem ha, List.getD, List.getElem?_eq_getElem ha]; rfl
    refine Ev.ixN (t := 82) hN i rfl (by omega) (hat i (by omega)) fun pp hp => ?_
    refine Ev.prim (hp.eq H (Mo.refl H)) ?_
    refine Ev.prim hlv ?_
    repeat (first | (first|refine zA ?_|refine zB fun _ _ _=>?_|refine zC fun _ _ _=>?_|refine zD fun _ _=>?_|refine zE ?_|refine zF ?_) | rw [decide_eq_true (by omega)] | rw [decide_eq_false (by omega)])
    have hlen : (s.drop (118 * i)).length < 9223372036854775808 := by rw [List.length_drop]; omega
    have go : ∀ nx : Nat, (nx : Int) = nextL l i → Ev (fun K K2 => f75_J0 K K2 p (str (s.drop (118 * i))) v (.int .i64 (l.getD i 0)) (i64 nx) v (i64 l.length) (i64 i) H) (fun o =>
      ((layN s l (q + 1) i G D).1 = 0 ∧ ∃ B' H' Ls', o = (.exit 2, f75_X_L1 unk unk v, H') ∧ MoC B B' ∧ PK p dv (layN s l (q + 1) i G D).2.1 (layN s l (q + 1) i G D).2.2 Ls' ∧ St H0 B0 B' (Lv ++ (Ls' ++ L)) H') ∨
      ((layN s l (q + 1) i G D).1 ≠ 0 ∧ ∃ B' H' Ls', o = (.ret, f75_X_L1 (.slice none 0 0) (.int .i64 (layN s l (q + 1) i G D).1) v, H') ∧ MoC B B' ∧ PK p dv (layN s l (q + 1) i G D).2.1 (layN s l (q + 1) i G D).2.2 Ls' ∧ St H0 B0 B' (Lv ++ (Ls' ++ L)) H')) := by
      intro nx hnx
      refine Ev.eq (fun K K2 => f75_J0_eq K K2 _ _ _ _ _ _ _ _ H) ?_
      repeat (first|refine zA ?_|refine zB fun _ _ _=>?_|refine zC fun _ _ _=>?_|refine zD fun _ _=>?_|refine zE ?_|refine zF ?_)
      rw [show (if (118 : Int) < ((s.drop (118 * i)).length : Int) then (118 : Int) else ((s.drop (118 * i)).length : Int)) = ((min (s.drop (118 * i)).length 118 : Nat) : Int) by split <;> omega]
      refine Ev.prim (shrL (by decide)) ?_
      refine Ev.prim (toU8 (Und.eq (P := Tryz.prog) (t := 3)) (Und.eq (P := Tryz.prog) (t := 5))) ?_
      refine Ev.prim (toU8 (Und.eq (P := Tryz.prog) (t := 3)) (Und.eq (P := Tryz.prog) (t := 5))) ?_
      refine Ev.bsC (by decide) fun bb H1 hS1 => ?_
      rw [show nx / 2 ^ 8 = nx / 256 from rfl, show [u8 (nx / 256 % 256), u8 (nx % 256)] = byts [UInt8.ofNat (nx / 256), UInt8.ofNat nx] from rfl] at hS1
      refine Ev.prim (cvS_part (d := 9) (bs := hdr nx) hS1 (.head _) (Nat.le_refl _) (by show 0 + 2 ≤ 2; decide)) ?_
      rw [show ((hdr nx).drop 0).take 2 = hdr nx from rfl]
      refine Ev.prim (slc_strT (l := s.drop (118 * i)) (i := min (s.drop (118 * i)).length 118) (Nat.min_le_left _ _)) ?_
      rw [take_piece]
      have hpl : (pieceT s i).length ≤ 118 := by unfold pieceT; rw [List.length_take]; omega
      refine Ev.prim (add_str (a := hdr nx) (b := pieceT s i) (by unfold hdr; simp; omega)) ?_
      have eb : hdr nx ++ pieceT s i = pageL s l i := by unfold pageL; rw [← hnx, Int.toNat_natCast]
      rw [eb]
      have hgl := hG.len
      have hlen : (pageL s l i).length < 9223372036854775808 := by rw [← eb]; unfold hdr; simp; omega
      refine Ev.b2 (Write_specP (n := l.getD i 0) (kind := 2) (t := pageL s l i) (L := Lv ++ L) hP hO (by omega) (by omega) hlen (by decide) (hS1.drop1.perm (by (refine perm_cnt ?_; intro _ a; simp only [List.count_append, List.count_cons, List.cons_append, List.nil_append, List.append_assoc]; try ac_rfl)))) ?_
      obtain ⟨w1, w2, w3⟩ := G.write_ok hO (l.getD i 0) 2 (pageL s l i)
      have w4 := hG.write D (l.getD i 0) 2 (pageL s l i)
      unfold layN
      generalize G.write D (l.getD i 0) 2 (pageL s l i) = w at w1 w2 w3 w4
      obtain ⟨e, G1, D1⟩ := w
      dsimp only at w1 w2 w3 w4 ⊢
      rintro _ H2 ⟨rfl, Ls2, B2, hm2, hP2, hS2⟩
      dsimp only at hS2
      clear hS1
      repeat (first|refine zA ?_|refine zB fun _ _ _=>?_|refine zC fun _ _ _=>?_|refine zD fun _ _=>?_|refine zE ?_|refine zF ?_)
      by_cases he : e = 0
      case neg =>
        rw [if_pos he, decide_eq_true he]
        repeat (first|refine zA ?_|refine zB fun _ _ _=>?_|refine zC fun _ _ _=>?_|refine zD fun _ _=>?_|refine zE ?_|refine zF ?_)
        exact Ev.ret (.inr ⟨he, B2, H2, Ls2, rfl, hm2, hP2, hS2.perm (by (refine perm_cnt ?_; intro _ a; simp only [List.count_append, List.count_cons, List.cons_append, List.nil_append, List.append_assoc]; try ac_rfl))⟩)
      rw [if_neg (by simpa using he), decide_eq_false (by simpa using he)]
      repeat (first|refine zA ?_|refine zB fun _ _ _=>?_|refine zC fun _ _ _=>?_|refine zD fun _ _=>?_|refine zE ?_|refine zF ?_)
      refine Ev.prim (slc_str (l := s.drop (118 * i)) (min (s.drop (118 * i)).length 118) rfl (Nat.min_le_left _ _)) ?_
      rw [drop_piece]
      repeat (first | (first|refine zA ?_|refine zB fun _ _ _=>?_|refine zC fun _ _ _=>?_|refine zD fun _ _=>?_|refine zE ?_|refine zF ?_) | rw [decide_eq_true (by omega)] | rw [decide_eq_false (by omega)])
      refine (ih (i + 1) B2 H2 G1 D1 Ls2 (by omega) w4 w1 (by rw [w2]; exact hm) (by omega) hP2 (hS2.perm (by (refine perm_cnt ?_; intro _ a; simp only [List.count_append, List.count_cons, List.cons_append, List.nil_append, List.append_assoc]; try ac_rfl)))).mono ?_
      rintro o (⟨h1, B', H', Ls', e', hm', h2⟩ | ⟨h1, B', H', Ls', e', hm', h2⟩)
      · exact .inl ⟨h1, B', H', Ls', e', ⟨hm2.mo.trans hm'.mo⟩, h2⟩
      · exact .inr ⟨h1, B', H', Ls', e', ⟨hm2.mo.trans hm'.mo⟩, h2⟩
    by_cases hlast : i + 1 < l.length
    · rw [decide_eq_true (by omega)]
      repeat (first | (first|refine zA ?_|refine zB fun _ _ _=>?_|refine zC fun _ _ _=>?_|refine zD fun _ _=>?_|refine zE ?_|refine zF ?_) | rw [decide_eq_true (by omega)] | rw [decide_eq_false (by omega)])
      refine Ev.ixN (t := 82) hN (i + 1) rfl (by omega) (hat (i + 1) hlast) fun pp2 hp2 => ?_
      refine Ev.prim (hp2.eq H (Mo.refl H)) ?_
      have hx := hl (l.getD (i + 1) 0) (by rw [List.getD, List.getElem?_eq_getElem hlast]; exact List.getElem_mem hlast)
      have := go (l.getD (i + 1) 0).toNat (by unfold nextL; omega)
      have e9 : i64 (l.getD (i + 1) 0).toNat = Value.int .i64 (l.getD (i + 1) 0) := by
        show Value.int .i64 ((l.getD (i + 1) 0).toNat : Int) = _
        rw [Int.toNat_of_nonneg hx.1]
      rw [e9] at this
      exact this
    · rw [decide_eq_false (by omega)]
      repeat (first | (first|refine zA ?_|refine zB fun _ _ _=>?_|refine zC fun _ _ _=>?_|refine zD fun _ _=>?_|refine zE ?_|refine zF ?_) | rw [decide_eq_true (by omega)] | rw [decide_eq_false (by omega)])
      exact go 0 (by unfold nextL; rw [List.getD, List.getElem?_eq_none (by omega)]; rfl)
theorem bw_spec {p dv : Value} {G : Pgr} {D : Dsk} {Ls : List (Nat × Blk)} {s : List UInt8} (hO : D.OK) (hG : G.In (D.n / 2)) (hc : D.cache.length < 10000000) (hsl : s.length < 9223372036854775808) (hP : PK p dv G D Ls) (hS : St H0 B0 B (Ls ++ L) H) :
    Ev (fun K _ => rn K 34 [p, str s] H) (PgP H0 B0 B L p dv (.tuple #[.int .i64 (G.bwrite D s).1, .int .i64 (G.bwrite D s).2.1]) (G.bwrite D s).2.2.1 (G.bwrite D s).2.2.2) := by
  have hm5 := hO.n2
  refine Ev.fn (fun K => f34_eq K _ _ H) ?_
  have hnp := need_pos s.length
  unfold Pgr.bwrite
  repeat (first|refine zA ?_|refine zB fun _ _ _=>?_|refine zC fun _ _ _=>?_|refine zD fun _ _=>?_|refine zE ?_|refine zF ?_)
  by_cases h6 : 60000 < s.length
  · rw [if_pos h6, decide_eq_true h6]
    repeat (first|refine zA ?_|refine zB fun _ _ _=>?_|refine zC fun _ _ _=>?_|refine zD fun _ _=>?_|refine zE ?_|refine zF ?_)
    exact Ev.ret ⟨rfl, Ls, B, ⟨Mo.refl B⟩, hP, hS⟩
  rw [if_neg h6, decide_eq_false h6]
  repeat (first|refine zA ?_|refine zB fun _ _ _=>?_|refine zC fun _ _ _=>?_|refine zD fun _ _=>?_|refine zE ?_|refine zF ?_)
  have hgl := hG.len
  have hneed : need s.length ≤ 10000 := by unfold need; split <;> omega
  refine Ev.b2 (Fresh_spec hP (by omega) hS) ?_
  clear hS
  rintro v1 H1 ⟨B1, hm1, hsc1, hS1⟩
  dsimp only at hS1 hsc1
  refine Ev.prim (hsc1.len (Und.eq (P := Tryz.prog) (t := 82))) ?_
  -- lay
  refine Ev.b2 (Q1 := fun r => ((allocN (D.n / 2) (need s.length) G []).2.1 ≠ 0 ∧ PgP H0 B0 B1 L p dv (.tuple #[.slice none 0 0, .int .i64 (allocN (D.n / 2) (need s.length) G []).2.1]) (allocN (D.n / 2) (need s.length) G []).2.2 D r) ∨
      ((allocN (D.n / 2) (need s.length) G []).2.1 = 0 ∧ (layN s (allocN (D.n / 2) (need s.length) G []).1 (need s.length) 0 (allocN (D.n / 2) (need s.length) G []).2.2 D).1 ≠ 0 ∧ PgP H0 B0 B1 L p dv (.tuple #[.slice none 0 0, .int .i64 (layN s (allocN (D.n / 2) (need s.length) G []).1 (need s.length) 0 (allocN (D.n / 2) (need s.length) G []).2.2 D).1]) (layN s (allocN (D.n / 2) (need s.length) G []).1 (need s.length) 0 (allocN (D.n / 2) (need s.length) G []).2.2 D).2.1 (layN s (allocN (D.n / 2) (need s.length) G []).1 (need s.length) 0 (allocN (D.n / 2) (need s.length) G []).2.2 D).2.2 r) ∨
      ((allocN (D.n / 2) (need s.length) G []).2.1 = 0 ∧ (layN s (allocN (D.n / 2) (need s.length) G []).1 (need s.length) 0 (allocN (D.n / 2) (need s.length) G []).2.2 D).1 = 0 ∧ ∃ v Lv Ls' B', r.1 = .tuple #[v, .int .i64 0] ∧ MoC B1 B' ∧ FR v (allocN (D.n / 2) (need s.length) G []).1 Lv ∧ PK p dv (layN s (allocN (D.n / 2) (need s.length) G []).1 (need s.length) 0 (allocN (D.n / 2) (need s.length) G []).2.2 D).2.1 (layN s (allocN (D.n / 2) (need s.length) G []).1 (need s.length) 0 (allocN (D.n / 2) (need s.length) G []).2.2 D).2.2 Ls' ∧ St H0 B0 B' (Lv ++ (Ls' ++ L)) r.2))
    (Ev.fn (fun K => f75_eq K _ _ H1) ?_) ?_
  · repeat (first|refine zA ?_|refine zB fun _ _ _=>?_|refine zC fun _ _ _=>?_|refine zD fun _ _=>?_|refine zE ?_|refine zF ?_)
    refine Ev.b2 (Need2_spec (n := s.length)) ?_
    rintro _ _ h
    cases h
    refine Ev.bind (Ev.loop (bw_alloc (m := D.n / 2) (n := need s.length) (s1 := str s) hO rfl hneed (need s.length) 0 B1 H1 G Ls [] [] (.slice none 0 0) (by omega) hG hP FRS.nil rfl hS1)) ?_
    obtain ⟨a1, a2, a3⟩ := allocN_in (m := D.n / 2) (need s.length) G [] hG (fun x hx => by cases hx)
    generalize allocN (D.n / 2) (need s.length) G [] = a at a1 a2 a3
    obtain ⟨l, e, G1⟩ := a
    dsimp only at a1 a2 a3 ⊢
    rintro _ (⟨h1, B2, H2, Ls2, Lv2, v2, rfl, hm2, hP2, hF2, hS2⟩ | ⟨h1, B2, H2, Ls2, w, rfl, hm2, hP2, hS2⟩)
    case inr =>
      refine Ev.eq (fun K _ => f75_A0_ret K _ _ _ _ _ H2) ?_
      exact Ev.ret (.inl ⟨h1, rfl, Ls2, B2, hm2, hP2, hS2⟩)
    have hln : l.length = need s.length := by have := a3 h1; simpa using this
    refine Ev.eq (fun K _ => f75_A0_x0 K _ _ _ _ _ H2) ?_
    refine Ev.prim (hF2.len (Und.eq (P := Tryz.prog) (t := 82))) ?_
    refine Ev.bind (Ev.loop (bw_lay (m := D.n / 2) (s := s) (l := l) (by omega) (by omega) a2 hln hF2 l.length 0 B2 H2 G1 D Ls2 (by omega) a1 hO rfl (by omega) hP2 hS2)) ?_
    rw [hln]
    generalize layN s l (need s.length) 0 G1 D = w
    obtain ⟨e2, G2, D2⟩ := w
    try dsimp only
    rintro _ (⟨h2, B3, H3, Ls3, rfl, hm3, hP3, hS3⟩ | ⟨h2, B3, H3, Ls3, rfl, hm3, hP3, hS3⟩)
    case inr =>
      refine Ev.eq (fun K _ => f75_A1_ret K _ _ _ H3) ?_
      exact Ev.ret (.inr (.inl ⟨h1, h2, rfl, Ls3, B3, ⟨hm2.mo.trans hm3.mo⟩, hP3, hS3.drop (List.sublist_append_right _ _)⟩))
    refine Ev.eq (fun K _ => f75_A1_x2 K _ _ _ H3) ?_
    exact Ev.ret (.inr (.inr ⟨h1, h2, v2, Lv2, Ls3, B3, rfl, ⟨hm2.mo.trans hm3.mo⟩, hF2, hP3, hS3⟩))
  clear hS1
  obtain ⟨a1, a2, a3⟩ := allocN_in (m := D.n / 2) (need s.length) G [] hG (fun x hx => by cases hx)
  obtain ⟨b1, b2, b3, b4⟩ := layN_in s (allocN (D.n / 2) (need s.length) G []).1 (need s.length) 0 (allocN (D.n / 2) (need s.length) G []).2.2 D a1 hO
  have hal := a1.len
  have hbl := b1.len
  generalize layN s (allocN (D.n / 2) (need s.length) G []).1 (need s.length) 0 (allocN (D.n / 2) (need s.length) G []).2.2 D = w at b1 b2 b3 b4 hbl
  generalize allocN (D.n / 2) (need s.length) G [] = a at a1 a2 a3 hal
  obtain ⟨e2, G2, D2⟩ := w
  obtain ⟨l, e, G1⟩ := a
  dsimp only at a1 a2 a3 hal b1 b2 b3 b4 hbl ⊢
  rintro _ H2 (⟨h1, rfl, Ls2, B2, hm2, hP2, hS2⟩ | ⟨h1, h2, rfl, Ls2, B2, hm2, hP2, hS2⟩ | ⟨h1, h2, v, Lv, Ls2, B2, rfl, hm2, hF2, hP2, hS2⟩)
  · try dsimp only at hS2
    rw [if_pos h1]
    repeat (first|refine zA ?_|refine zB fun _ _ _=>?_|refine zC fun _ _ _=>?_|refine zD fun _ _=>?_|refine zE ?_|refine zF ?_)
    rw [decide_eq_true h1]
    repeat (first|refine zA ?_|refine zB fun _ _ _=>?_|refine zC fun _ _ _=>?_|refine zD fun _ _=>?_|refine zE ?_|refine zF ?_)
    refine Ev.b2 (Back_spec (many := (G.fresh.length : Int)) hP2 (by omega) hS2) ?_
    rintro _ H3 ⟨rfl, Ls3, B3, hm3, hP3, hS3⟩
    dsimp only at hS3
    exact Ev.ret ⟨rfl, Ls3, B3, ⟨hm1.mo.trans (hm2.mo.trans hm3.mo)⟩, hP3, hS3⟩
  · try dsimp only at hS2
    rw [if_neg (by simpa using h1), if_pos h2]
    repeat (first|refine zA ?_|refine zB fun _ _ _=>?_|refine zC fun _ _ _=>?_|refine zD fun _ _=>?_|refine zE ?_|refine zF ?_)
    rw [decide_eq_true h2]
    repeat (first|refine zA ?_|refine zB fun _ _ _=>?_|refine zC fun _ _ _=>?_|refine zD fun _ _=>?_|refine zE ?_|refine zF ?_)
    refine Ev.b2 (Back_spec (many := (G.fresh.length : Int)) hP2 (by omega) hS2) ?_
    rintro _ H3 ⟨rfl, Ls3, B3, hm3, hP3, hS3⟩
    dsimp only at hS3
    exact Ev.ret ⟨rfl, Ls3, B3, ⟨hm1.mo.trans (hm2.mo.trans hm3.mo)⟩, hP3, hS3⟩
  · try dsimp only at hS2
    rw [if_neg (by simpa using h1), if_neg (by simpa using h2)]
    have hln : l.length = need s.length := by have := a3 h1; simpa using this
    repeat (first | (first|refine zA ?_|refine zB fun _ _ _=>?_|refine zC fun _ _ _=>?_|refine zD fun _ _=>?_|refine zE ?_|refine zF ?_) | rw [decide_eq_true (by omega)] | rw [decide_eq_false (by omega)])
    have hN := hF2.now hS2 fun x hx => List.mem_append_left _ hx
    refine Ev.ixN (t := 82) (x := .int .i64 (l.getD 0 0)) hN 0 rfl (by omega) (by unfold intV; rw [List.getElem?_map, List.getD, List.getElem?_eq_getElem (show 0 < l.length by omega)]; rfl) fun pp hp => ?_
    refine Ev.prim (hp.eq H2 (Mo.refl H2)) ?_
    exact Ev.ret ⟨rfl, Ls2, B2, ⟨hm1.mo.trans hm2.mo⟩, hP2, hS2.drop (List.sublist_append_right _ _)⟩
end
end Go.AM.E
namespace Go.AM.E
open Go Go.AM Go.Proofs
attribute [local irreducible] run bin un ld st box newV mkS fldA fld ixA ix slc slc3 build buildS cv cvS ap cpy lenV gOp pickV b2 aIf aChk evalK resume iterD Option.bind

section
variable {B B0 H0 H : AH} {L : List (Nat × Blk)}
theorem parts_all {p x2 b m : Nat} {dv : Value} {D : Dsk} {J : List Int → List UInt8 → List (Nat × Blk) → Prop} {JE : Int → List (Nat × Blk) → Prop} (hO : D.OK) (hm : D.n / 2 = m) (hm1 : m ≠ 0) (hc : D.cache.length < 1000000000000)
    (yl : ∀ (l : List Int) (s : List UInt8) (a : Int) (t : List UInt8), l.length ≤ 512 → s.length ≤ 128 * l.length → t.length ≤ 128 → ∀ (B H : AH) (Lj Lx : List (Nat × Blk)), J l s Lj → St H0 B0 B (Lj ++ Lx) H → Ev (fun K _ => rn K (yOff + b) [.agg #[.int .i64 a, str t, .int .i64 0]] H) (fun r => r.1 = .bool true ∧ ∃ B' Lj', MoC B B' ∧ J (l ++ [a]) (s ++ t) Lj' ∧ St H0 B0 B' (Lj' ++ Lx) r.2))
    (ye : ∀ (l : List Int) (s : List UInt8) (e : Int), e ≠ 0 → ∀ (B H : AH) (Lj Lx : List (Nat × Blk)), J l s Lj → St H0 B0 B (Lj ++ Lx) H → Ev (fun K _ => rn K (yOff + b) [.agg #[.int .i64 0, .string ByteArray.empty, .int .i64 e]] H) (fun r => r.1 = .bool false ∧ ∃ B' Lj', MoC B B' ∧ JE e Lj' ∧ St H0 B0 B' (Lj' ++ Lx) r.2)) :
    ∀ (k : Nat) (B H : AH) (G : Pgr) (Ls Lm Lj : List (Nat × Blk)) (l : List Int) (mv : Value) (s : List UInt8) (a : Int), l.length + k = 513 → l.length ≤ 512 → s.length ≤ 128 * l.length → PK (ptr p 0) dv G D Ls → FR mv l Lm → J l s Lj → St H0 B0 B (Ls ++ ((x2, ⟨[ptr p 0], 32, .fix⟩) :: (Lm ++ (Lj ++ L)))) H →
    Ev (fun K K2 => f92_L0 K (.func (.yield b) #[] #[]) (ptr x2 0) mv (.int .i64 a) K2 H) (fun o => ∃ B' Ls' Lj' H', o = (.ret, f92_X_L0, H') ∧ MoC B B' ∧ PK (ptr p 0) dv (walkR D m k G l s a).2 D Ls' ∧
      (((walkR D m k G l s a).1.2.2 = 0 ∧ J (walkR D m k G l s a).1.1 (walkR D m k G l s a).1.2.1 Lj') ∨ ((walkR D m k G l s a).1.2.2 ≠ 0 ∧ JE (walkR D m k G l s a).1.2.2 Lj')) ∧ St H0 B0 B' (Ls' ++ (Lj' ++ L)) H') := by
  intro k
  induction k with
  | zero => intro B H G Ls Lm Lj l mv s a hk hl; omega
  | succ k ih =>
    intro B H G Ls Lm Lj l mv s a hk hl hsl hP hF hJ hS
    have hm5 := hO.n2
    have hlv := hF.len (Und.eq (P := Tryz.prog) (t := 82))
    refine Ev.succ (fun K K2 => f92_L0_succ K _ _ _ _ K2 H) ?_
    have ix2 : InL x2 ⟨[ptr p 0], 32, .fix⟩ (Ls ++ ((x2, ⟨[ptr p 0], 32, .fix⟩) :: (Lm ++ (Lj ++ L)))) := ⟨List.mem_append_right _ (.head _)⟩
    repeat (first|refine zA ?_|refine zB fun _ _ _=>?_|refine zC fun _ _ _=>?_|refine zD fun _ _=>?_|refine zE ?_|refine zF ?_)
    refine Ev.b2 (Read_specP (n := a) hP hO hc hS) ?_
    have htl := gread_len hO G a
    unfold walkR
    generalize G.read D a = r at htl
    obtain ⟨⟨kd, t, e⟩, G1⟩ := r
    dsimp only at htl ⊢
    rintro _ H1 ⟨rfl, Ls1, B1, hm1', hP1, hS1⟩
    dsimp only at hS1
    clear hS ix2
    unfold OpenV
    dsimp only
    -- how it ends with an error
    have bad : ∀ (e : Int) (H1 : AH) (Lm1 : List (Nat × Blk)), e ≠ 0 → St H0 B0 B1 (Ls1 ++ ((x2, ⟨[ptr p 0], 32, .fix⟩) :: (Lm1 ++ (Lj ++ L)))) H1 → Ev (fun K _ => rn K (yOff + b) [.agg #[.int .i64 0, .string ByteArray.empty, .int .i64 e]] H1) (fun r => ∃ B' Lj', MoC B B' ∧ JE e Lj' ∧ St H0 B0 B' (Ls1 ++ (Lj' ++ L)) r.2) := by
      intro e H1 Lm1 he hS1
      refine (ye l s e he B1 H1 Lj (Ls1 ++ ((x2, ⟨[ptr p 0], 32, .fix⟩) :: (Lm1 ++ L))) hJ (hS1.perm (by (refine perm_cnt ?_; intro _ a; simp only [List.count_append, List.count_cons, List.cons_append, List.nil_append, List.append_assoc]; try ac_rfl)))).mono ?_
      rintro r ⟨_, B', Lj', hm', hJ', hS'⟩
      refine ⟨B', Lj', ⟨hm1'.mo.trans hm'.mo⟩, hJ', ?_⟩
      refine (hS'.drop (L' := Lj' ++ (Ls1 ++ L)) (List.Sublist.append_left (List.Sublist.append_left (.cons _ (List.sublist_append_right _ _)) _) _)).perm (by (refine perm_cnt ?_; intro _ a; simp only [List.count_append, List.count_cons, List.cons_append, List.nil_append, List.append_assoc]; try ac_rfl))
    repeat (first|refine zA ?_|refine zB fun _ _ _=>?_|refine zC fun _ _ _=>?_|refine zD fun _ _=>?_|refine zE ?_|refine zF ?_)
    by_cases he : e = 0
    case neg =>
      rw [if_pos he, decide_eq_true he]
      repeat (first|refine zA ?_|refine zB fun _ _ _=>?_|refine zC fun _ _ _=>?_|refine zD fun _ _=>?_|refine zE ?_|refine zF ?_)
      refine Ev.b2 (bad e H1 Lm he hS1) ?_
      rintro v H2 ⟨B', Lj', hm', hJ', hS'⟩
      exact Ev.ret ⟨B', Ls1, Lj', H2, rfl, hm', hP1, .inr ⟨he, hJ'⟩, hS'⟩
    rw [if_neg (by simpa using he), decide_eq_false (by simpa using he)]
    repeat (first|refine zA ?_|refine zB fun _ _ _=>?_|refine zC fun _ _ _=>?_|refine zD fun _ _=>?_|refine zE ?_|refine zF ?_)
    by_cases h1 : kd = 2
    case neg =>
      rw [if_pos (.inl h1), decide_eq_true h1]
      repeat (first|refine zA ?_|refine zB fun _ _ _=>?_|refine zC fun _ _ _=>?_|refine zD fun _ _=>?_|refine zE ?_|refine zF ?_)
      refine Ev.b2 (bad 2 H1 Lm (by decide) hS1) ?_
      rintro v H2 ⟨B', Lj', hm', hJ', hS'⟩
      exact Ev.ret ⟨B', Ls1, Lj', H2, rfl, hm', hP1, .inr ⟨show (2 : Int) ≠ 0 by decide, hJ'⟩, hS'⟩
    rw [decide_eq_false (by simpa using h1)]
    repeat (first|refine zA ?_|refine zB fun _ _ _=>?_|refine zC fun _ _ _=>?_|refine zD fun _ _=>?_|refine zE ?_|refine zF ?_)
    by_cases h2 : t.length < 2
    · rw [if_pos (.inr (.inl h2)), decide_eq_true h2]
      repeat (first|refine zA ?_|refine zB fun _ _ _=>?_|refine zC fun _ _ _=>?_|refine zD fun _ _=>?_|refine zE ?_|refine zF ?_)
      refine Ev.b2 (bad 2 H1 Lm (by decide) hS1) ?_
      rintro v H2 ⟨B', Lj', hm', hJ', hS'⟩
      exact Ev.ret ⟨B', Ls1, Lj', H2, rfl, hm', hP1, .inr ⟨show (2 : Int) ≠ 0 by decide, hJ'⟩, hS'⟩
    rw [decide_eq_false h2]
    repeat (first|refine zA ?_|refine zB fun _ _ _=>?_|refine zC fun _ _ _=>?_|refine zD fun _ _=>?_|refine zE ?_|refine zF ?_)
    rw [hlv, Option.bind_some]
    repeat (first|refine zA ?_|refine zB fun _ _ _=>?_|refine zC fun _ _ _=>?_|refine zD fun _ _=>?_|refine zE ?_|refine zF ?_)
    by_cases h3 : 512 ≤ l.length
    · rw [if_pos (.inr (.inr h3)), decide_eq_true h3]
      repeat (first|refine zA ?_|refine zB fun _ _ _=>?_|refine zC fun _ _ _=>?_|refine zD fun _ _=>?_|refine zE ?_|refine zF ?_)
      refine Ev.b2 (bad 2 H1 Lm (by decide) hS1) ?_
      rintro v H2 ⟨B', Lj', hm', hJ', hS'⟩
      exact Ev.ret ⟨B', Ls1, Lj', H2, rfl, hm', hP1, .inr ⟨show (2 : Int) ≠ 0 by decide, hJ'⟩, hS'⟩
    rw [if_neg (fun h => by rcases h with h | h | h; exact h h1; exact h2 h; exact h3 h), decide_eq_false h3]
    repeat (first|refine zA ?_|refine zB fun _ _ _=>?_|refine zC fun _ _ _=>?_|refine zD fun _ _=>?_|refine zE ?_|refine zF ?_)
    refine FRS.push (x := a) eltI hF (hS1.perm (L' := Lm ++ ((x2, ⟨[ptr p 0], 32, .fix⟩) :: (Ls1 ++ (Lj ++ L)))) (by (refine perm_cnt ?_; intro _ a; simp only [List.count_append, List.count_cons, List.cons_append, List.nil_append, List.append_assoc]; try ac_rfl))) (by omega) fun mv' Lm' H2 hF2 hS2' => ?_
    have hS2 : St H0 B0 B1 (Ls1 ++ ((x2, ⟨[ptr p 0], 32, .fix⟩) :: (Lm' ++ (Lj ++ L)))) H2 := hS2'.perm (by (refine perm_cnt ?_; intro _ a; simp only [List.count_append, List.count_cons, List.cons_append, List.nil_append, List.append_assoc]; try ac_rfl))
    clear hS1 hS2'
    have hdl : (t.drop 2).length ≤ 128 := by rw [List.length_drop]; omega
    have hb0 := UInt8.toNat_lt (t.getD 0 0)
    have hb1 := UInt8.toNat_lt (t.getD 1 0)
    refine Ev.prim (ix_str (l := t) 0 rfl (by omega)) ?_
    repeat (first|refine zA ?_|refine zB fun _ _ _=>?_|refine zC fun _ _ _=>?_|refine zD fun _ _=>?_|refine zE ?_|refine zF ?_)
    refine Ev.prim (shl8 (by omega)) ?_
    refine Ev.prim (ix_str (l := t) 1 rfl (by omega)) ?_
    repeat (first|refine zA ?_|refine zB fun _ _ _=>?_|refine zC fun _ _ _=>?_|refine zD fun _ _=>?_|refine zE ?_|refine zF ?_)
    refine Ev.prim (or8 (by omega) hb1) ?_
    rw [show (t.getD 0 0).toNat * 256 + (t.getD 1 0).toNat = nextT t from rfl]
    have hnx : nextT t < 65536 := by unfold nextT; omega
    have hsl2 : (s ++ t.drop 2).length ≤ 128 * (l ++ [a]).length := by rw [List.length_append, List.length_append, List.length_singleton]; omega
    have hll2 : (l ++ [a]).length = l.length + 1 := by rw [List.length_append, List.length_singleton]
    generalize nextT t = nx at hnx
    have ix2 : InL x2 ⟨[ptr p 0], 32, .fix⟩ (Ls1 ++ ((x2, ⟨[ptr p 0], 32, .fix⟩) :: (Lm' ++ (Lj ++ L)))) := ⟨List.mem_append_right _ (.head _)⟩
    have round : Ev (fun K _ => rn K (yOff + b) [.agg #[.int .i64 a, str (t.drop 2), .int .i64 0]] H2) (fun r => r.1 = .bool true ∧ ∃ B' Lj', MoC B1 B' ∧ J (l ++ [a]) (s ++ t.drop 2) Lj' ∧ St H0 B0 B' (Ls1 ++ ((x2, ⟨[ptr p 0], 32, .fix⟩) :: (Lm' ++ (Lj' ++ L)))) r.2) := by
      refine (yl l s a (t.drop 2) hl hsl hdl B1 H2 Lj (Ls1 ++ ((x2, ⟨[ptr p 0], 32, .fix⟩) :: (Lm' ++ L))) hJ (hS2.perm (by (refine perm_cnt ?_; intro _ a; simp only [List.count_append, List.count_cons, List.cons_append, List.nil_append, List.append_assoc]; try ac_rfl)))).mono ?_
      rintro r ⟨h1, B', Lj', hm', hJ', hS'⟩
      exact ⟨h1, B', Lj', hm', hJ', hS'.perm (by (refine perm_cnt ?_; intro _ a; simp only [List.count_append, List.count_cons, List.cons_append, List.nil_append, List.append_assoc]; try ac_rfl))⟩
    repeat (first|refine zA ?_|refine zB fun _ _ _=>?_|refine zC fun _ _ _=>?_|refine zD fun _ _=>?_|refine zE ?_|refine zF ?_)
    by_cases hn1 : nx = 1
    · rw [if_neg (by omega), if_pos (.inl hn1), decide_eq_true hn1]
      repeat (first|refine zA ?_|refine zB fun _ _ _=>?_|refine zC fun _ _ _=>?_|refine zD fun _ _=>?_|refine zE ?_|refine zF ?_)
      refine Ev.b2 (bad 2 H2 Lm' (by decide) hS2) ?_
      rintro v H3 ⟨B', Lj', hm', hJ', hS'⟩
      exact Ev.ret ⟨B', Ls1, Lj', H3, rfl, hm', hP1, .inr ⟨show (2 : Int) ≠ 0 by decide, hJ'⟩, hS'⟩
    rw [decide_eq_false hn1]
    repeat (first|refine zA ?_|refine zB fun _ _ _=>?_|refine zC fun _ _ _=>?_|refine zD fun _ _=>?_|refine zE ?_|refine zF ?_)
    refine Ev.b2 (Pages_spec hP1 hO hS2 fun x hx => List.mem_append_left _ hx) ?_
    rintro _ _ h
    cases h
    rw [hm]
    repeat (first|refine zA ?_|refine zB fun _ _ _=>?_|refine zC fun _ _ _=>?_|refine zD fun _ _=>?_|refine zE ?_|refine zF ?_)
    by_cases hn2 : m ≤ nx
    · rw [if_neg (by omega), if_pos (.inr (.inl hn2)), decide_eq_true hn2]
      repeat (first|refine zA ?_|refine zB fun _ _ _=>?_|refine zC fun _ _ _=>?_|refine zD fun _ _=>?_|refine zE ?_|refine zF ?_)
      refine Ev.b2 (bad 2 H2 Lm' (by decide) hS2) ?_
      rintro v H3 ⟨B', Lj', hm', hJ', hS'⟩
      exact Ev.ret ⟨B', Ls1, Lj', H3, rfl, hm', hP1, .inr ⟨show (2 : Int) ≠ 0 by decide, hJ'⟩, hS'⟩
    rw [decide_eq_false hn2]
    repeat (first|refine zA ?_|refine zB fun _ _ _=>?_|refine zC fun _ _ _=>?_|refine zD fun _ _=>?_|refine zE ?_|refine zF ?_)
    by_cases hz : nx = 0
    · rw [if_pos hz, decide_eq_false (show ¬ nx ≠ 0 by omega)]
      repeat (first|refine zA ?_|refine zB fun _ _ _=>?_|refine zC fun _ _ _=>?_|refine zD fun _ _=>?_|refine zE ?_|refine zF ?_)
      refine Ev.prim (slc_str (l := t) 2 rfl (by omega)) ?_
      repeat (first|refine zA ?_|refine zB fun _ _ _=>?_|refine zC fun _ _ _=>?_|refine zD fun _ _=>?_|refine zE ?_|refine zF ?_)
      refine Ev.b2 round ?_
      rintro _ H5 ⟨rfl, B5, Lj5, hm5', hJ5, hS5⟩
      dsimp only at hS5
      repeat (first|refine zA ?_|refine zB fun _ _ _=>?_|refine zC fun _ _ _=>?_|refine zD fun _ _=>?_|refine zE ?_|refine zF ?_)
      rw [decide_eq_true hz]
      repeat (first|refine zA ?_|refine zB fun _ _ _=>?_|refine zC fun _ _ _=>?_|refine zD fun _ _=>?_|refine zE ?_|refine zF ?_)
      refine Ev.ret ⟨B5, Ls1, Lj5, H5, rfl, ⟨hm1'.mo.trans hm5'.mo⟩, hP1, .inl ⟨rfl, hJ5⟩, ?_⟩
      exact hS5.drop (List.Sublist.append_left (.cons _ (List.sublist_append_right _ _)) _)
    rw [if_neg hz, decide_eq_true (show nx ≠ 0 from hz)]
    repeat (first|refine zA ?_|refine zB fun _ _ _=>?_|refine zC fun _ _ _=>?_|refine zD fun _ _=>?_|refine zE ?_|refine zF ?_)
    refine Ev.b2 (Contains_spec (nx : Int) hF2 (by omega) hS2 fun x hx => List.mem_append_right _ (.tail _ (List.mem_append_left _ hx))) ?_
    rintro _ _ h
    cases h
    by_cases hn3 : (nx : Int) ∈ l ++ [a]
    · rw [if_pos (.inr (.inr hn3)), decide_eq_true hn3]
      repeat (first|refine zA ?_|refine zB fun _ _ _=>?_|refine zC fun _ _ _=>?_|refine zD fun _ _=>?_|refine zE ?_|refine zF ?_)
      refine Ev.b2 (bad 2 H2 Lm' (by decide) hS2) ?_
      rintro v H3 ⟨B', Lj', hm', hJ', hS'⟩
      exact Ev.ret ⟨B', Ls1, Lj', H3, rfl, hm', hP1, .inr ⟨show (2 : Int) ≠ 0 by decide, hJ'⟩, hS'⟩
    rw [if_neg (fun h => by rcases h with h | h | h; exact hn1 h; exact hn2 h; exact hn3 h), decide_eq_false hn3]
    repeat (first|refine zA ?_|refine zB fun _ _ _=>?_|refine zC fun _ _ _=>?_|refine zD fun _ _=>?_|refine zE ?_|refine zF ?_)
    refine Ev.prim (slc_str (l := t) 2 rfl (by omega)) ?_
    repeat (first|refine zA ?_|refine zB fun _ _ _=>?_|refine zC fun _ _ _=>?_|refine zD fun _ _=>?_|refine zE ?_|refine zF ?_)
    refine Ev.b2 round ?_
    rintro _ H5 ⟨rfl, B5, Lj5, hm5', hJ5, hS5⟩
    dsimp only at hS5
    repeat (first|refine zA ?_|refine zB fun _ _ _=>?_|refine zC fun _ _ _=>?_|refine zD fun _ _=>?_|refine zE ?_|refine zF ?_)
    rw [decide_eq_false hz]
    repeat (first|refine zA ?_|refine zB fun _ _ _=>?_|refine zC fun _ _ _=>?_|refine zD fun _ _=>?_|refine zE ?_|refine zF ?_)
    refine (ih B5 H5 G1 Ls1 Lm' Lj5 (l ++ [a]) mv' (s ++ t.drop 2) (nx : Int) (by omega) (by omega) hsl2 hP1 hF2 hJ5 hS5).mono ?_
    rintro o ⟨B', Ls', Lj', H', e', hm', h4⟩
    exact ⟨B', Ls', Lj', H', e', ⟨hm1'.mo.trans (hm5'.mo.trans hm'.mo)⟩, h4⟩
def BR2 (v : Value) (x : List UInt8) (Lb : List (Nat × Blk)) : Prop := (x = [] ∧ v = .slice none 0 0 ∧ Lb = []) ∨ (x ≠ [] ∧ ∃ b2, v = sl b2 0 x.length (x.length + 1) ∧ Lb = [(b2, ⟨(x.map UInt8.toNat).map u8, 5, .buf⟩)])
theorem BR2.cell {v : Value} {x : List UInt8} {Lb : List (Nat × Blk)} (h : BR2 v x Lb) : IsCell v := by
  rcases h with ⟨_, rfl, _⟩ | ⟨_, b2, rfl, _⟩ <;> exact inferInstance
theorem BR2.acc {v : Value} {x : List UInt8} {Lb : List (Nat × Blk)} (h : BR2 v x Lb) (hS : St H0 B0 B (Lb ++ L) H) : BAcc 5 H0 B0 B L H v (x.map UInt8.toNat) := by
  rcases h with ⟨rfl, rfl, rfl⟩ | ⟨_, b2, rfl, rfl⟩
  · exact .inl ⟨rfl, rfl, hS⟩
  · exact .inr ⟨b2, by rw [List.length_map], hS⟩
theorem bacc_br {v : Value} {x : List UInt8} (hx : x ≠ []) (h : BAcc 5 H0 B0 B L H v (x.map UInt8.toNat)) : ∃ Lb, BR2 v x Lb ∧ St H0 B0 B (Lb ++ L) H := by
  rcases h with ⟨h, _⟩ | ⟨b2, rfl, hS⟩
  · exact (hx (List.map_eq_nil_iff.1 h)).elim
  · exact ⟨_, .inr ⟨hx, b2, by rw [List.length_map], rfl⟩, hS⟩
theorem WriteNil2_spec {p : Nat} {c0 : Value} (hc : c0 = .pointer none ∨ c0 = ptr p 0) (hS : St H0 B0 B ((p, ⟨[c0, .slice none 0 0], 129, .fix⟩) :: L) H) :
    Ev (fun k _ => rn k 69 [ptr p 0, str []] H) (fun r => r.1 = .tuple #[i64 0, .nilIface] ∧ St H0 B0 B ((p, ⟨[ptr p 0, .slice none 0 0], 129, .fix⟩) :: L) r.2) := by
  refine Ev.fn (fun k => f69_eq k _ _ H) ?_
  refine Ev.b2 (copy_spec (rest := []) (ds := []) bldT_mem bld_sz hc (BAcc.nil hS)) fun v1 H1 h1 => ?_
  obtain ⟨h1, hA1⟩ := h1
  simp only at h1 hA1
  have hSt := hA1.st
  clear hS
  repeat (first|refine zA ?_|refine zB fun _ _ _=>?_|refine zC fun _ _ _=>?_|refine zD fun _ _=>?_|refine zE ?_|refine zF ?_)
  refine Ev.prim2 (v := .slice none 0 0) (H := H1) (by kernel_rfl) ?_
  repeat (first|refine zA ?_|refine zB fun _ _ _=>?_|refine zC fun _ _ _=>?_|refine zD fun _ _=>?_|refine zE ?_|refine zF ?_)
  refine Ev.ret ⟨rfl, ?_⟩
  assumption
abbrev rdT2 (b4 b5 b6 : Nat) : List Value := f30_T_R0 (ptr b4 0) (ptr b5 0) (ptr b6 0)
def JR2 (b b4 b5 b6 : Nat) (l : List Int) (s : List UInt8) (Lj : List (Nat × Blk)) : Prop := ∃ c0 v Lb, (c0 = .pointer none ∨ c0 = ptr b6 0) ∧ BR2 v s Lb ∧
  Lj = (b, ⟨.int .i64 (0 : Nat) :: rdT2 b4 b5 b6, 4, .loop 30 4⟩) :: (b6, ⟨[c0, v], 129, .fix⟩) :: (b5, ⟨[.int .i64 0], 36, .fix⟩) :: (b4, ⟨[.string ByteArray.empty], 9, .fix⟩) :: Lb
def JE2 (b b4 b5 b6 : Nat) (e : Int) (Lj : List (Nat × Blk)) : Prop := ∃ c0 v Lb,
  Lj = (b, ⟨.int .i64 (2 : Nat) :: rdT2 b4 b5 b6, 4, .loop 30 4⟩) :: (b6, ⟨[c0, v], 129, .fix⟩) :: (b5, ⟨[.int .i64 e], 36, .fix⟩) :: (b4, ⟨[.string ⟨#[]⟩], 9, .fix⟩) :: Lb
theorem read_round2 {b b4 b5 b6 : Nat} {l : List Int} {s t : List UInt8} {a : Int} (hs : s.length ≤ 128 * l.length) (hl : l.length ≤ 512) (ht : t.length ≤ 128) {B H : AH} {Lj Lx : List (Nat × Blk)} (hJ : JR2 b b4 b5 b6 l s Lj) (hS : St H0 B0 B (Lj ++ Lx) H) :
    Ev (fun K _ => rn K (yOff + b) [.agg #[.int .i64 a, str t, .int .i64 0]] H) (fun r => r.1 = .bool true ∧ ∃ B' Lj', MoC B B' ∧ JR2 b b4 b5 b6 (l ++ [a]) (s ++ t) Lj' ∧ St H0 B0 B' (Lj' ++ Lx) r.2) := by
  obtain ⟨c0, v, Lb, hc0, hR, rfl⟩ := hJ
  have hcell := hR.cell
  have hc0c : IsCell c0 := by rcases hc0 with rfl | rfl <;> exact inferInstance
  simp only [List.cons_append] at hS
  refine Ev.fn (fun K => f30_Y0_eq K _ _ _ _ b H (hS.get (.head _))) ?_
  repeat (first|refine zA ?_|refine zB fun _ _ _=>?_|refine zC fun _ _ _=>?_|refine zD fun _ _=>?_|refine zE ?_|refine zF ?_)
  rename_i bp H1 hS1 H2 hS2
  clear hS hS1
  refine Ev.setSt (c := 0) (d := 1) hS2 (.tail _ (.head _)) (.tail _ (.head _)) fun H3 hS3 => ?_
  clear hS2
  repeat (first|refine zA ?_|refine zB fun _ _ _=>?_|refine zC fun _ _ _=>?_|refine zD fun _ _=>?_|refine zE ?_|refine zF ?_)
  by_cases he : s ++ t = []
  · obtain ⟨hx, hp⟩ := List.append_eq_nil_iff.1 he
    subst hx hp
    rcases hR with ⟨_, rfl, rfl⟩ | ⟨h, _⟩
    case inr => exact (h rfl).elim
    have hS4 : St H0 B0 B ((b6, ⟨[c0, .slice none 0 0], 129, .fix⟩) :: (b, _) :: (bp, _) :: (b5, _) :: (b4, _) :: Lx) H3 := hS3.perm (by (refine perm_cnt ?_; intro _ a; simp only [List.count_append, List.count_cons, List.cons_append, List.nil_append, List.append_assoc]; try ac_rfl))
    refine Ev.b2 (WriteNil2_spec hc0 hS4) ?_
    rintro _ H5 ⟨rfl, hS5⟩
    dsimp only at hS5
    refine Ev.setSt (c := 1) (d := 0) hS5 (.tail _ (.head _)) (.tail _ (.head _)) fun H8 hS8 => ?_
    refine Ev.ret ⟨rfl, B, _, ⟨Mo.refl B⟩, ⟨ptr b6 0, .slice none 0 0, [], .inr rfl, .inl ⟨rfl, rfl, rfl⟩, rfl⟩, ?_⟩
    exact (hS8.drop (L' := (b6, _) :: (b, _) :: (b5, _) :: (b4, _) :: Lx) (.cons_cons _ (.cons_cons _ (.cons _ (List.Sublist.refl _))))).perm (by (refine perm_cnt ?_; intro _ a; simp only [List.count_append, List.count_cons, List.cons_append, List.nil_append, List.append_assoc]; try ac_rfl))
  · have hS4 : St H0 B0 B (Lb ++ ((b6, ⟨[c0, v], 129, .fix⟩) :: (b, _) :: (bp, _) :: (b5, _) :: (b4, _) :: Lx)) H3 := hS3.perm (by (refine perm_cnt ?_; intro _ a; simp only [List.count_append, List.count_cons, List.cons_append, List.nil_append, List.append_assoc]; try ac_rfl))
    have hA := hR.acc hS4
    refine Ev.b2 (WriteString_spec (l := t) (rest := []) bldT_mem bld_sz hc0 (by rw [List.length_map]; omega) hA) ?_
    rintro v5 H5 ⟨_, v', B5, hm5, hA5⟩
    dsimp only at hA5
    rw [← List.map_append] at hA5
    obtain ⟨Lb', hR', hS5⟩ := bacc_br he hA5
    have hS6 : St H0 B0 B5 ((b, _) :: (b6, ⟨[ptr b6 0, v'], 129, .fix⟩) :: (bp, _) :: (b5, _) :: (b4, _) :: (Lb' ++ Lx)) H5 := hS5.perm (by (refine perm_cnt ?_; intro _ a; simp only [List.count_append, List.count_cons, List.cons_append, List.nil_append, List.append_assoc]; try ac_rfl))
    refine Ev.setSt (c := 1) (d := 0) hS6 (.head _) (.head _) fun H8 hS8 => ?_
    refine Ev.ret ⟨rfl, B5, _, hm5, ⟨ptr b6 0, v', Lb', .inr rfl, hR', rfl⟩, ?_⟩
    exact hS8.drop (.cons_cons _ (.cons_cons _ (.cons _ (List.Sublist.refl _))))
theorem read_err2 {b b4 b5 b6 : Nat} {l : List Int} {s : List UInt8} {e : Int} (he : e ≠ 0) {B H : AH} {Lj Lx : List (Nat × Blk)} (hJ : JR2 b b4 b5 b6 l s Lj) (hS : St H0 B0 B (Lj ++ Lx) H) :
    Ev (fun K _ => rn K (yOff + b) [.agg #[.int .i64 0, .string ByteArray.empty, .int .i64 e]] H) (fun r => r.1 = .bool false ∧ ∃ B' Lj', MoC B B' ∧ JE2 b b4 b5 b6 e Lj' ∧ St H0 B0 B' (Lj' ++ Lx) r.2) := by
  obtain ⟨c0, v, Lb, hc0, hR, rfl⟩ := hJ
  have hcell := hR.cell
  have hc0c : IsCell c0 := by rcases hc0 with rfl | rfl <;> exact inferInstance
  simp only [List.cons_append] at hS
  refine Ev.fn (fun K => f30_Y0_eq K _ _ _ _ b H (hS.get (.head _))) ?_
  repeat (first|refine zA ?_|refine zB fun _ _ _=>?_|refine zC fun _ _ _=>?_|refine zD fun _ _=>?_|refine zE ?_|refine zF ?_)
  rename_i bp H1 hS1 H2 hS2
  clear hS hS1
  refine Ev.setSt (c := 0) (d := 1) hS2 (.tail _ (.head _)) (.tail _ (.head _)) fun H3 hS3 => ?_
  clear hS2
  repeat (first|refine zA ?_|refine zB fun _ _ _=>?_|refine zC fun _ _ _=>?_|refine zD fun _ _=>?_|refine zE ?_|refine zF ?_)
  rw [decide_eq_true he]
  repeat (first|refine zA ?_|refine zB fun _ _ _=>?_|refine zC fun _ _ _=>?_|refine zD fun _ _=>?_|refine zE ?_|refine zF ?_)
  rename_i H4 hS4 H5 hS5
  refine Ev.setSt (c := 1) (d := 2) hS5 (.tail _ (.head _)) (.tail _ (.head _)) fun H8 hS8 => ?_
  refine Ev.ret ⟨rfl, B, _, ⟨Mo.refl B⟩, ⟨c0, v, Lb, rfl⟩, hS8.drop1⟩
theorem bRead_any {p : Nat} {dv : Value} {G : Pgr} {D : Dsk} {Ls : List (Nat × Blk)} {a : Int} (hO : D.OK) (hm1 : D.n / 2 ≠ 0) (hc : D.cache.length < 1000000000000) (hP : PK (ptr p 0) dv G D Ls) (hS : St H0 B0 B (Ls ++ L) H) :
    Ev (fun K _ => rn K 30 [ptr p 0, .int .i64 a] H) (PgP H0 B0 B L (ptr p 0) dv (.tuple #[str (G.walk D a).1.2.1, .int .i64 (G.walk D a).1.2.2]) (G.walk D a).2 D) := by
  refine Ev.fn (fun K => f30_eq K _ _ H) ?_
  repeat (first|refine zA ?_|refine zB fun _ _ _=>?_|refine zC fun _ _ _=>?_|refine zD fun _ _=>?_|refine zE ?_|refine zF ?_)
  rename_i b4 H1 hS1 b5 H2 hS2 b6 H3 hS3
  clear hS hS1 hS2
  refine Ev.b2 (Q1 := fun r => ∃ x1 x2, r.1 = .func (.func 92) #[] #[ptr x1 0, ptr x2 0] ∧ St H0 B0 B ((x1, ⟨[.int .i64 a], 3, .fix⟩) :: (x2, ⟨[ptr p 0], 32, .fix⟩) :: (b6, ⟨[.pointer none, .slice none 0 0], 129, .fix⟩) :: (b5, ⟨[.int .i64 0], 36, .fix⟩) :: (b4, ⟨[.string ByteArray.empty], 9, .fix⟩) :: (Ls ++ L)) r.2)
    (Ev.fn (fun K => f68_eq K _ _ H3) ?_) ?_
  · repeat (first|refine zA ?_|refine zB fun _ _ _=>?_|refine zC fun _ _ _=>?_|refine zD fun _ _=>?_|refine zE ?_|refine zF ?_)
    rename_i x2 H4 hS4 x1 H5 hS5
    exact Ev.ret ⟨x1, x2, rfl, hS5⟩
  rintro _ H4 ⟨x1, x2, rfl, hS4⟩
  clear hS3
  dsimp only at hS4
  simp only [callV_fn (show 92 < yOff by unfold yOff; omega), List.nil_append, List.cons_append]
  have hS5 := hS4.mkB' (.int .i64 (0 : Nat) :: rdT2 b4 b5 b6) 4 (.loop 30 4)
  clear hS4
  generalize hbb : H4.length = b at hS5 ⊢
  generalize hHH : mkB H4 (.int .i64 (0 : Nat) :: rdT2 b4 b5 b6) 4 (.loop 30 4) = H5 at hS5 ⊢
  have e5 : mkB H4 (.int .i64 0 :: f30_T_R0 (ptr b4 0) (ptr b5 0) (ptr b6 0)) 4 (.loop 30 4) = H5 := hHH
  try rw [e5]
  refine Ev.b2 (Q1 := fun r => ∃ B' Ls' Lj', MoC B B' ∧ PK (ptr p 0) dv (G.walk D a).2 D Ls' ∧ (((G.walk D a).1.2.2 = 0 ∧ JR2 b b4 b5 b6 (G.walk D a).1.1 (G.walk D a).1.2.1 Lj') ∨ ((G.walk D a).1.2.2 ≠ 0 ∧ JE2 b b4 b5 b6 (G.walk D a).1.2.2 Lj')) ∧ St H0 B0 B' (Ls' ++ (Lj' ++ L)) r.2)
    (Ev.fn (fun K => f92_eq K _ _ _ H5) ?_) ?_
  · repeat (first|refine zA ?_|refine zB fun _ _ _=>?_|refine zC fun _ _ _=>?_|refine zD fun _ _=>?_|refine zE ?_|refine zF ?_)
    have hS6 : St H0 B0 B (Ls ++ ((x2, ⟨[ptr p 0], 32, .fix⟩) :: ([] ++ ([(b, ⟨.int .i64 (0 : Nat) :: rdT2 b4 b5 b6, 4, .loop 30 4⟩), (b6, ⟨[.pointer none, .slice none 0 0], 129, .fix⟩), (b5, ⟨[.int .i64 0], 36, .fix⟩), (b4, ⟨[.string ByteArray.empty], 9, .fix⟩)] ++ L)))) H5 := by
      have h6 : St H0 B0 B ((b, ⟨.int .i64 (0 : Nat) :: rdT2 b4 b5 b6, 4, .loop 30 4⟩) :: (x2, ⟨[ptr p 0], 32, .fix⟩) :: (b6, ⟨[.pointer none, .slice none 0 0], 129, .fix⟩) :: (b5, ⟨[.int .i64 0], 36, .fix⟩) :: (b4, ⟨[.string ByteArray.empty], 9, .fix⟩) :: (Ls ++ L)) H5 := hS5.drop (.cons_cons _ (.cons _ (List.Sublist.refl _)))
      exact h6.perm (by (refine perm_cnt ?_; intro _ a; simp only [List.count_append, List.count_cons, List.cons_append, List.nil_append, List.append_assoc]; try ac_rfl))
    refine Ev.bind (Ev.loop (parts_all (m := D.n / 2) (J := JR2 b b4 b5 b6) (JE := JE2 b b4 b5 b6) hO rfl hm1 hc (fun l s a t hl hs ht B H Lj Lx hJ hS => read_round2 hs hl ht hJ hS) (fun l s e he B H Lj Lx hJ hS => read_err2 he hJ hS) 513 B H5 G Ls [] _ [] (.slice none 0 0) [] a rfl (by decide) (Nat.le_refl _) hP FRS.nil ⟨.pointer none, .slice none 0 0, [], .inl rfl, .inl ⟨rfl, rfl, rfl⟩, rfl⟩ hS6)) ?_
    rintro _ ⟨B', Ls', Lj', H', rfl, hm', hP', hJ', hS'⟩
    refine Ev.eq (fun K _ => f92_A0_ret K H') ?_
    exact Ev.ret ⟨B', Ls', Lj', hm', hP', hJ', hS'⟩
  have hwl := (walkR_len (m := D.n / 2) hO 513 G [] [] a (Nat.le_refl _) (Nat.le_refl _)).1
  rw [show walkR D (D.n / 2) 513 G [] [] a = G.walk D a from rfl] at hwl
  have hwe : (G.walk D a).1.2.2 ≠ 0 → (G.walk D a).1.2.1 = [] := fun h => (walkR_err 513 G [] [] a h).1
  generalize G.walk D a = w at hwl hwe
  obtain ⟨⟨wl, ws, we⟩, G6⟩ := w
  dsimp only at hwl hwe ⊢
  rintro v H6 ⟨B6, Ls6, Lj6, hm6, hP6, ⟨rfl, c0, ov, Lb, hc0, hR, rfl⟩ | ⟨he, c0, ov, Lb, rfl⟩, hS6⟩
  · try dsimp only at hS6
    clear hS5
    have hcell := hR.cell
    have hc0c : IsCell c0 := by rcases hc0 with rfl | rfl <;> exact inferInstance
    have hS7 : St H0 B0 B6 ((b, ⟨.int .i64 (xSt .normal : Nat) :: rdT2 b4 b5 b6, 4, .loop 30 4⟩) :: (b6, ⟨[c0, ov], 129, .fix⟩) :: (b5, ⟨[.int .i64 0], 36, .fix⟩) :: (b4, ⟨[.string ByteArray.empty], 9, .fix⟩) :: (Lb ++ (Ls6 ++ L))) H6 := hS6.perm (by show List.Perm _ (Ls6 ++ (((b, ⟨.int .i64 (0 : Nat) :: rdT2 b4 b5 b6, 4, .loop 30 4⟩) :: (b6, ⟨[c0, ov], 129, .fix⟩) :: (b5, ⟨[.int .i64 0], 36, .fix⟩) :: (b4, ⟨[.string ByteArray.empty], 9, .fix⟩) :: Lb) ++ L)); (refine perm_cnt ?_; intro _ a; simp only [List.count_append, List.count_cons, List.cons_append, List.nil_append, List.append_assoc]; try ac_rfl))
    clear hS6
    refine Ev.rgBack (e := .normal) hS7 fun H8 hS8 => ?_
    clear hS7
    refine Ev.eq (fun K _ => f30_B0_normal K _ _ _ H8) ?_
    refine Ev.b2 (Q1 := fun r => r.1 = str ws ∧ St H0 B0 B6 ((b6, ⟨[c0, ov], 129, .fix⟩) :: (b5, ⟨[.int .i64 0], 36, .fix⟩) :: (b4, ⟨[.string ByteArray.empty], 9, .fix⟩) :: (Ls6 ++ L)) r.2) ?_ ?_
    · rcases hR with ⟨h0, rfl, rfl⟩ | ⟨h0, b2, rfl, rfl⟩
      · rw [h0]
        refine Ev.fn (fun k => f70_eq k _ H8) ?_
        repeat (first|refine zA ?_|refine zB fun _ _ _=>?_|refine zC fun _ _ _=>?_|refine zD fun _ _=>?_|refine zE ?_|refine zF ?_)
        refine Ev.prim (show sdV (.slice none 0 0) = some (.pointer none) from rfl) ?_
        repeat (first|refine zA ?_|refine zB fun _ _ _=>?_|refine zC fun _ _ _=>?_|refine zD fun _ _=>?_|refine zE ?_|refine zF ?_)
        refine Ev.prim2 (v := str []) (H := H8) (by kernel_rfl) ?_
        exact Ev.ret ⟨rfl, hS8⟩
      · have hS9 : St H0 B0 B6 ((b2, ⟨(ws.map UInt8.toNat).map u8, 5, .buf⟩) :: (b6, ⟨[c0, sl b2 0 ws.length (ws.length + 1)], 129, .fix⟩) :: (b5, ⟨[.int .i64 0], 36, .fix⟩) :: (b4, ⟨[.string ByteArray.empty], 9, .fix⟩) :: (Ls6 ++ L)) H8 := hS8.perm (by (refine perm_cnt ?_; intro _ a; simp only [List.count_append, List.count_cons, List.cons_append, List.nil_append, List.append_assoc]; try ac_rfl))
        have hA : BAcc 5 H0 B0 B6 ((b6, ⟨[c0, sl b2 0 ws.length (ws.length + 1)], 129, .fix⟩) :: (b5, ⟨[.int .i64 0], 36, .fix⟩) :: (b4, ⟨[.string ByteArray.empty], 9, .fix⟩) :: (Ls6 ++ L)) H8 (sl b2 0 ws.length (ws.length + 1)) (ws.map UInt8.toNat) := .inr ⟨b2, by rw [List.length_map], hS9⟩
        refine (String_spec (rest := []) (by rw [List.length_map]; omega) (by simpa using h0) hA).mono ?_
        rintro r ⟨h1, h2⟩
        refine ⟨?_, h2⟩
        rw [h1, List.map_map]
        congr 2
        exact List.map_id'' (fun x => by simp) _
    rintro _ H9 ⟨rfl, hS9⟩
    dsimp only at hS9
    clear hS8
    repeat (first|refine zA ?_|refine zB fun _ _ _=>?_|refine zC fun _ _ _=>?_|refine zD fun _ _=>?_|refine zE ?_|refine zF ?_)
    rename_i H10 hS10 H11 hS11
    exact Ev.ret ⟨rfl, Ls6, B6, hm6, hP6, hS11.drop1.drop1.drop1⟩
  · try dsimp only at hS6
    clear hS5
    have hS7 : St H0 B0 B6 ((b, ⟨.int .i64 (xSt .ret : Nat) :: rdT2 b4 b5 b6, 4, .loop 30 4⟩) :: (b6, ⟨[c0, ov], 129, .fix⟩) :: (b5, ⟨[.int .i64 we], 36, .fix⟩) :: (b4, ⟨[.string ⟨#[]⟩], 9, .fix⟩) :: (Lb ++ (Ls6 ++ L))) H6 := hS6.perm (by show List.Perm _ (Ls6 ++ (((b, ⟨.int .i64 (2 : Nat) :: rdT2 b4 b5 b6, 4, .loop 30 4⟩) :: (b6, ⟨[c0, ov], 129, .fix⟩) :: (b5, ⟨[.int .i64 we], 36, .fix⟩) :: (b4, ⟨[.string ⟨#[]⟩], 9, .fix⟩) :: Lb) ++ L)); (refine perm_cnt ?_; intro _ a; simp only [List.count_append, List.count_cons, List.cons_append, List.nil_append, List.append_assoc]; try ac_rfl))
    clear hS6
    refine Ev.rgBack (e := .ret) hS7 fun H8 hS8 => ?_
    clear hS7
    refine Ev.eq (fun K _ => f30_B0_ret K _ _ _ H8) ?_
    repeat (first|refine zA ?_|refine zB fun _ _ _=>?_|refine zC fun _ _ _=>?_|refine zD fun _ _=>?_|refine zE ?_|refine zF ?_)
    have hws : ws = [] := hwe he
    rw [hws]
    exact Ev.ret ⟨rfl, Ls6, B6, hm6, hP6, hS8.drop1.drop1.drop1.drop (List.sublist_append_right _ _)⟩
end
end Go.AM.E
namespace Go.AM
theorem Dsk.Up.pwrite_any {D : Dsk} {N n k : Nat} {t : List UInt8} (h : D.Up N) (hn : 2 * n + 1 < N) (hm : N ≤ 1048576) (hk : 1 ≤ k) (hk9 : k ≤ 9) (ht : t.length ≤ 120) :
    ∃ D', D.pwrite (n : Int) (k : Int) t = (0, D') ∧ D'.Up N ∧ D'.cache.length = D.cache.length + 2 := by
  have h1 : ((sealL k t).take 64).length = 64 := by rw [List.length_take, seal_len ht]; rfl
  have h2 : ((sealL k t).drop 64).length = 64 := by rw [List.length_drop, seal_len ht]
  refine ⟨(D.put (2 * n) ((sealL k t).take 64)).put (2 * n + 1) ((sealL k t).drop 64), ?_, (h.put (by omega) h1).put (by omega) h2, ?_⟩
  · unfold Dsk.pwrite
    rw [sealR_nat hk hk9 ht, if_neg (by dsimp only; omega)]
    dsimp only
    rw [show (2 : Int) * (n : Int) = ((2 * n : Nat) : Int) by omega, h.write (by omega) h1, if_neg (by simp)]
    rw [show ((2 * n : Nat) : Int) + 1 = ((2 * n + 1 : Nat) : Int) by omega]
    exact (h.put (by omega) h1).write (by omega) h2
  · show ((D.cache ++ [_]) ++ [_]).length = _
    simp
theorem new_format {n : Nat} (h8 : 8 ≤ n) (h2 : n ≤ 1024) : (Dsk.new n).format.1 = 0 ∧ (Dsk.new n).format.2.Up n ∧ (Dsk.new n).format.2.cache = [] := by
  obtain ⟨D', e, u, c⟩ := (Dsk.up_new (show 1 ≤ n by omega) h2).pwrite_any (n := 1) (k := 1) (t := textH 1 ((0 : Nat) : Int) [0, 1]) (by omega) (by omega) (by decide) (by decide) (by rw [textH_len]; decide)
  have e2 : hwrite (Dsk.new n) 1 0 [0, 1] = (0, D') := e
  have hn : (Dsk.new n).n = n := rfl
  unfold Dsk.format
  rw [if_neg (by rw [hn]; omega), e2]
  dsimp only
  rw [if_neg (by simp), u.barrier]
  exact ⟨rfl, u.flush, rfl⟩
def Pgr.Like (G G' : Pgr) : Prop := G'.used = G.used ∧ G'.root = G.root ∧ G'.turn = G.turn
theorem Pgr.Like.refl (G : Pgr) : G.Like G := ⟨rfl, rfl, rfl⟩
theorem Pgr.Like.trans {G G' G'' : Pgr} (h : G.Like G') (h' : G'.Like G'') : G.Like G'' := ⟨h'.1.trans h.1, h'.2.1.trans h.2.1, h'.2.2.trans h.2.2⟩
theorem alloc_like (G : Pgr) (m : Nat) : G.Like (G.alloc m).2.2 := by
  unfold Pgr.alloc
  split
  · exact .refl _
  · split <;> exact ⟨rfl, rfl, rfl⟩
theorem write_like (G : Pgr) (D : Dsk) (n k : Int) (t : List UInt8) : G.Like (G.write D n k t).2.1 := by
  unfold Pgr.write
  split
  · exact .refl _
  · split <;> exact ⟨rfl, rfl, rfl⟩
theorem read_like (G : Pgr) (D : Dsk) (n : Int) : G.Like (G.read D n).2 := by
  unfold Pgr.read
  split
  · exact .refl _
  · split <;> exact ⟨rfl, rfl, rfl⟩
theorem back_like (G : Pgr) (k : Int) : G.Like (G.back k) := ⟨rfl, rfl, rfl⟩
theorem allocN_like (m : Nat) : ∀ (k : Nat) (G : Pgr) (l : List Int), G.Like (allocN m k G l).2.2
  | 0, G, l => .refl _
  | k + 1, G, l => by
    unfold allocN
    split
    · exact alloc_like G m
    · exact (alloc_like G m).trans (allocN_like m k _ _)
theorem layN_like (s : List UInt8) (l : List Int) : ∀ (q i : Nat) (G : Pgr) (D : Dsk), G.Like (layN s l q i G D).2.1
  | 0, i, G, D => .refl _
  | q + 1, i, G, D => by
    unfold layN
    split
    · exact write_like G D _ _ _
    · exact (write_like G D _ _ _).trans (layN_like s l q (i + 1) _ _)
theorem bwrite_like (G : Pgr) (D : Dsk) (s : List UInt8) : G.Like (G.bwrite D s).2.2.1 := by
  have h1 := allocN_like (D.n / 2) (need s.length) G []
  have h2 := layN_like s (allocN (D.n / 2) (need s.length) G []).1 (need s.length) 0 (allocN (D.n / 2) (need s.length) G []).2.2 D
  unfold Pgr.bwrite
  split
  · exact .refl _
  · split
    · exact h1.trans (back_like _ _)
    · split
      · exact (h1.trans h2).trans (back_like _ _)
      · exact h1.trans h2
theorem walkR_like (D : Dsk) (m : Nat) : ∀ (k : Nat) (G : Pgr) (l : List Int) (s : List UInt8) (a : Int), G.Like (walkR D m k G l s a).2
  | 0, G, l, s, a => .refl _
  | k + 1, G, l, s, a => by
    have h := read_like G D a
    unfold walkR
    split
    · exact h
    · split
      · exact h
      · split
        · exact h
        · split
          · exact h
          · exact h.trans (walkR_like D m k _ _ _ _)
theorem csave_like (G : Pgr) (D : Dsk) (next : Int) (l : Vers) : G.Like (G.csave D next l).2.2.1 := by
  unfold Pgr.csave
  split
  · exact bwrite_like _ _ _
  · exact .refl _
theorem cload_like (G : Pgr) (D : Dsk) : G.Like (G.cload D).2 := by
  have h := walkR_like D (D.n / 2) 513 G [] [] G.root
  unfold Pgr.cload
  split
  · exact .refl _
  · split
    · exact h
    · split <;> exact h
structure Pgr.Fit (G : Pgr) (m : Nat) : Prop where
  inn : G.In m
  nd : G.used.Nodup
  ro : 0 ≤ G.root ∧ G.root < 512
theorem Pgr.Fit.like {G G' : Pgr} {m : Nat} (h : G.Fit m) (l : G.Like G') (i : G'.In m) : G'.Fit m := ⟨i, by rw [l.1]; exact h.nd, by rw [l.2.1]; exact h.ro⟩
theorem Pgr.Fit.ok {G : Pgr} {m : Nat} (h : G.Fit m) (hm : m ≤ 512) (ht : G.turn < 4611686018427387000) : G.OK m := ⟨hm, h.nd, h.inn.us, h.inn.fr, h.inn.len, ht, h.ro⟩
theorem Pgr.Fit.lay {G : Pgr} {D : Dsk} {m : Nat} {root : Int} {U : List Int} (h : G.Fit m) (hO : D.OK) (hU : U.Nodup) (hUm : ∀ x ∈ U, 0 ≤ x ∧ x < m) (hr : 0 ≤ root ∧ root < 512) :
    (G.lay D root U).2.1.Fit m ∧ (G.lay D root U).2.2.OK ∧ (G.lay D root U).2.2.n = D.n ∧ (G.lay D root U).2.2.cache.length ≤ D.cache.length + 2 ∧ (G.lay D root U).2.1.turn ≤ G.turn + 1 := by
  have told : ∀ e, (G.told e).Fit m := fun e => ⟨h.inn.told e, h.nd, h.ro⟩
  have b1 := hO.barrier
  have b2 := D.barrier_n
  have b3 := D.barrier_cache
  have w1 : (hwrite D.barrier.2 (G.turn + 1) root U).2.OK := pwrite_ok b1 _ _ _
  have w2 := hwrite_n D.barrier.2 (G.turn + 1) root U
  have w3 := hwrite_cache D.barrier.2 (G.turn + 1) root U
  have c1 := w1.barrier
  have c2 := (hwrite D.barrier.2 (G.turn + 1) root U).2.barrier_n
  have c3 := (hwrite D.barrier.2 (G.turn + 1) root U).2.barrier_cache
  unfold Pgr.lay
  split
  · exact ⟨told _, b1, b2, by show D.barrier.2.cache.length ≤ _; omega, Nat.le_succ _⟩
  · split
    · exact ⟨told _, w1, w2.trans b2, by show (hwrite D.barrier.2 (G.turn + 1) root U).2.cache.length ≤ _; omega, Nat.le_succ _⟩
    · split
      · exact ⟨told _, c1, c2.trans (w2.trans b2), by show (hwrite D.barrier.2 (G.turn + 1) root U).2.barrier.2.cache.length ≤ _; omega, Nat.le_succ _⟩
      · exact ⟨⟨⟨hUm, (fun x hx => by cases hx), List.nodup_nil⟩, hU, hr⟩, c1, c2.trans (w2.trans b2), by show (hwrite D.barrier.2 (G.turn + 1) root U).2.barrier.2.cache.length ≤ _; omega, Nat.le_refl _⟩
theorem mayR_lt {U : List Int} {root : Int} {m : Nat} (hU : ∀ x ∈ U, 0 ≤ x ∧ x < m) (hm : m ≤ 512) (h : mayR U root = true) : 0 ≤ root ∧ root < 512 := by
  unfold mayR at h
  simp only [Bool.or_eq_true, Bool.and_eq_true, decide_eq_true_eq] at h
  rcases h with h | ⟨h1, h2⟩
  · omega
  · have := hU root h2; omega
theorem Pgr.Fit.commit {G : Pgr} {D : Dsk} {m : Nat} (root : Int) (h : G.Fit m) (hm : m ≤ 512) (hO : D.OK) :
    (G.commit D root).2.1.Fit m ∧ (G.commit D root).2.2.OK ∧ (G.commit D root).2.2.n = D.n ∧ (G.commit D root).2.2.cache.length ≤ D.cache.length + 2 ∧ (G.commit D root).2.1.turn ≤ G.turn + 1 := by
  have hal : ∀ x ∈ addAll G.used G.fresh, 0 ≤ x ∧ x < m := fun x hx => by
    rcases (addAll_mem G.fresh G.used x).1 hx with h1 | h1
    · exact h.inn.us x h1
    · exact h.inn.fr x h1
  unfold Pgr.commit
  split
  · exact ⟨h, hO, rfl, Nat.le_add_right _ _, Nat.le_succ _⟩
  · split
    · exact ⟨h, hO, rfl, Nat.le_add_right _ _, Nat.le_succ _⟩
    · rename_i hmay
      exact h.lay hO (addAll_nodup _ _ h.nd) hal (mayR_lt hal hm (by simpa using hmay))
theorem fit_new {m : Nat} (hm : 2 ≤ m) : (⟨1, 0, [0, 1], [], false⟩ : Pgr).Fit m := by
  refine ⟨⟨fun x hx => ?_, (fun x hx => by cases hx), List.nodup_nil⟩, by decide, by decide⟩
  simp at hx
  omega
end Go.AM
namespace Go.AM.E
open Go Go.AM Go.Proofs
attribute [local irreducible] run bin un ld st box newV mkS fldA fld ixA ix slc slc3 build buildS cv cvS ap cpy lenV gOp pickV b2 aIf aChk evalK resume iterD Option.bind

section
variable {B B0 H0 H : AH} {L : List (Nat × Blk)}
theorem cSave_any {p dv : Value} {G : Pgr} {D : Dsk} {next : Int} {sv : Value} {l : Vers} {Ls : List (Nat × Blk)} (hv : ScN B sv l.length 2 (verC l)) (hl : l.length < 1000000000) (hO : D.OK) (hG : G.In (D.n / 2)) (hc : D.cache.length < 10000000) (hP : PK p dv G D Ls) (hS : St H0 B0 B (Ls ++ L) H) :
    Ev (fun k _ => rn k 10 [p, .agg #[.int .i64 next, sv]] H) (PgP H0 B0 B L p dv (.tuple #[.int .i64 (G.csave D next l).1, .int .i64 (G.csave D next l).2.1]) (G.csave D next l).2.2.1 (G.csave D next l).2.2.2) := by
  refine Ev.fn (fun k => f10_eq k _ _ H) ?_
  have hcell := hv.cell
  repeat (first|refine zA ?_|refine zB fun _ _ _=>?_|refine zC fun _ _ _=>?_|refine zD fun _ _=>?_|refine zE ?_|refine zF ?_)
  rename_i c H1 hS1
  clear hS
  refine Ev.b2 (cEncode_spec hv hl hS1) ?_
  rintro _ H2 ⟨h, B2, hm2', hS2⟩
  dsimp only at h hS2
  clear hS1
  unfold Pgr.csave
  by_cases hr : rightC next l = true
  case neg =>
    rw [if_neg hr] at h ⊢
    subst h
    repeat (first | (first|refine zA ?_|refine zB fun _ _ _=>?_|refine zC fun _ _ _=>?_|refine zD fun _ _=>?_|refine zE ?_|refine zF ?_) | rw [decide_eq_true (by omega)] | rw [decide_eq_false (by omega)])
    exact Ev.ret ⟨rfl, Ls, B2, hm2', hP, hS2.drop1⟩
  rw [if_pos hr] at h ⊢
  subst h
  have hle := encC_len hr
  repeat (first | (first|refine zA ?_|refine zB fun _ _ _=>?_|refine zC fun _ _ _=>?_|refine zD fun _ _=>?_|refine zE ?_|refine zF ?_) | rw [decide_eq_true (by omega)] | rw [decide_eq_false (by omega)])
  refine Ev.b2 (bw_spec (s := encC next l) hO hG hc (by omega) hP hS2.drop1) ?_
  rintro _ H3 ⟨rfl, Ls3, B3, hm3, hP3, hS3⟩
  dsimp only at hS3
  repeat (first|refine zA ?_|refine zB fun _ _ _=>?_|refine zC fun _ _ _=>?_|refine zD fun _ _=>?_|refine zE ?_|refine zF ?_)
  exact Ev.ret ⟨rfl, Ls3, B3, ⟨hm2'.mo.trans hm3.mo⟩, hP3, hS3⟩
theorem r23Save_any {p xv : Value} {G : Pgr} {D : Dsk} {next : Int} {sv : Value} {l : Vers} {Ls : List (Nat × Blk)} (hv : ScN B sv l.length 2 (verC l)) (hl : l.length < 1000000000) (hO : D.OK) (hG : G.In (D.n / 2)) (hc : D.cache.length < 10000000) (hP : RK p xv G D Ls) (hS : St H0 B0 B (Ls ++ L) H) :
    Ev (fun k _ => rn k 11 [p, .agg #[.int .i64 next, sv]] H) (RgP H0 B0 B L p xv (.tuple #[.int .i64 (G.csave D next l).1, .int .i64 (G.csave D next l).2.1]) (G.csave D next l).2.2.1 (G.csave D next l).2.2.2) := by
  refine Ev.fn (fun k => f11_eq k _ _ H) ?_
  have hcell := hv.cell
  repeat (first|refine zA ?_|refine zB fun _ _ _=>?_|refine zC fun _ _ _=>?_|refine zD fun _ _=>?_|refine zE ?_|refine zF ?_)
  rename_i c H1 hS1
  clear hS
  refine Ev.b2 (r23Encode_spec hv hl hS1) ?_
  rintro _ H2 ⟨h, hS2⟩
  dsimp only at h hS2
  clear hS1
  unfold Pgr.csave
  by_cases hr : rightC next l = true
  case neg =>
    rw [if_neg hr] at h ⊢
    subst h
    repeat (first | (first|refine zA ?_|refine zB fun _ _ _=>?_|refine zC fun _ _ _=>?_|refine zD fun _ _=>?_|refine zE ?_|refine zF ?_) | rw [decide_eq_true (by omega)] | rw [decide_eq_false (by omega)])
    exact Ev.ret ⟨rfl, Ls, B, ⟨Mo.refl B⟩, hP, hS2.drop1⟩
  rw [if_pos hr] at h ⊢
  subst h
  have hle := encC_len hr
  repeat (first | (first|refine zA ?_|refine zB fun _ _ _=>?_|refine zC fun _ _ _=>?_|refine zD fun _ _=>?_|refine zE ?_|refine zF ?_) | rw [decide_eq_true (by omega)] | rw [decide_eq_false (by omega)])
  refine Ev.b2 (rbWrite_spec (s := encC next l) hO hG hc (by omega) hP hS2.drop1) ?_
  rintro _ H3 ⟨rfl, Ls3, B3, hm3, hP3, hS3⟩
  dsimp only at hS3
  repeat (first|refine zA ?_|refine zB fun _ _ _=>?_|refine zC fun _ _ _=>?_|refine zD fun _ _=>?_|refine zE ?_|refine zF ?_)
  exact Ev.ret ⟨rfl, Ls3, B3, hm3, hP3, hS3⟩
def LoadV (B' : AH) (x : Int × Vers × Int) (v : Value) : Prop := ∃ sv, v = .tuple #[.agg #[.int .i64 x.1, sv], .int .i64 x.2.2] ∧ ScN B' sv x.2.1.length 2 (verC x.2.1)
theorem cLoad_any {p : Nat} {dv : Value} {G : Pgr} {D : Dsk} {Ls : List (Nat × Blk)} (hO : D.OK) (hm1 : D.n / 2 ≠ 0) (hc : D.cache.length < 1000000000000) (hP : PK (ptr p 0) dv G D Ls) (hS : St H0 B0 B (Ls ++ L) H) :
    Ev (fun k _ => rn k 7 [ptr p 0] H) (fun r => ∃ B' Ls', LoadV B' (G.cload D).1 r.1 ∧ MoC B B' ∧ PK (ptr p 0) dv (G.cload D).2 D Ls' ∧ St H0 B0 B' (Ls' ++ L) r.2) := by
  refine Ev.fn (fun k => f7_eq k _ H) ?_
  repeat (first|refine zA ?_|refine zB fun _ _ _=>?_|refine zC fun _ _ _=>?_|refine zD fun _ _=>?_|refine zE ?_|refine zF ?_)
  rename_i a H1 hS1
  clear hS
  refine Ev.b2 (Root_spec hP hS1 (fun x hx => .tail _ (List.mem_append_left _ hx))) ?_
  rintro _ _ h
  cases h
  unfold Pgr.cload
  by_cases h0 : G.root = 0
  · rw [if_pos h0, h0]
    repeat (first | (first|refine zA ?_|refine zB fun _ _ _=>?_|refine zC fun _ _ _=>?_|refine zD fun _ _=>?_|refine zE ?_|refine zF ?_) | rw [decide_eq_true (by omega)] | rw [decide_eq_false (by omega)])
    rename_i H2 hS2
    exact Ev.ret ⟨B, Ls, ⟨.slice none 0 0, rfl, ScN.nil⟩, ⟨Mo.refl B⟩, hP, hS2.drop1⟩
  rw [if_neg h0]
  repeat (first|refine zA ?_|refine zB fun _ _ _=>?_|refine zC fun _ _ _=>?_|refine zD fun _ _=>?_|refine zE ?_|refine zF ?_)
  rw [decide_eq_false h0]
  repeat (first|refine zA ?_|refine zB fun _ _ _=>?_|refine zC fun _ _ _=>?_|refine zD fun _ _=>?_|refine zE ?_|refine zF ?_)
  refine Ev.b2 (Root_spec hP hS1 (fun x hx => .tail _ (List.mem_append_left _ hx))) ?_
  rintro _ _ h
  cases h
  refine Ev.b2 (bRead_any (a := G.root) (L := (a, ⟨[.int .i64 0, .slice none 0 0], 24, .fix⟩) :: L) hO hm1 hc hP (hS1.perm (by (refine perm_cnt ?_; intro _ a; simp only [List.count_append, List.count_cons, List.cons_append, List.nil_append, List.append_assoc]; try ac_rfl)))) ?_
  have hwl := (walkR_len (m := D.n / 2) hO 513 G [] [] G.root (Nat.le_refl _) (Nat.le_refl _)).1
  rw [show walkR D (D.n / 2) 513 G [] [] G.root = G.walk D G.root from rfl] at hwl
  generalize G.walk D G.root = w at hwl
  obtain ⟨⟨wl, ws, we⟩, G6⟩ := w
  dsimp only at hwl ⊢
  rintro _ H2 ⟨rfl, Ls2, B2, hm2', hP2, hS2⟩
  dsimp only at hS2
  clear hS1
  by_cases he : we = 0
  case neg =>
    rw [if_pos he]
    have hS3 : St H0 B0 B2 ((a, ⟨[.int .i64 0, .slice none 0 0], 24, .fix⟩) :: (Ls2 ++ L)) H2 := hS2.perm (by (refine perm_cnt ?_; intro _ a; simp only [List.count_append, List.count_cons, List.cons_append, List.nil_append, List.append_assoc]; try ac_rfl))
    clear hS2
    repeat (first|refine zA ?_|refine zB fun _ _ _=>?_|refine zC fun _ _ _=>?_|refine zD fun _ _=>?_|refine zE ?_|refine zF ?_)
    rw [decide_eq_true he]
    repeat (first|refine zA ?_|refine zB fun _ _ _=>?_|refine zC fun _ _ _=>?_|refine zD fun _ _=>?_|refine zE ?_|refine zF ?_)
    rename_i H4 hS4
    exact Ev.ret ⟨B2, Ls2, ⟨.slice none 0 0, rfl, ScN.nil⟩, hm2', hP2, hS4.drop1⟩
  rw [if_neg (by simpa using he), he]
  repeat (first | (first|refine zA ?_|refine zB fun _ _ _=>?_|refine zC fun _ _ _=>?_|refine zD fun _ _=>?_|refine zE ?_|refine zF ?_) | rw [decide_eq_true (by omega)] | rw [decide_eq_false (by omega)])
  refine Ev.b2 (cDecode_spec (s := ws) (by omega) hS2) ?_
  rintro _ H3 ⟨B3, hdv, hm3, hS3⟩
  dsimp only at hS3 hdv
  clear hS2
  have hS4 : St H0 B0 B3 ((a, ⟨[.int .i64 0, .slice none 0 0], 24, .fix⟩) :: (Ls2 ++ L)) H3 := hS3.perm (by (refine perm_cnt ?_; intro _ a; simp only [List.count_append, List.count_cons, List.cons_append, List.nil_append, List.append_assoc]; try ac_rfl))
  clear hS3
  rcases hdv with ⟨h, rfl⟩ | ⟨n2, l2, sv, h, rfl, hN⟩
  · rw [h]
    repeat (first|refine zA ?_|refine zB fun _ _ _=>?_|refine zC fun _ _ _=>?_|refine zD fun _ _=>?_|refine zE ?_|refine zF ?_)
    rename_i H5 hS5
    exact Ev.ret ⟨B3, Ls2, ⟨.slice none 0 0, rfl, ScN.nil⟩, ⟨hm2'.mo.trans hm3.mo⟩, hP2, hS5.drop1⟩
  · rw [h]
    have hcell := hN.cell
    repeat (first|refine zA ?_|refine zB fun _ _ _=>?_|refine zC fun _ _ _=>?_|refine zD fun _ _=>?_|refine zE ?_|refine zF ?_)
    rename_i H5 hS5
    exact Ev.ret ⟨B3, Ls2, ⟨sv, rfl, hN⟩, ⟨hm2'.mo.trans hm3.mo⟩, hP2, hS5.drop1⟩
theorem r23Load_any {p xv : Value} {G : Pgr} {D : Dsk} {Ls : List (Nat × Blk)} (hO : D.OK) (hc : D.cache.length < 1000000000000) (hP : RK p xv G D Ls) (hS : St H0 B0 B (Ls ++ L) H) :
    Ev (fun k _ => rn k 8 [p] H) (fun r => ∃ B' Ls', LoadV B' (G.cload D).1 r.1 ∧ MoC B B' ∧ RK p xv (G.cload D).2 D Ls' ∧ St H0 B0 B' (Ls' ++ L) r.2) := by
  refine Ev.fn (fun k => f8_eq k _ H) ?_
  have hP0 := hP
  obtain ⟨rb, uv, fv, Lu, Lf, Ld, rfl, hD, hK, hF, hLs⟩ := hP
  obtain ⟨d, rfl⟩ := hD.ptr
  have hcu := hK.cell
  have hcell := hF.cell
  refine Ev.newC fun a H1 hS1 => ?_
  clear hS
  have hi : InL rb ⟨[ptr d 0, i64 G.turn, .int .i64 G.root, uv, fv, .bool G.down], 84, .fix⟩ ((a, ⟨[.int .i64 0, .slice none 0 0], 41, .fix⟩) :: (Ls ++ L)) := ⟨.tail _ (List.mem_append_left _ (by rw [hLs]; exact .head _))⟩
  repeat (first|refine zA ?_|refine zB fun _ _ _=>?_|refine zC fun _ _ _=>?_|refine zD fun _ _=>?_|refine zE ?_|refine zF ?_)
  unfold Pgr.cload
  by_cases h0 : G.root = 0
  · rw [if_pos h0, decide_eq_true h0]
    repeat (first | (first|refine zA ?_|refine zB fun _ _ _=>?_|refine zC fun _ _ _=>?_|refine zD fun _ _=>?_|refine zE ?_|refine zF ?_) | rw [decide_eq_true (by omega)] | rw [decide_eq_false (by omega)])
    rename_i H2 hS2
    exact Ev.ret ⟨B, Ls, ⟨.slice none 0 0, rfl, ScN.nil⟩, ⟨Mo.refl B⟩, hP0, hS2.drop1⟩
  rw [if_neg h0, decide_eq_false h0]
  repeat (first|refine zA ?_|refine zB fun _ _ _=>?_|refine zC fun _ _ _=>?_|refine zD fun _ _=>?_|refine zE ?_|refine zF ?_)
  refine Ev.b2 (rbRead_spec (a := G.root) (L := (a, ⟨[.int .i64 0, .slice none 0 0], 41, .fix⟩) :: L) hO hc hP0 (hS1.perm (by (refine perm_cnt ?_; intro _ a; simp only [List.count_append, List.count_cons, List.cons_append, List.nil_append, List.append_assoc]; try ac_rfl)))) ?_
  clear hi
  have hwl := (walkR_len (m := D.n / 2) hO 513 G [] [] G.root (Nat.le_refl _) (Nat.le_refl _)).1
  rw [show walkR D (D.n / 2) 513 G [] [] G.root = G.walk D G.root from rfl] at hwl
  generalize G.walk D G.root = w at hwl
  obtain ⟨⟨wl, ws, we⟩, G6⟩ := w
  dsimp only at hwl ⊢
  rintro _ H2 ⟨rfl, Ls2, B2, hm2', hP2, hS2⟩
  dsimp only at hS2
  clear hS1
  by_cases he : we = 0
  case neg =>
    rw [if_pos he]
    have hS3 : St H0 B0 B2 ((a, ⟨[.int .i64 0, .slice none 0 0], 41, .fix⟩) :: (Ls2 ++ L)) H2 := hS2.perm (by (refine perm_cnt ?_; intro _ a; simp only [List.count_append, List.count_cons, List.cons_append, List.nil_append, List.append_assoc]; try ac_rfl))
    clear hS2
    repeat (first|refine zA ?_|refine zB fun _ _ _=>?_|refine zC fun _ _ _=>?_|refine zD fun _ _=>?_|refine zE ?_|refine zF ?_)
    rw [decide_eq_true he]
    repeat (first|refine zA ?_|refine zB fun _ _ _=>?_|refine zC fun _ _ _=>?_|refine zD fun _ _=>?_|refine zE ?_|refine zF ?_)
    rename_i H4 hS4
    exact Ev.ret ⟨B2, Ls2, ⟨.slice none 0 0, rfl, ScN.nil⟩, hm2', hP2, hS4.drop1⟩
  rw [if_neg (by simpa using he), he]
  repeat (first | (first|refine zA ?_|refine zB fun _ _ _=>?_|refine zC fun _ _ _=>?_|refine zD fun _ _=>?_|refine zE ?_|refine zF ?_) | rw [decide_eq_true (by omega)] | rw [decide_eq_false (by omega)])
  refine Ev.b2 (r23Decode_spec (s := ws) (by omega) hS2) ?_
  rintro _ H3 ⟨B3, hdv, hm3, hS3⟩
  dsimp only at hS3 hdv
  clear hS2
  have hS4 : St H0 B0 B3 ((a, ⟨[.int .i64 0, .slice none 0 0], 41, .fix⟩) :: (Ls2 ++ L)) H3 := hS3.perm (by (refine perm_cnt ?_; intro _ a; simp only [List.count_append, List.count_cons, List.cons_append, List.nil_append, List.append_assoc]; try ac_rfl))
  clear hS3
  rcases hdv with ⟨h, rfl⟩ | ⟨n2, l2, sv, h, rfl, hN⟩
  · rw [h]
    repeat (first|refine zA ?_|refine zB fun _ _ _=>?_|refine zC fun _ _ _=>?_|refine zD fun _ _=>?_|refine zE ?_|refine zF ?_)
    rename_i c H6 hS6 H5 hS5
    exact Ev.ret ⟨B3, Ls2, ⟨.slice none 0 0, rfl, ScN.nil⟩, ⟨hm2'.mo.trans hm3.mo⟩, hP2, (hS5.drop (.cons_cons _ (.cons _ (List.Sublist.refl _)))).drop1⟩
  · rw [h]
    have hcell := hN.cell
    repeat (first|refine zA ?_|refine zB fun _ _ _=>?_|refine zC fun _ _ _=>?_|refine zD fun _ _=>?_|refine zE ?_|refine zF ?_)
    rename_i c H6 hS6 H7 hS7 H8 hS8
    exact Ev.ret ⟨B3, Ls2, ⟨sv, rfl, hN⟩, ⟨hm2'.mo.trans hm3.mo⟩, hP2, hS8.drop1.drop1⟩
end
end Go.AM.E
namespace Go.AM.E
open Go Go.AM Go.Proofs
attribute [local irreducible] run bin un ld st box newV mkS fldA fld ixA ix slc slc3 build buildS cv cvS ap cpy lenV gOp pickV b2 aIf aChk evalK resume iterD Option.bind

section
variable {B B0 H0 H : AH} {L : List (Nat × Blk)}
def WP (w : Nat) (G : Pgr) (D : Dsk) (Ls : List (Nat × Blk)) : Prop := ∃ dv xv p r Lp Lr, PK p dv G D Lp ∧ RK r xv G D Lr ∧ Ls = (w, ⟨[dv, xv, p, r], 35, .fix⟩) :: (Lp ++ Lr)
def WD (w : Nat) (D : Dsk) (Ls : List (Nat × Blk)) : Prop := ∃ dv xv Ld Lx, DK dv D Ld ∧ XK xv D Lx ∧ Ls = (w, ⟨[dv, xv, .pointer none, .pointer none], 35, .fix⟩) :: (Ld ++ Lx)
theorem RK.xptr {p xv : Value} {G : Pgr} {D : Dsk} {Ls : List (Nat × Blk)} (h : RK p xv G D Ls) : ∃ b, xv = AM.ptr b 0 := by obtain ⟨b, _, _, _, _, _, hp, hx, _⟩ := h; exact XK.ptr hx
theorem PK.pptr {p dv : Value} {G : Pgr} {D : Dsk} {Ls : List (Nat × Blk)} (h : PK p dv G D Ls) : ∃ b, p = ptr b 0 := by obtain ⟨pb, mb, fv, Lf, Ld, hp, _⟩ := h; exact ⟨pb, hp⟩
theorem PK.dptr {p dv : Value} {G : Pgr} {D : Dsk} {Ls : List (Nat × Blk)} (h : PK p dv G D Ls) : ∃ b, dv = ptr b 0 := by obtain ⟨pb, mb, fv, Lf, Ld, hp, hD, _⟩ := h; obtain ⟨d, _, _, _, hp, _⟩ := hD; exact ⟨d, hp⟩
theorem disks_spec {n : Nat} (h1 : 1 ≤ n) (h2 : n ≤ 1024) (hS : St H0 B0 B L H) :
    Ev (fun k _ => rn k 25 [i64 n] H) (fun r => ∃ d x Ld Lx B', r.1 = .tuple #[d, x, .bool true] ∧ MoC B B' ∧ DK d (Dsk.new n) Ld ∧ XK x (Dsk.new n) Lx ∧ St H0 B0 B' (Ld ++ (Lx ++ L)) r.2) := by
  refine Ev.fn (fun k => f25_eq k _ H) ?_
  refine Ev.b2 (New_spec h1 h2 hS) ?_
  rintro _ H1 ⟨dv, Ld, B1, rfl, hm1, hD, hS1⟩
  dsimp only at hS1
  clear hS
  obtain ⟨d, rfl⟩ : ∃ d, dv = ptr d 0 := by obtain ⟨d, _, _, _, hp, _⟩ := hD; exact ⟨d, hp⟩
  repeat (first|refine zA ?_|refine zB fun _ _ _=>?_|refine zC fun _ _ _=>?_|refine zD fun _ _=>?_|refine zE ?_|refine zF ?_)
  refine Ev.b2 (xNew_spec h1 h2 hS1) ?_
  rintro _ H2 ⟨x, Lx, B2, rfl, hm2, hX, hS2⟩
  dsimp only at hS2
  clear hS1
  repeat (first|refine zA ?_|refine zB fun _ _ _=>?_|refine zC fun _ _ _=>?_|refine zD fun _ _=>?_|refine zE ?_|refine zF ?_)
  exact Ev.ret ⟨_, _, Ld, Lx, B2, rfl, ⟨hm1.mo.trans hm2.mo⟩, hD, hX, hS2.perm (by (refine perm_cnt ?_; intro _ a; simp only [List.count_append, List.count_cons, List.cons_append, List.nil_append, List.append_assoc]; try ac_rfl))⟩
theorem toldW_spec {w : Nat} {c0 c1 c2 c3 pv rv : Value} {e : Int} {b : Bool} [IsCell c0] [IsCell c1] [IsCell c2] [IsCell c3] [IsCell pv] [IsCell rv] (hp : bin Tryz.prog .eql 32 pv (.pointer none) = some (.bool b)) (hr : bin Tryz.prog .eql 33 rv (.pointer none) = some (.bool b))
    (hS : St H0 B0 B ((w, ⟨[c0, c1, c2, c3], 35, .fix⟩) :: L) H) :
    Ev (fun k _ => rn k 28 [ptr w 0, pv, .int .i64 e, rv, .int .i64 e] H) (fun r => r.1 = .bool true ∧ St H0 B0 B ((w, ⟨[c0, c1, pv, rv], 35, .fix⟩) :: L) r.2) := by
  refine Ev.fn (fun k => f28_eq k _ _ _ _ _ H) ?_
  repeat (first|refine zA ?_|refine zB fun _ _ _=>?_|refine zC fun _ _ _=>?_|refine zD fun _ _=>?_|refine zE ?_|refine zF ?_)
  refine Ev.prim hp ?_
  refine Ev.prim hr ?_
  have hb : bin Tryz.prog .eql 4 (.bool b) (.bool b) = some (.bool true) := by cases b <;> kernel_rfl
  refine Ev.prim hb ?_
  repeat (first|refine zA ?_|refine zB fun _ _ _=>?_|refine zC fun _ _ _=>?_|refine zD fun _ _=>?_|refine zE ?_|refine zF ?_)
  exact Ev.ret ⟨rfl, by assumption⟩
theorem begins_spec {n : Nat} (h1 : 1 ≤ n) (h2 : n ≤ 1024) (hS : St H0 B0 B L H) :
    Ev (fun k _ => rn k 6 [i64 n] H) (fun r => ∃ w B' Ls, r.1 = .tuple #[ptr w 0, .bool true] ∧ MoC B B' ∧ St H0 B0 B' (Ls ++ L) r.2 ∧
      (((Dsk.new n).format.1 ≠ 0 ∧ WD w (Dsk.new n).format.2 Ls) ∨ ((Dsk.new n).format.1 = 0 ∧ WP w ⟨1, 0, [0, 1], [], false⟩ (Dsk.new n).format.2 Ls))) := by
  refine Ev.fn (fun k => f6_eq k _ H) ?_
  have hO := Dsk.ok_new h1 h2
  have hc : (Dsk.new n).cache.length + 2 < 1000000000000 := by show (0 : Nat) + 2 < _; decide
  repeat (first|refine zA ?_|refine zB fun _ _ _=>?_|refine zC fun _ _ _=>?_|refine zD fun _ _=>?_|refine zE ?_|refine zF ?_)
  rename_i w H1 hS1
  clear hS
  refine Ev.b2 (disks_spec h1 h2 hS1) ?_
  rintro _ H2 ⟨dv, xv, Ld, Lx, B2, rfl, hm2, hD, hX, hS2⟩
  dsimp only at hS2
  clear hS1
  obtain ⟨d, rfl⟩ : ∃ d, dv = ptr d 0 := by obtain ⟨d, _, _, _, hp, _⟩ := hD; exact ⟨d, hp⟩
  obtain ⟨x, rfl⟩ := hX.ptr
  have hS3 := hS2.perm (L' := (w, ⟨[.pointer none, .pointer none, .pointer none, .pointer none], 35, .fix⟩) :: (Ld ++ (Lx ++ L))) (by (refine perm_cnt ?_; intro _ a; simp only [List.count_append, List.count_cons, List.cons_append, List.nil_append, List.append_assoc]; try ac_rfl))
  clear hS2
  repeat (first|refine zA ?_|refine zB fun _ _ _=>?_|refine zC fun _ _ _=>?_|refine zD fun _ _=>?_|refine zE ?_|refine zF ?_)
  rename_i H5 hS5 H4 hS4
  clear hS3
  first | clear hS5 | skip
  refine Ev.b2 (Format_spec (L := (w, ⟨[ptr d 0, ptr x 0, .pointer none, .pointer none], 35, .fix⟩) :: (Lx ++ L)) hD hO hc (hS4.perm (by (refine perm_cnt ?_; intro _ a; simp only [List.count_append, List.count_cons, List.cons_append, List.nil_append, List.append_assoc]; try ac_rfl)))) ?_
  clear hS4
  rintro _ H6 (⟨he, rfl, Ld6, B6, hm6, hD6, hS6⟩ | ⟨he, p, rfl, Lp, B6, hm6, hP6, hS6⟩)
  · dsimp only at hS6
    have hS6' := hS6.perm (L' := (w, ⟨[ptr d 0, ptr x 0, .pointer none, .pointer none], 35, .fix⟩) :: (Ld6 ++ (Lx ++ L))) (by (refine perm_cnt ?_; intro _ a; simp only [List.count_append, List.count_cons, List.cons_append, List.nil_append, List.append_assoc]; try ac_rfl))
    clear hS6
    repeat (first|refine zA ?_|refine zB fun _ _ _=>?_|refine zC fun _ _ _=>?_|refine zD fun _ _=>?_|refine zE ?_|refine zF ?_)
    refine Ev.b2 (rFormat_spec (L := (w, ⟨[ptr d 0, ptr x 0, .pointer none, .pointer none], 35, .fix⟩) :: (Ld6 ++ L)) hX hO hc (hS6'.perm (by (refine perm_cnt ?_; intro _ a; simp only [List.count_append, List.count_cons, List.cons_append, List.nil_append, List.append_assoc]; try ac_rfl)))) ?_
    clear hS6'
    rintro _ H7 (⟨he', rfl, Lx7, B7, hm7, hX7, hS7⟩ | ⟨he', _⟩)
    case inr => exact (he he').elim
    dsimp only at hS7
    repeat (first|refine zA ?_|refine zB fun _ _ _=>?_|refine zC fun _ _ _=>?_|refine zD fun _ _=>?_|refine zE ?_|refine zF ?_)
    refine Ev.b2 (toldW_spec (w := w) (c0 := ptr d 0) (c1 := ptr x 0) (c2 := .pointer none) (c3 := .pointer none) (b := true) (L := Ld6 ++ (Lx7 ++ L)) (pv := .pointer none) (rv := .pointer none) (by kernel_rfl) (by kernel_rfl) (hS7.perm (by (refine perm_cnt ?_; intro _ a; simp only [List.count_append, List.count_cons, List.cons_append, List.nil_append, List.append_assoc]; try ac_rfl)))) ?_
    clear hS7
    rintro _ H8 ⟨rfl, hS8⟩
    dsimp only at hS8
    exact Ev.ret ⟨w, B7, _, rfl, ⟨hm2.mo.trans (hm6.mo.trans hm7.mo)⟩, hS8.perm (L' := ((w, ⟨[ptr d 0, ptr x 0, .pointer none, .pointer none], 35, .fix⟩) :: (Ld6 ++ Lx7)) ++ L) (by (refine perm_cnt ?_; intro _ a; simp only [List.count_append, List.count_cons, List.cons_append, List.nil_append, List.append_assoc]; try ac_rfl)), .inl ⟨he, _, _, Ld6, Lx7, hD6, hX7, rfl⟩⟩
  · dsimp only at hS6
    obtain ⟨pb, rfl⟩ := hP6.pptr
    have hS6' := hS6.perm (L' := (w, ⟨[ptr d 0, ptr x 0, .pointer none, .pointer none], 35, .fix⟩) :: (Lp ++ (Lx ++ L))) (by (refine perm_cnt ?_; intro _ a; simp only [List.count_append, List.count_cons, List.cons_append, List.nil_append, List.append_assoc]; try ac_rfl))
    clear hS6
    repeat (first|refine zA ?_|refine zB fun _ _ _=>?_|refine zC fun _ _ _=>?_|refine zD fun _ _=>?_|refine zE ?_|refine zF ?_)
    refine Ev.b2 (rFormat_spec (L := (w, ⟨[ptr d 0, ptr x 0, .pointer none, .pointer none], 35, .fix⟩) :: (Lp ++ L)) hX hO hc (hS6'.perm (by (refine perm_cnt ?_; intro _ a; simp only [List.count_append, List.count_cons, List.cons_append, List.nil_append, List.append_assoc]; try ac_rfl)))) ?_
    clear hS6'
    rintro _ H7 (⟨he', _⟩ | ⟨he', r, rfl, Lr, B7, hm7, hR7, hS7⟩)
    case inl => exact (he' he).elim
    dsimp only at hS7
    obtain ⟨rb, rfl⟩ := hR7.ptr
    repeat (first|refine zA ?_|refine zB fun _ _ _=>?_|refine zC fun _ _ _=>?_|refine zD fun _ _=>?_|refine zE ?_|refine zF ?_)
    refine Ev.b2 (toldW_spec (w := w) (c0 := ptr d 0) (c1 := ptr x 0) (c2 := .pointer none) (c3 := .pointer none) (b := false) (L := Lp ++ (Lr ++ L)) (pv := ptr pb 0) (rv := ptr rb 0) (by kernel_rfl) (by kernel_rfl) (hS7.perm (by (refine perm_cnt ?_; intro _ a; simp only [List.count_append, List.count_cons, List.cons_append, List.nil_append, List.append_assoc]; try ac_rfl)))) ?_
    clear hS7
    rintro _ H8 ⟨rfl, hS8⟩
    dsimp only at hS8
    exact Ev.ret ⟨w, B7, _, rfl, ⟨hm2.mo.trans (hm6.mo.trans hm7.mo)⟩, hS8.perm (L' := ((w, ⟨[ptr d 0, ptr x 0, ptr pb 0, ptr rb 0], 35, .fix⟩) :: (Lp ++ Lr)) ++ L) (by (refine perm_cnt ?_; intro _ a; simp only [List.count_append, List.count_cons, List.cons_append, List.nil_append, List.append_assoc]; try ac_rfl)), .inr ⟨he, _, _, _, _, Lp, Lr, hP6, hR7, rfl⟩⟩
theorem like_loop {dv : Value} {x n : Nat} {D : Dsk} {sv cv fv : Value} {Ld Lx : List (Nat × Blk)} (hn : D.n = n) (hD : DK dv D Ld) (hX : XK (ptr x 0) D Lx) (hO : D.OK) (hc : D.cache.length < 1000000000000) [IsCell sv] [IsCell cv] [IsCell fv] (hi : InL x ⟨[sv, cv, fv, .bool D.down], 54, .fix⟩ (Ld ++ (Lx ++ L))) (hls : lenV Tryz.prog 51 sv = some (i64 n)) : ∀ (q i : Nat) (B H : AH), i + q = n → St H0 B0 B (Ld ++ (Lx ++ L)) H →
    Ev (fun k K => f20_L0 k dv (ptr x 0) (i64 i) K H) (fun o => ∃ B' H', o = (.exit 0, f20_X_L0 unk, H') ∧ MoC B B' ∧ St H0 B0 B' (Ld ++ (Lx ++ L)) H') := by
  have hn2 := hO.n2
  intro q
  induction q with
  | zero =>
    intro i B H hq hS
    refine Ev.succ (fun k K => f20_L0_succ k _ _ _ K H) ?_
    repeat (first|refine zA ?_|refine zB fun _ _ _=>?_|refine zC fun _ _ _=>?_|refine zD fun _ _=>?_|refine zE ?_|refine zF ?_)
    refine Ev.prim hls ?_
    repeat (first|refine zA ?_|refine zB fun _ _ _=>?_|refine zC fun _ _ _=>?_|refine zD fun _ _=>?_|refine zE ?_|refine zF ?_)
    rw [decide_eq_false (by omega)]
    repeat (first|refine zA ?_|refine zB fun _ _ _=>?_|refine zC fun _ _ _=>?_|refine zD fun _ _=>?_|refine zE ?_|refine zF ?_)
    exact Ev.ret ⟨B, H, rfl, ⟨Mo.refl B⟩, hS⟩
  | succ q ih =>
    intro i B H hq hS
    refine Ev.succ (fun k K => f20_L0_succ k _ _ _ K H) ?_
    repeat (first|refine zA ?_|refine zB fun _ _ _=>?_|refine zC fun _ _ _=>?_|refine zD fun _ _=>?_|refine zE ?_|refine zF ?_)
    refine Ev.prim hls ?_
    repeat (first|refine zA ?_|refine zB fun _ _ _=>?_|refine zC fun _ _ _=>?_|refine zD fun _ _=>?_|refine zE ?_|refine zF ?_)
    rw [decide_eq_true (by omega)]
    repeat (first|refine zA ?_|refine zB fun _ _ _=>?_|refine zC fun _ _ _=>?_|refine zD fun _ _=>?_|refine zE ?_|refine zF ?_)
    cases hdn : D.down with
    | true =>
      repeat (first|refine zA ?_|refine zB fun _ _ _=>?_|refine zC fun _ _ _=>?_|refine zD fun _ _=>?_|refine zE ?_|refine zF ?_)
      exact Ev.ret ⟨B, H, rfl, ⟨Mo.refl B⟩, hS⟩
    | false =>
      repeat (first|refine zA ?_|refine zB fun _ _ _=>?_|refine zC fun _ _ _=>?_|refine zD fun _ _=>?_|refine zE ?_|refine zF ?_)
      refine Ev.b2 (Read_spec (i := (i : Int)) hD hO hc hS) ?_
      rintro _ H1 ⟨rfl, B1, hm1, hS1⟩
      dsimp only at hS1
      clear hS
      repeat (first|refine zA ?_|refine zB fun _ _ _=>?_|refine zC fun _ _ _=>?_|refine zD fun _ _=>?_|refine zE ?_|refine zF ?_)
      refine Ev.b2 (xRead_spec (i := (i : Int)) hX hO hc hS1 fun p hp => List.mem_append_right _ (List.mem_append_left _ hp)) ?_
      rintro _ _ h
      cases h
      generalize D.read (i : Int) = w
      obtain ⟨w1, w2⟩ := w
      dsimp only
      repeat (first | (first|refine zA ?_|refine zB fun _ _ _=>?_|refine zC fun _ _ _=>?_|refine zD fun _ _=>?_|refine zE ?_|refine zF ?_) | rw [decide_eq_true (by omega)] | rw [decide_eq_false (by omega)])
      refine (ih (i + 1) B1 H1 (by omega) hS1).mono ?_
      rintro o ⟨B', H', e, hm', h'⟩
      exact ⟨B', H', e, ⟨hm1.mo.trans hm'.mo⟩, h'⟩
theorem like_spec {dv xv : Value} {D : Dsk} {Ld Lx : List (Nat × Blk)} (hD : DK dv D Ld) (hX : XK xv D Lx) (hO : D.OK) (hc : D.cache.length < 1000000000000) (hS : St H0 B0 B (Ld ++ (Lx ++ L)) H) :
    Ev (fun k _ => rn k 20 [dv, xv] H) (fun r => r.1 = .bool true ∧ ∃ B', MoC B B' ∧ St H0 B0 B' (Ld ++ (Lx ++ L)) r.2) := by
  refine Ev.fn (fun k => f20_eq k _ _ H) ?_
  have hn2 := hO.n2
  have hX0 := hX
  obtain ⟨x, sv, cv, fx, Ls1, Lc, rfl, hfx, hf1, hG1, hG2, hLx⟩ := hX
  have hcell1 := hG1.cell
  have hcell2 := hG2.cell
  have hls := hG1.len (Und.eq (P := Tryz.prog) (t := 51))
  rw [List.length_map, secsB_len] at hls
  have hlc := hG2.len (Und.eq (P := Tryz.prog) (t := 52))
  have hi : InL x ⟨[sv, cv, .int .i64 fx, .bool D.down], 54, .fix⟩ (Ld ++ (Lx ++ L)) := ⟨List.mem_append_right _ (List.mem_append_left _ (by rw [hLx]; exact .head _))⟩
  refine Ev.b2 (Down_spec hD hS fun p hp => List.mem_append_left _ hp) ?_
  rintro _ _ h
  cases h
  repeat (first|refine zA ?_|refine zB fun _ _ _=>?_|refine zC fun _ _ _=>?_|refine zD fun _ _=>?_|refine zE ?_|refine zF ?_)
  rw [show (D.down != D.down) = false from by cases D.down <;> rfl]
  repeat (first|refine zA ?_|refine zB fun _ _ _=>?_|refine zC fun _ _ _=>?_|refine zD fun _ _=>?_|refine zE ?_|refine zF ?_)
  refine Ev.b2 (Sectors_spec hD hO hS fun p hp => List.mem_append_left _ hp) ?_
  rintro _ _ h
  cases h
  repeat (first|refine zA ?_|refine zB fun _ _ _=>?_|refine zC fun _ _ _=>?_|refine zD fun _ _=>?_|refine zE ?_|refine zF ?_)
  rw [hls, Option.bind_some]
  repeat (first|refine zA ?_|refine zB fun _ _ _=>?_|refine zC fun _ _ _=>?_|refine zD fun _ _=>?_|refine zE ?_|refine zF ?_)
  refine Ev.b2 (Waiting_spec hD hS fun p hp => List.mem_append_left _ hp) ?_
  rintro _ _ h
  cases h
  repeat (first|refine zA ?_|refine zB fun _ _ _=>?_|refine zC fun _ _ _=>?_|refine zD fun _ _=>?_|refine zE ?_|refine zF ?_)
  rw [hlc, Option.bind_some]
  repeat (first|refine zA ?_|refine zB fun _ _ _=>?_|refine zC fun _ _ _=>?_|refine zD fun _ _=>?_|refine zE ?_|refine zF ?_)
  refine Ev.bind (Ev.loop (like_loop rfl hD hX0 hO hc hi hls D.n 0 B H (by omega) hS)) ?_
  rintro _ ⟨B', H', rfl, hm', hS'⟩
  refine Ev.eq (fun k _ => f20_A0_x0 k _ H') ?_
  exact Ev.ret ⟨rfl, B', hm', hS'⟩
end
end Go.AM.E
namespace Go.AM.E
open Go Go.AM Go.Proofs
attribute [local irreducible] run bin un ld st box newV mkS fldA fld ixA ix slc slc3 build buildS cv cvS ap cpy lenV gOp pickV b2 aIf aChk evalK resume iterD Option.bind

section
theorem barrier_cache (D : Dsk) : D.barrier.2.cache.length ≤ D.cache.length := by
  unfold Dsk.barrier
  split
  · exact Nat.le_refl _
  · unfold Dsk.act
    split
    · exact Nat.le_refl _
    · exact Nat.zero_le _
variable {B B0 H0 H : AH} {L : List (Nat × Blk)}
theorem st_err {x y z p m n : Nat × Blk} {Ld Lf : List (Nat × Blk)} (h : St H0 B0 B (x :: y :: z :: p :: m :: n :: (Ld ++ (Lf ++ L))) H) : St H0 B0 B (p :: m :: (Lf ++ Ld ++ L)) H := by
  have h1 := h.drop1.drop1.drop1
  have h2 : St H0 B0 B (p :: m :: (Ld ++ (Lf ++ L))) H := h1.drop (.cons_cons _ (.cons_cons _ (.cons _ (List.Sublist.refl _))))
  refine h2.perm ?_
  refine ((List.Perm.cons _ (List.Perm.cons _ ?_)))
  rw [List.append_assoc]
  exact permA Ld Lf L
theorem st_fin {x y z p m n : Nat × Blk} {Ld Lf : List (Nat × Blk)} (h : St H0 B0 B (x :: y :: z :: p :: m :: n :: (Ld ++ (Lf ++ L))) H) : St H0 B0 B (p :: n :: ([] ++ Ld ++ L)) H := by
  have h1 := h.drop1.drop1.drop1
  exact h1.drop (.cons_cons _ (.cons _ (.cons_cons _ (List.Sublist.append_left (List.sublist_append_right _ _) _))))
theorem st_six {x y z p m n : Nat × Blk} {Ld Lr : List (Nat × Blk)} (h : St H0 B0 B (Ld ++ (x :: y :: z :: p :: m :: n :: Lr)) H) : St H0 B0 B (x :: y :: z :: p :: m :: n :: (Ld ++ Lr)) H := h.perm (permA Ld [x, y, z, p, m, n] Lr)
theorem st_six' {x y z p m n : Nat × Blk} {Ld Lr : List (Nat × Blk)} (h : St H0 B0 B (x :: y :: z :: p :: m :: n :: (Ld ++ Lr)) H) : St H0 B0 B (Ld ++ (x :: y :: z :: p :: m :: n :: Lr)) H := h.perm (permA [x, y, z, p, m, n] Ld Lr)
instance : Elt Tryz.prog 148 124 .nilFunc 8 := ⟨by kernel_rfl, by kernel_rfl, by kernel_rfl, by kernel_rfl, by kernel_rfl, by kernel_rfl, by kernel_rfl, by kernel_rfl, by kernel_rfl⟩
theorem lay1_spec {b1 b2 pb mb d t r : Nat} {tv rv mv fv dn : Value} {U : List Int} {D : Dsk} {Ld : List (Nat × Blk)} (hD : DK (ptr d 0) D Ld) (hO : D.OK) (hc : D.cache.length + 1 < 1000000000000) (ht : t < 4611686018427387904) (hr : r < 65536) (hU : ∀ n ∈ U, 0 ≤ n ∧ n < 512)
    (i1 : (b1, ⟨[ptr pb 0], 32, .fix⟩) ∈ L) (i2 : (b2, ⟨[i64 t, i64 r, .map (some mb)], 101, .fix⟩) ∈ L) (i3 : (pb, ⟨[tv, rv, mv, ptr d 0, fv, dn], 103, .fix⟩) ∈ L) (i4 : (mb, ⟨entI U, 99, .map⟩) ∈ L) (hS : St H0 B0 B (Ld ++ L) H) :
    Ev (fun k _ => rn k 80 [ptr b2 0, ptr b1 0] H) (DkP H0 B0 B L (ptr d 0) (.int .i64 (hwrite D t (r : Int) U).1) (hwrite D t (r : Int) U).2) := by
  refine Ev.fn (fun k => f80_eq k _ _ H) ?_
  have j1 : InL b1 _ (Ld ++ L) := ⟨List.mem_append_right _ i1⟩
  have j2 : InL b2 _ (Ld ++ L) := ⟨List.mem_append_right _ i2⟩
  have j3 : InL pb _ (Ld ++ L) := ⟨List.mem_append_right _ i3⟩
  repeat (first|refine zA ?_|refine zB fun _ _ _=>?_|refine zC fun _ _ _=>?_|refine zD fun _ _=>?_|refine zE ?_|refine zF ?_)
  rw [show (fun k n : Nat => AM.b2 (rn k 63 [.agg (List.toArray [i64 t, i64 r, .map (some mb)]), ptr d 0] H) fun v6 h6 => some (v6, h6)) = fun k n => rn k 63 [.agg #[i64 t, i64 r, .map (some mb)], ptr d 0] H from funext fun k => funext fun _ => b2_id _]
  exact hwrite_spec hD hO hc ht hr hU i4 hS
theorem lay_specP {p dv t0 : Value} {G : Pgr} {D : Dsk} {Ls : List (Nat × Blk)} {r mb2 : Nat} {U : List Int} (hP : PK p dv G D Ls) (hO : D.OK) (hc : D.cache.length + 4 < 1000000000000) (ht : G.turn + 1 < 4611686018427387904) (hr : r < 65536) (hU : ∀ n ∈ U, 0 ≤ n ∧ n < 512) [IsCell t0]
    (hS : St H0 B0 B (Ls ++ ((mb2, ⟨entI U, 99, .map⟩) :: L)) H) :
    Ev (fun k _ => rn k 38 [p, .agg #[t0, i64 r, .map (some mb2)]] H) (PgP H0 B0 B L p dv (.int .i64 (G.lay D (r : Int) U).1) (G.lay D (r : Int) U).2.1 (G.lay D (r : Int) U).2.2) := by
  obtain ⟨pb, mb, fv, Lf, Ld, rfl, hD, hF, rfl⟩ := hP
  obtain ⟨d, rfl⟩ := hD.ptr
  have hcell := hF.cell
  obtain ⟨turn, root, U0, F, dn⟩ := G
  dsimp only at hF hS ht
  refine Ev.fn (fun k => f38_eq k _ _ H) ?_
  have hSa : St H0 B0 B ((pb, ⟨[i64 turn, .int .i64 root, .map (some mb), ptr d 0, fv, .bool dn], 103, .fix⟩) :: (mb, ⟨entI U0, 99, .map⟩) :: (mb2, ⟨entI U, 99, .map⟩) :: (Ld ++ (Lf ++ L))) H := by
    refine hS.perm ?_
    simp only [List.cons_append]
    refine List.Perm.cons _ (List.Perm.cons _ ?_)
    refine List.Perm.trans ?_ (List.perm_middle).symm
    refine List.Perm.cons _ ?_
    rw [List.append_assoc]
    exact permA Lf Ld L
  clear hS
  repeat (first|refine zA ?_|refine zB fun _ _ _=>?_|refine zC fun _ _ _=>?_|refine zD fun _ _=>?_|refine zE ?_|refine zF ?_)
  rename_i b1 H1 hS1 b2 H2 hS2 H3 hS3
  clear hSa hS1 hS2
  refine Ev.bsC (by decide) fun b3 H4 hS4 => ?_
  clear hS3
  repeat (first|refine zA ?_|refine zB fun _ _ _=>?_|refine zC fun _ _ _=>?_|refine zD fun _ _=>?_|refine zE ?_|refine zF ?_)
  have hO1 := hO.barrier
  have hc1 : D.barrier.2.cache.length ≤ D.cache.length := barrier_cache D
  have hO2 := pwrite_ok hO1 (((turn + 1) % 2 : Nat) : Int) 1 (textH (turn + 1) (r : Int) U)
  have hc2 := pwrite_cache D.barrier.2 (((turn + 1) % 2 : Nat) : Int) 1 (textH (turn + 1) (r : Int) U)
  change (hwrite D.barrier.2 (turn + 1) (r : Int) U).2.OK at hO2
  change (hwrite D.barrier.2 (turn + 1) (r : Int) U).2.cache.length ≤ _ at hc2
  have hO3 := hO2.barrier
  have key : Ev (fun k K => f38_L0 k (ptr b1 0) (ptr b2 0) (sl b3 0 3 3) (i64 3) (i64 0) K H4) (fun o => ∃ B' H' Ld' D' dn', MoC B B' ∧ DK (ptr d 0) D' Ld' ∧
      St H0 B0 B' ((b3, ⟨[.func (.func 64) #[ptr d 0] #[], .func (.func 80) #[] #[ptr b2 0, ptr b1 0], .func (.func 64) #[ptr d 0] #[]], 124, .fix⟩) :: (b2, ⟨[i64 (turn + 1), i64 r, .map (some mb2)], 101, .fix⟩) :: (b1, ⟨[ptr pb 0], 32, .fix⟩) ::
        (pb, ⟨[i64 turn, .int .i64 root, .map (some mb), ptr d 0, fv, .bool dn'], 103, .fix⟩) :: (mb, ⟨entI U0, 99, .map⟩) :: (mb2, ⟨entI U, 99, .map⟩) :: (Ld' ++ (Lf ++ L))) H' ∧
      ((∃ e, o = (.ret, f38_X_L0 (ptr b1 0) (ptr b2 0) (.int .i64 e), H') ∧ Pgr.lay ⟨turn, root, U0, F, dn⟩ D (r : Int) U = (e, ⟨turn, root, U0, F, dn'⟩, D')) ∨
        (o = (.exit 0, f38_X_L0 (ptr b1 0) (ptr b2 0) unk, H') ∧ dn' = dn ∧ Pgr.lay ⟨turn, root, U0, F, dn⟩ D (r : Int) U = (0, ⟨turn + 1, (r : Int), U, [], dn⟩, D')))) := by
    have hdn : (dn || decide ((0 : Int) = 7)) = dn := by cases dn <;> rfl
    refine Ev.succ (fun k K => f38_L0_succ k _ _ _ _ _ K _) ?_
    repeat (first | (first|refine zA ?_|refine zB fun _ _ _=>?_|refine zC fun _ _ _=>?_|refine zD fun _ _=>?_|refine zE ?_|refine zF ?_) | rw [decide_eq_true (by omega)] | rw [decide_eq_false (by omega)])
    refine Ev.prim (show ixA Tryz.prog 148 (sl b3 0 3 3) (i64 0) = some (ptr b3 0) from ixA_own (i := 0) inferInstance (by decide)) ?_
    repeat (first|refine zA ?_|refine zB fun _ _ _=>?_|refine zC fun _ _ _=>?_|refine zD fun _ _=>?_|refine zE ?_|refine zF ?_)
    simp only [callV_fn (show 64 < yOff by unfold yOff; omega)]
    refine Ev.b2 (Barrier_spec hD hO (by omega) (st_six' hS4)) ?_
    unfold Pgr.lay
    dsimp only
    generalize D.barrier = w at hO1 hc1 hO2 hc2 hO3 ⊢
    obtain ⟨w1, w2⟩ := w
    dsimp only at hO1 hc1 hO2 hc2 hO3 ⊢
    rintro _ H5 ⟨rfl, Ld5, B5, hm5, hD5, hS5⟩
    dsimp only at hS5
    replace hS5 := st_six hS5
    clear hS4
    repeat (first|refine zA ?_|refine zB fun _ _ _=>?_|refine zC fun _ _ _=>?_|refine zD fun _ _=>?_|refine zE ?_|refine zF ?_)
    refine Ev.b2 (told_spec (.tail _ (.tail _ (.tail _ (.head _)))) (.tail _ (.tail _ (.tail _ (.head _)))) hS5) ?_
    rintro _ H6 ⟨rfl, hS6⟩
    dsimp only at hS6
    clear hS5
    by_cases h1 : w1 = 0
    case neg =>
      rw [if_pos h1]
      repeat (first|refine zA ?_|refine zB fun _ _ _=>?_|refine zC fun _ _ _=>?_|refine zD fun _ _=>?_|refine zE ?_|refine zF ?_)
      rw [decide_eq_true h1]
      repeat (first|refine zA ?_|refine zB fun _ _ _=>?_|refine zC fun _ _ _=>?_|refine zD fun _ _=>?_|refine zE ?_|refine zF ?_)
      exact Ev.ret ⟨B5, H6, Ld5, w2, _, hm5, hD5, hS6, .inl ⟨w1, rfl, rfl⟩⟩
    subst h1
    rw [if_neg (by simp)]
    rw [hdn] at hS6
    repeat (first | (first|refine zA ?_|refine zB fun _ _ _=>?_|refine zC fun _ _ _=>?_|refine zD fun _ _=>?_|refine zE ?_|refine zF ?_) | rw [decide_eq_true (by omega)] | rw [decide_eq_false (by omega)])
    refine Ev.succ (fun k K => f38_L0_succ k _ _ _ _ _ K _) ?_
    repeat (first | (first|refine zA ?_|refine zB fun _ _ _=>?_|refine zC fun _ _ _=>?_|refine zD fun _ _=>?_|refine zE ?_|refine zF ?_) | rw [decide_eq_true (by omega)] | rw [decide_eq_false (by omega)])
    refine Ev.prim (show ixA Tryz.prog 148 (sl b3 0 3 3) (i64 1) = some (ptr b3 1) from ixA_own (i := 1) inferInstance (by decide)) ?_
    repeat (first|refine zA ?_|refine zB fun _ _ _=>?_|refine zC fun _ _ _=>?_|refine zD fun _ _=>?_|refine zE ?_|refine zF ?_)
    simp only [callV_fn (show 80 < yOff by unfold yOff; omega)]
    refine Ev.b2 (lay1_spec (t := turn + 1) (r := r) (U := U) hD5 hO1 (by omega) ht hr hU (.tail _ (.tail _ (.head _))) (.tail _ (.head _)) (.tail _ (.tail _ (.tail _ (.head _)))) (.tail _ (.tail _ (.tail _ (.tail _ (.tail _ (.head _)))))) (st_six' hS6)) ?_
    generalize hwrite w2 (turn + 1) (r : Int) U = x at hO2 hc2 hO3 ⊢
    obtain ⟨x1, x2⟩ := x
    dsimp only at hO2 hc2 hO3 ⊢
    rintro _ H7 ⟨rfl, Ld7, B7, hm7, hD7, hS7⟩
    dsimp only at hS7
    replace hS7 := st_six hS7
    clear hS6
    repeat (first|refine zA ?_|refine zB fun _ _ _=>?_|refine zC fun _ _ _=>?_|refine zD fun _ _=>?_|refine zE ?_|refine zF ?_)
    refine Ev.b2 (told_spec (.tail _ (.tail _ (.tail _ (.head _)))) (.tail _ (.tail _ (.tail _ (.head _)))) hS7) ?_
    rintro _ H8 ⟨rfl, hS8⟩
    dsimp only at hS8
    clear hS7
    by_cases h2 : x1 = 0
    case neg =>
      rw [if_pos h2]
      repeat (first|refine zA ?_|refine zB fun _ _ _=>?_|refine zC fun _ _ _=>?_|refine zD fun _ _=>?_|refine zE ?_|refine zF ?_)
      rw [decide_eq_true h2]
      repeat (first|refine zA ?_|refine zB fun _ _ _=>?_|refine zC fun _ _ _=>?_|refine zD fun _ _=>?_|refine zE ?_|refine zF ?_)
      exact Ev.ret ⟨B7, H8, Ld7, x2, _, ⟨hm5.mo.trans hm7.mo⟩, hD7, hS8, .inl ⟨x1, rfl, rfl⟩⟩
    subst h2
    rw [if_neg (by simp)]
    rw [hdn] at hS8
    repeat (first | (first|refine zA ?_|refine zB fun _ _ _=>?_|refine zC fun _ _ _=>?_|refine zD fun _ _=>?_|refine zE ?_|refine zF ?_) | rw [decide_eq_true (by omega)] | rw [decide_eq_false (by omega)])
    refine Ev.succ (fun k K => f38_L0_succ k _ _ _ _ _ K _) ?_
    repeat (first | (first|refine zA ?_|refine zB fun _ _ _=>?_|refine zC fun _ _ _=>?_|refine zD fun _ _=>?_|refine zE ?_|refine zF ?_) | rw [decide_eq_true (by omega)] | rw [decide_eq_false (by omega)])
    refine Ev.prim (show ixA Tryz.prog 148 (sl b3 0 3 3) (i64 2) = some (ptr b3 2) from ixA_own (i := 2) inferInstance (by decide)) ?_
    repeat (first|refine zA ?_|refine zB fun _ _ _=>?_|refine zC fun _ _ _=>?_|refine zD fun _ _=>?_|refine zE ?_|refine zF ?_)
    simp only [callV_fn (show 64 < yOff by unfold yOff; omega)]
    refine Ev.b2 (Barrier_spec hD7 hO2 (by omega) (st_six' hS8)) ?_
    generalize x2.barrier = y at hO3 ⊢
    obtain ⟨y1, y2⟩ := y
    dsimp only at hO3 ⊢
    rintro _ H9 ⟨rfl, Ld9, B9, hm9, hD9, hS9⟩
    dsimp only at hS9
    replace hS9 := st_six hS9
    clear hS8
    repeat (first|refine zA ?_|refine zB fun _ _ _=>?_|refine zC fun _ _ _=>?_|refine zD fun _ _=>?_|refine zE ?_|refine zF ?_)
    refine Ev.b2 (told_spec (.tail _ (.tail _ (.tail _ (.head _)))) (.tail _ (.tail _ (.tail _ (.head _)))) hS9) ?_
    rintro _ H10 ⟨rfl, hS10⟩
    dsimp only at hS10
    clear hS9
    by_cases h3 : y1 = 0
    case neg =>
      rw [if_pos h3]
      repeat (first|refine zA ?_|refine zB fun _ _ _=>?_|refine zC fun _ _ _=>?_|refine zD fun _ _=>?_|refine zE ?_|refine zF ?_)
      rw [decide_eq_true h3]
      repeat (first|refine zA ?_|refine zB fun _ _ _=>?_|refine zC fun _ _ _=>?_|refine zD fun _ _=>?_|refine zE ?_|refine zF ?_)
      exact Ev.ret ⟨B9, H10, Ld9, y2, _, ⟨hm5.mo.trans (hm7.mo.trans hm9.mo)⟩, hD9, hS10, .inl ⟨y1, rfl, rfl⟩⟩
    subst h3
    rw [if_neg (by simp)]
    rw [hdn] at hS10
    repeat (first | (first|refine zA ?_|refine zB fun _ _ _=>?_|refine zC fun _ _ _=>?_|refine zD fun _ _=>?_|refine zE ?_|refine zF ?_) | rw [decide_eq_true (by omega)] | rw [decide_eq_false (by omega)])
    refine Ev.succ (fun k K => f38_L0_succ k _ _ _ _ _ K _) ?_
    repeat (first | (first|refine zA ?_|refine zB fun _ _ _=>?_|refine zC fun _ _ _=>?_|refine zD fun _ _=>?_|refine zE ?_|refine zF ?_) | rw [decide_eq_true (by omega)] | rw [decide_eq_false (by omega)])
    exact Ev.ret ⟨B9, H10, Ld9, y2, dn, ⟨hm5.mo.trans (hm7.mo.trans hm9.mo)⟩, hD9, hS10, .inr ⟨rfl, rfl, rfl⟩⟩
  refine Ev.bind (Ev.loop key) ?_
  clear hS4
  rintro _ ⟨B', H', Ld', D', dn', hm', hD', hS', ⟨e, rfl, hl⟩ | ⟨rfl, rfl, hl⟩⟩
  · refine Ev.eq (fun k _ => f38_A0_ret k _ _ _ H') ?_
    rw [hl]
    exact Ev.ret ⟨rfl, _, B', hm', ⟨pb, mb, fv, Lf, Ld', rfl, hD', hF, rfl⟩, st_err hS'⟩
  · refine Ev.eq (fun k _ => f38_A0_x0 k _ _ _ H') ?_
    rw [hl]
    repeat (first|refine zA ?_|refine zB fun _ _ _=>?_|refine zC fun _ _ _=>?_|refine zD fun _ _=>?_|refine zE ?_|refine zF ?_)
    rename_i hS12
    exact Ev.ret ⟨rfl, _, B', hm', ⟨pb, mb2, _, [], Ld', rfl, hD', FRS.nil, rfl⟩, st_fin hS12⟩
end
end Go.AM.E
namespace Go.AM.E
open Go Go.AM Go.Proofs
attribute [local irreducible] run bin un ld st box newV mkS fldA fld ixA ix slc slc3 build buildS cv cvS ap cpy lenV gOp pickV b2 aIf aChk evalK resume iterD Option.bind

section
variable {B B0 H0 H : AH} {L : List (Nat × Blk)}
theorem Commit_loop {hb mb2 : Nat} {t0 rv s0 : Value} {fv : Value} {U F : List Int} {Lf Lr : List (Nat × Blk)} {s1 : Value} (hF : FR fv F Lf) (hsub : ∀ x ∈ Lf, x ∈ Lr) (hl : F.length < 100000) [IsCell t0] [IsCell rv] : ∀ (q i : Nat) (H : AH), i + q = F.length →
    St H0 B0 B ((hb, ⟨[t0, rv, .map (some mb2)], 101, .fix⟩) :: (mb2, ⟨entI (addAll U (F.take i)), 99, .map⟩) :: Lr) H →
    Ev (fun k K => f14_L0 k s0 s1 (ptr hb 0) fv (i64 F.length) (i64 i) K H) (fun o => ∃ H', o = (.exit 2, f14_X_L0 s0 s1 (ptr hb 0), H') ∧
      St H0 B0 B ((hb, ⟨[t0, rv, .map (some mb2)], 101, .fix⟩) :: (mb2, ⟨entI (addAll U F), 99, .map⟩) :: Lr) H') := by
  intro q
  induction q with
  | zero =>
    intro i H hi hS
    refine Ev.succ (fun k K => f14_L0_succ k _ _ _ _ _ _ K H) ?_
    repeat (first|refine zA ?_|refine zB fun _ _ _=>?_|refine zC fun _ _ _=>?_|refine zD fun _ _=>?_|refine zE ?_|refine zF ?_)
    rw [decide_eq_false (by omega)]
    repeat (first|refine zA ?_|refine zB fun _ _ _=>?_|refine zC fun _ _ _=>?_|refine zD fun _ _=>?_|refine zE ?_|refine zF ?_)
    rw [List.take_of_length_le (by omega)] at hS
    exact Ev.ret ⟨H, rfl, hS⟩
  | succ q ih =>
    intro i H hi hS
    refine Ev.succ (fun k K => f14_L0_succ k _ _ _ _ _ _ K H) ?_
    repeat (first|refine zA ?_|refine zB fun _ _ _=>?_|refine zC fun _ _ _=>?_|refine zD fun _ _=>?_|refine zE ?_|refine zF ?_)
    rw [decide_eq_true (by omega)]
    repeat (first|refine zA ?_|refine zB fun _ _ _=>?_|refine zC fun _ _ _=>?_|refine zD fun _ _=>?_|refine zE ?_|refine zF ?_)
    have hN := hF.now hS fun x hx => .tail _ (.tail _ (hsub x hx))
    have hx : (intV F)[i]? = some (.int .i64 F[i]) := by unfold intV; rw [List.getElem?_map, List.getElem?_eq_getElem (by omega)]; rfl
    refine Ev.ixN (t := 82) hN i rfl (by omega) hx fun p hp => ?_
    refine Ev.prim (hp.eq H (Mo.refl H)) ?_
    repeat (first|refine zA ?_|refine zB fun _ _ _=>?_|refine zC fun _ _ _=>?_|refine zD fun _ _=>?_|refine zE ?_|refine zF ?_)
    refine Ev.mpTrueI (kt := 3) (et := 4) (Und.eq (P := Tryz.prog) (t := 99)) (Und.eq (P := Tryz.prog) (t := 3)) hS (.tail _ (.head _)) (.tail _ (.head _)) fun H' hS' => ?_
    repeat (first | (first|refine zA ?_|refine zB fun _ _ _=>?_|refine zC fun _ _ _=>?_|refine zD fun _ _=>?_|refine zE ?_|refine zF ?_) | rw [decide_eq_true (by omega)] | rw [decide_eq_false (by omega)])
    refine ih (i + 1) H' (by omega) ?_
    have e : addAll U (F.take (i + 1)) = insI (addAll U (F.take i)) F[i] := by
      unfold addAll
      rw [List.take_add_one, List.getElem?_eq_getElem (by omega), List.foldl_append]
      rfl
    rw [e]
    exact hS'
theorem Commit_spec {p dv : Value} {G : Pgr} {D : Dsk} {Ls : List (Nat × Blk)} {root : Int} {m : Nat} (hP : PK p dv G D Ls) (hO : D.OK) (hG : G.OK m) (hc : D.cache.length + 4 < 1000000000000) (hS : St H0 B0 B (Ls ++ L) H) :
    Ev (fun k _ => rn k 14 [p, .int .i64 root] H) (PgP H0 B0 B L p dv (.int .i64 (G.commit D root).1) (G.commit D root).2.1 (G.commit D root).2.2) := by
  have hP0 := hP
  obtain ⟨pb, mb, fv, Lf, Ld, rfl, hD, hF, rfl⟩ := hP
  obtain ⟨d, rfl⟩ := hD.ptr
  have hcell := hF.cell
  obtain ⟨turn, root0, U, F, dn⟩ := G
  have hfl := hG.fl
  have hmm := hG.mm
  have hus := hG.us
  have hfr := hG.fr
  have htu := hG.tu
  have hnd := hG.nd
  dsimp only at hF hP0 hS hfl hus hfr htu hnd
  simp only [List.cons_append] at hS
  refine Ev.fn (fun k => f14_eq k _ _ H) ?_
  unfold Pgr.commit
  dsimp only
  cases dn with
  | true =>
    rw [if_pos rfl]
    repeat (first|refine zA ?_|refine zB fun _ _ _=>?_|refine zC fun _ _ _=>?_|refine zD fun _ _=>?_|refine zE ?_|refine zF ?_)
    exact Ev.ret ⟨rfl, _, B, ⟨Mo.refl B⟩, hP0, hS⟩
  | false =>
    rw [if_neg (by decide)]
    repeat (first|refine zA ?_|refine zB fun _ _ _=>?_|refine zC fun _ _ _=>?_|refine zD fun _ _=>?_|refine zE ?_|refine zF ?_)
    refine Ev.mkMap (P := Tryz.prog) hS fun mb2 H1 hS1 => ?_
    repeat (first|refine zA ?_|refine zB fun _ _ _=>?_|refine zC fun _ _ _=>?_|refine zD fun _ _=>?_|refine zE ?_|refine zF ?_)
    rename_i hb H2 hS2 H3 hS3
    clear hS hS1 hS2
    have hne : mb ≠ mb2 := by
      rintro rfl
      have := hS3.nd
      simp at this
    refine AM.Ev.gCommit hS3 (.tail _ (.tail _ (.head _))) (.tail _ (.tail _ (.tail _ (.head _)))) (.head _) (.tail _ (.head _)) hne hnd (.tail _ (.head _)) fun H4 hS4 => ?_
    clear hS3
    repeat (first|refine zA ?_|refine zB fun _ _ _=>?_|refine zC fun _ _ _=>?_|refine zD fun _ _=>?_|refine zE ?_|refine zF ?_)
    refine Ev.prim (hF.len (Und.eq (P := Tryz.prog) (t := 82))) ?_
    refine Ev.bind (Ev.loop (Commit_loop (U := U) hF (fun x hx => .tail _ (.tail _ (List.mem_append_left _ (List.mem_append_left _ hx)))) (by omega) F.length 0 H4 (by omega) hS4)) ?_
    clear hS4
    rintro _ ⟨H5, rfl, hS5⟩
    refine Ev.eq (fun k _ => f14_A0_x2 k _ _ _ H5) ?_
    repeat (first|refine zA ?_|refine zB fun _ _ _=>?_|refine zC fun _ _ _=>?_|refine zD fun _ _=>?_|refine zE ?_|refine zF ?_)
    refine Ev.b2 (may_spec (U := addAll U F) ⟨.tail _ (.head _)⟩ hS5) ?_
    rintro _ H6 ⟨rfl, b6, c6, hS6⟩
    dsimp only at hS6
    clear hS5
    have hall : ∀ n ∈ addAll U F, 0 ≤ n ∧ n < 512 := fun n hn => by
      rcases (addAll_mem F U n).1 hn with h | h
      · have := hus n h; omega
      · have := hfr n h; omega
    cases hmay : mayR (addAll U F) root with
    | false =>
      rw [if_pos rfl]
      repeat (first|refine zA ?_|refine zB fun _ _ _=>?_|refine zC fun _ _ _=>?_|refine zD fun _ _=>?_|refine zE ?_|refine zF ?_)
      exact Ev.ret ⟨rfl, _, B, ⟨Mo.refl B⟩, hP0, hS6.drop1.drop1.drop1⟩
    | true =>
      rw [if_neg (by decide)]
      repeat (first|refine zA ?_|refine zB fun _ _ _=>?_|refine zC fun _ _ _=>?_|refine zD fun _ _=>?_|refine zE ?_|refine zF ?_)
      obtain ⟨r, rfl, hr⟩ : ∃ r : Nat, root = r ∧ r < 512 := by
        unfold mayR at hmay
        by_cases h0 : root = 0
        · exact ⟨0, h0, by decide⟩
        · have h1 : root ∈ addAll U F := by simp [h0] at hmay; exact hmay.2
          have := hall root h1
          exact ⟨root.toNat, by omega, by omega⟩
      have hS7 : St H0 B0 B (((pb, ⟨[i64 turn, .int .i64 root0, .map (some mb), ptr d 0, fv, .bool false], 103, .fix⟩) :: (mb, ⟨entI U, 99, .map⟩) :: (Lf ++ Ld)) ++ ((mb2, ⟨entI (addAll U F), 99, .map⟩) :: L)) H6 := hS6.drop1.drop1.perm (List.perm_middle)
      rw [show (fun k n : Nat => AM.b2 (rn k 38 [ptr pb 0, .agg (List.toArray [.int .i64 0, i64 r, .map (some mb2)])] H6) fun v24 h24 => some (v24, h24)) = fun k n => rn k 38 [ptr pb 0, .agg #[.int .i64 0, i64 r, .map (some mb2)]] H6 from funext fun k => funext fun _ => b2_id _]
      exact lay_specP (G := ⟨turn, root0, U, F, false⟩) (r := r) hP0 hO hc (by dsimp only; omega) (by omega) hall hS7
end
end Go.AM.E
namespace Go.AM.E
open Go Go.AM Go.Proofs
attribute [local irreducible] run bin un ld st box newV mkS fldA fld ixA ix slc slc3 build buildS cv cvS ap cpy lenV gOp pickV b2 aIf aChk evalK resume iterD Option.bind

section
variable {B B0 H0 H : AH} {L : List (Nat × Blk)}
theorem rlay_spec {p xv uv2 : Value} {G : Pgr} {D : Dsk} {Ls Lu2 : List (Nat × Blk)} {r : Nat} {U : List Int} (hP : RK p xv G D Ls) (hO : D.OK) (hc : D.cache.length + 4 < 1000000000000) (ht : G.turn + 1 < 4611686018427387904) (hr : r < 65536) (hU : ∀ n ∈ U, 0 ≤ n ∧ n < (D.n / 2 : Nat))
    (hK2 : UK 4 uv2 (boolC U (D.n / 2)) Lu2) (hS : St H0 B0 B (Lu2 ++ (Ls ++ L)) H) :
    Ev (fun k _ => rn k 40 [p, i64 r, uv2] H) (RgP H0 B0 B L p xv (.int .i64 (G.lay D (r : Int) U).1) (G.lay D (r : Int) U).2.1 (G.lay D (r : Int) U).2.2) := by
  have hn2 := hO.n2
  obtain ⟨rb, uv, fv, Lu, Lf, Ld, rfl, hD, hK, hF, rfl⟩ := hP
  obtain ⟨d, rfl⟩ := hD.ptr
  have hcu := hK.cell
  have hcu2 := hK2.cell
  have hcell := hF.cell
  obtain ⟨turn, root, U0, F, dn⟩ := G
  dsimp only at hF hS hK ht
  refine Ev.fn (fun k => f40_eq k _ _ _ H) ?_
  have hS1 : St H0 B0 B ((rb, ⟨[ptr d 0, i64 turn, .int .i64 root, uv, fv, .bool dn], 84, .fix⟩) :: (Ld ++ (Lu2 ++ (Lu ++ (Lf ++ L))))) H := hS.perm (by (refine perm_cnt ?_; intro _ a; simp only [List.count_append, List.count_cons, List.cons_append, List.nil_append, List.append_assoc]; try ac_rfl))
  clear hS
  unfold Pgr.lay
  dsimp only
  have hb1 := hO.barrier
  have hb2 := D.barrier_n
  have hb3 := D.barrier_cache
  repeat (first|refine zA ?_|refine zB fun _ _ _=>?_|refine zC fun _ _ _=>?_|refine zD fun _ _=>?_|refine zE ?_|refine zF ?_)
  refine Ev.b2 (xBarrier_spec (L := (rb, ⟨[ptr d 0, i64 turn, .int .i64 root, uv, fv, .bool dn], 84, .fix⟩) :: (Lu2 ++ (Lu ++ (Lf ++ L)))) hD hO (by omega) (hS1.perm (by (refine perm_cnt ?_; intro _ a; simp only [List.count_append, List.count_cons, List.cons_append, List.nil_append, List.append_assoc]; try ac_rfl)))) ?_
  generalize D.barrier = ba at hb1 hb2 hb3
  obtain ⟨e1, D1⟩ := ba
  dsimp only at hb1 hb2 hb3 ⊢
  rintro _ H2 ⟨rfl, Ld2, B2, hm2, hD2, hS2⟩
  dsimp only at hS2
  clear hS1
  refine Ev.b2 (rtold_spec (L := Ld2 ++ (Lu2 ++ (Lu ++ (Lf ++ L)))) (hS2.perm (by (refine perm_cnt ?_; intro _ a; simp only [List.count_append, List.count_cons, List.cons_append, List.nil_append, List.append_assoc]; try ac_rfl)))) ?_
  rintro _ H3 ⟨rfl, hS3⟩
  dsimp only at hS3
  clear hS2
  by_cases he1 : e1 = 0
  case neg =>
    rw [if_pos he1]
    repeat (first|refine zA ?_|refine zB fun _ _ _=>?_|refine zC fun _ _ _=>?_|refine zD fun _ _=>?_|refine zE ?_|refine zF ?_)
    rw [decide_eq_true he1]
    repeat (first|refine zA ?_|refine zB fun _ _ _=>?_|refine zC fun _ _ _=>?_|refine zD fun _ _=>?_|refine zE ?_|refine zF ?_)
    refine Ev.ret ⟨rfl, _, B2, hm2, ⟨rb, uv, fv, Lu, Lf, Ld2, rfl, hD2, by rw [hb2]; exact hK, hF, rfl⟩, ?_⟩
    refine (hS3.drop (L' := (rb, ⟨[ptr d 0, i64 turn, .int .i64 root, uv, fv, .bool (dn || decide (e1 = 7))], 84, .fix⟩) :: (Ld2 ++ (Lu ++ (Lf ++ L)))) (.cons_cons _ (List.Sublist.append_left (List.sublist_append_right _ _) _))).perm ?_
    unfold Pgr.told
    dsimp only
    (refine perm_cnt ?_; intro _ a; simp only [List.count_append, List.count_cons, List.cons_append, List.nil_append, List.append_assoc]; try ac_rfl)
  rw [if_neg (by simpa using he1), decide_eq_false (p := e1 = 7) (by omega), Bool.or_false] at *
  repeat (first|refine zA ?_|refine zB fun _ _ _=>?_|refine zC fun _ _ _=>?_|refine zD fun _ _=>?_|refine zE ?_|refine zF ?_)
  rw [decide_eq_false (by simpa using he1)]
  repeat (first | (first|refine zA ?_|refine zB fun _ _ _=>?_|refine zC fun _ _ _=>?_|refine zD fun _ _=>?_|refine zE ?_|refine zF ?_) | rw [decide_eq_true (by omega)] | rw [decide_eq_false (by omega)])
  have hK1 : UK 4 uv2 (boolC U (D.n / 2)) Lu2 := hK2
  refine Ev.b2 (rtext_spec (t := turn + 1) (r := r) (by omega) (by omega) hU hK2 hS3 fun x hx => .tail _ (List.mem_append_right _ (List.mem_append_left _ hx))) ?_
  rintro _ H4 ⟨rfl, B4, hm4, hS4⟩
  dsimp only at hS4
  clear hS3
  repeat (first|refine zA ?_|refine zB fun _ _ _=>?_|refine zC fun _ _ _=>?_|refine zD fun _ _=>?_|refine zE ?_|refine zF ?_)
  have hw1 : (hwrite D1 (turn + 1) (r : Int) U).2.OK := pwrite_ok hb1 _ _ _
  have hw2 := hwrite_n D1 (turn + 1) (r : Int) U
  have hw3 := hwrite_cache D1 (turn + 1) (r : Int) U
  refine Ev.b2 (xpWrite_spec (n := (((turn + 1) % 2 : Nat) : Int)) (kind := 1) (t := textH (turn + 1) (r : Int) U) (L := (rb, ⟨[ptr d 0, i64 turn, .int .i64 root, uv, fv, .bool dn], 84, .fix⟩) :: (Lu2 ++ (Lu ++ (Lf ++ L)))) hD2 hb1 (by omega) (by rw [textH_len]; decide) (by decide) (hS4.perm (by (refine perm_cnt ?_; intro _ a; simp only [List.count_append, List.count_cons, List.cons_append, List.nil_append, List.append_assoc]; try ac_rfl)))) ?_
  rw [show D1.pwrite (((turn + 1) % 2 : Nat) : Int) 1 (textH (turn + 1) (r : Int) U) = hwrite D1 (turn + 1) (r : Int) U from rfl]
  generalize hwrite D1 (turn + 1) (r : Int) U = wa at hw1 hw2 hw3
  obtain ⟨e2, D2⟩ := wa
  dsimp only at hw1 hw2 hw3 ⊢
  rintro _ H5 ⟨rfl, Ld5, B5, hm5, hD5, hS5⟩
  dsimp only at hS5
  clear hS4
  refine Ev.b2 (rtold_spec (L := Ld5 ++ (Lu2 ++ (Lu ++ (Lf ++ L)))) (hS5.perm (by (refine perm_cnt ?_; intro _ a; simp only [List.count_append, List.count_cons, List.cons_append, List.nil_append, List.append_assoc]; try ac_rfl)))) ?_
  rintro _ H6 ⟨rfl, hS6⟩
  dsimp only at hS6
  clear hS5
  by_cases he2 : e2 = 0
  case neg =>
    rw [if_pos he2]
    repeat (first|refine zA ?_|refine zB fun _ _ _=>?_|refine zC fun _ _ _=>?_|refine zD fun _ _=>?_|refine zE ?_|refine zF ?_)
    rw [decide_eq_true he2]
    repeat (first|refine zA ?_|refine zB fun _ _ _=>?_|refine zC fun _ _ _=>?_|refine zD fun _ _=>?_|refine zE ?_|refine zF ?_)
    refine Ev.ret ⟨rfl, _, B5, ⟨hm2.mo.trans (hm4.mo.trans hm5.mo)⟩, ⟨rb, uv, fv, Lu, Lf, Ld5, rfl, hD5, by rw [hw2, hb2]; exact hK, hF, rfl⟩, ?_⟩
    refine (hS6.drop (L' := (rb, ⟨[ptr d 0, i64 turn, .int .i64 root, uv, fv, .bool (dn || decide (e2 = 7))], 84, .fix⟩) :: (Ld5 ++ (Lu ++ (Lf ++ L)))) (.cons_cons _ (List.Sublist.append_left (List.sublist_append_right _ _) _))).perm ?_
    unfold Pgr.told
    dsimp only
    (refine perm_cnt ?_; intro _ a; simp only [List.count_append, List.count_cons, List.cons_append, List.nil_append, List.append_assoc]; try ac_rfl)
  rw [if_neg (by simpa using he2), decide_eq_false (p := e2 = 7) (by omega), Bool.or_false] at *
  repeat (first|refine zA ?_|refine zB fun _ _ _=>?_|refine zC fun _ _ _=>?_|refine zD fun _ _=>?_|refine zE ?_|refine zF ?_)
  rw [decide_eq_false (by simpa using he2)]
  repeat (first | (first|refine zA ?_|refine zB fun _ _ _=>?_|refine zC fun _ _ _=>?_|refine zD fun _ _=>?_|refine zE ?_|refine zF ?_) | rw [decide_eq_true (by omega)] | rw [decide_eq_false (by omega)])
  have hc1 := hw1.barrier
  have hc2 := D2.barrier_n
  refine Ev.b2 (xBarrier_spec (L := (rb, ⟨[ptr d 0, i64 turn, .int .i64 root, uv, fv, .bool dn], 84, .fix⟩) :: (Lu2 ++ (Lu ++ (Lf ++ L)))) hD5 hw1 (by omega) (hS6.perm (by (refine perm_cnt ?_; intro _ a; simp only [List.count_append, List.count_cons, List.cons_append, List.nil_append, List.append_assoc]; try ac_rfl)))) ?_
  generalize D2.barrier = bb at hc1 hc2
  obtain ⟨e3, D3⟩ := bb
  dsimp only at hc1 hc2 ⊢
  rintro _ H7 ⟨rfl, Ld7, B7, hm7, hD7, hS7⟩
  dsimp only at hS7
  clear hS6
  refine Ev.b2 (rtold_spec (L := Ld7 ++ (Lu2 ++ (Lu ++ (Lf ++ L)))) (hS7.perm (by (refine perm_cnt ?_; intro _ a; simp only [List.count_append, List.count_cons, List.cons_append, List.nil_append, List.append_assoc]; try ac_rfl)))) ?_
  rintro _ H8 ⟨rfl, hS8⟩
  dsimp only at hS8
  clear hS7
  have hm8 : MoC B B7 := ⟨hm2.mo.trans (hm4.mo.trans (hm5.mo.trans hm7.mo))⟩
  by_cases he3 : e3 = 0
  case neg =>
    rw [if_pos he3]
    repeat (first|refine zA ?_|refine zB fun _ _ _=>?_|refine zC fun _ _ _=>?_|refine zD fun _ _=>?_|refine zE ?_|refine zF ?_)
    rw [decide_eq_true he3]
    repeat (first|refine zA ?_|refine zB fun _ _ _=>?_|refine zC fun _ _ _=>?_|refine zD fun _ _=>?_|refine zE ?_|refine zF ?_)
    refine Ev.ret ⟨rfl, _, B7, hm8, ⟨rb, uv, fv, Lu, Lf, Ld7, rfl, hD7, by rw [hc2, hw2, hb2]; exact hK, hF, rfl⟩, ?_⟩
    refine (hS8.drop (L' := (rb, ⟨[ptr d 0, i64 turn, .int .i64 root, uv, fv, .bool (dn || decide (e3 = 7))], 84, .fix⟩) :: (Ld7 ++ (Lu ++ (Lf ++ L)))) (.cons_cons _ (List.Sublist.append_left (List.sublist_append_right _ _) _))).perm ?_
    unfold Pgr.told
    dsimp only
    (refine perm_cnt ?_; intro _ a; simp only [List.count_append, List.count_cons, List.cons_append, List.nil_append, List.append_assoc]; try ac_rfl)
  rw [if_neg (by simpa using he3), decide_eq_false (p := e3 = 7) (by omega), Bool.or_false] at *
  repeat (first|refine zA ?_|refine zB fun _ _ _=>?_|refine zC fun _ _ _=>?_|refine zD fun _ _=>?_|refine zE ?_|refine zF ?_)
  rw [decide_eq_false (by simpa using he3)]
  repeat (first | (first|refine zA ?_|refine zB fun _ _ _=>?_|refine zC fun _ _ _=>?_|refine zD fun _ _=>?_|refine zE ?_|refine zF ?_) | rw [decide_eq_true (by omega)] | rw [decide_eq_false (by omega)])
  rename_i H9 hS9
  refine Ev.ret ⟨rfl, _, B7, hm8, ⟨rb, uv2, .slice none 0 0, Lu2, [], Ld7, rfl, hD7, by rw [hc2, hw2, hb2]; exact hK2, FRS.nil, rfl⟩, ?_⟩
  refine (hS9.drop (L' := (rb, ⟨[ptr d 0, i64 (turn + 1), i64 r, uv2, .slice none 0 0, .bool dn], 84, .fix⟩) :: (Ld7 ++ (Lu2 ++ L))) (.cons_cons _ (List.Sublist.append_left (List.Sublist.append_left ((List.sublist_append_right _ _).trans (List.sublist_append_right _ _)) _) _))).perm ?_
  (refine perm_cnt ?_; intro _ a; simp only [List.count_append, List.count_cons, List.cons_append, List.nil_append, List.append_assoc]; try ac_rfl)
theorem rCommit_loop {rb m : Nat} {c0 c1 c2 uv fv uv2 : Value} {root : Value} {U F : List Int} {Lf Lr : List (Nat × Blk)} [IsCell c0] [IsCell c1] [IsCell c2] [IsCell uv] (hF : FR fv F Lf) (hfr : ∀ x ∈ F, 0 ≤ x ∧ x < m) (hl : F.length < 100000) (hsf : ∀ x ∈ Lf, x ∈ Lr) : ∀ (q i : Nat) (H : AH) (Lu2 : List (Nat × Blk)), i + q = F.length →
    UK 4 uv2 (boolC (addAll U (F.take i)) m) Lu2 → St H0 B0 B (Lu2 ++ ((rb, ⟨[c0, c1, c2, uv, fv, .bool false], 84, .fix⟩) :: Lr)) H →
    Ev (fun k K => f15_L0 k (ptr rb 0) root uv2 (i64 i) K H) (fun o => ∃ H' Lu2', o = (.exit 0, f15_X_L0 (ptr rb 0) root uv2, H') ∧ UK 4 uv2 (boolC (addAll U F) m) Lu2' ∧ St H0 B0 B (Lu2' ++ ((rb, ⟨[c0, c1, c2, uv, fv, .bool false], 84, .fix⟩) :: Lr)) H') := by
  intro q
  have hcell := hF.cell
  have hlf := hF.len (Und.eq (P := Tryz.prog) (t := 82))
  induction q with
  | zero =>
    intro i H Lu2 hi hK hS
    refine Ev.succ (fun k K => f15_L0_succ k _ _ _ _ K H) ?_
    have hS2 : St H0 B0 B ((rb, ⟨[c0, c1, c2, uv, fv, .bool false], 84, .fix⟩) :: (Lu2 ++ Lr)) H := hS.perm (by (refine perm_cnt ?_; intro _ a; simp only [List.count_append, List.count_cons, List.cons_append, List.nil_append, List.append_assoc]; try ac_rfl))
    repeat (first|refine zA ?_|refine zB fun _ _ _=>?_|refine zC fun _ _ _=>?_|refine zD fun _ _=>?_|refine zE ?_|refine zF ?_)
    refine Ev.prim hlf ?_
    repeat (first | (first|refine zA ?_|refine zB fun _ _ _=>?_|refine zC fun _ _ _=>?_|refine zD fun _ _=>?_|refine zE ?_|refine zF ?_) | rw [decide_eq_true (by omega)] | rw [decide_eq_false (by omega)])
    rw [List.take_of_length_le (by omega)] at hK
    exact Ev.ret ⟨H, Lu2, rfl, hK, hS⟩
  | succ q ih =>
    intro i H Lu2 hi hK hS
    refine Ev.succ (fun k K => f15_L0_succ k _ _ _ _ K H) ?_
    have hS2 : St H0 B0 B ((rb, ⟨[c0, c1, c2, uv, fv, .bool false], 84, .fix⟩) :: (Lu2 ++ Lr)) H := hS.perm (by (refine perm_cnt ?_; intro _ a; simp only [List.count_append, List.count_cons, List.cons_append, List.nil_append, List.append_assoc]; try ac_rfl))
    repeat (first|refine zA ?_|refine zB fun _ _ _=>?_|refine zC fun _ _ _=>?_|refine zD fun _ _=>?_|refine zE ?_|refine zF ?_)
    refine Ev.prim hlf ?_
    repeat (first | (first|refine zA ?_|refine zB fun _ _ _=>?_|refine zC fun _ _ _=>?_|refine zD fun _ _=>?_|refine zE ?_|refine zF ?_) | rw [decide_eq_true (by omega)] | rw [decide_eq_false (by omega)])
    obtain ⟨x, hx⟩ : ∃ x, F[i]? = some x := ⟨_, List.getElem?_eq_getElem (by omega)⟩
    obtain ⟨h0, h1⟩ := hfr x (List.mem_of_getElem? hx)
    have hst := addAll_step (U := U) hx
    obtain ⟨y, rfl⟩ : ∃ y : Nat, x = y := ⟨x.toNat, by omega⟩
    have hN := hF.now hS2 (fun p hp => .tail _ (List.mem_append_right _ (hsf p hp)))
    refine Ev.ixN (t := 82) (x := i64 y) hN i rfl (by omega) (by unfold intV; rw [List.getElem?_map, hx]; rfl) fun pp hp => ?_
    refine Ev.prim (hp.eq H (Mo.refl H)) ?_
    clear hS2 hN
    obtain ⟨p, H', Lu2', w1, w2, w3, w4⟩ := hK.store (P := Tryz.prog) (t := 81) (i := y) (w := .bool true) hS (by rw [boolC_len]; omega) rfl
    refine Ev.prim (w1 .i64) ?_
    refine Ev.prim w2 ?_
    rw [boolC_set (by omega), ← hst] at w3
    repeat (first | (first|refine zA ?_|refine zB fun _ _ _=>?_|refine zC fun _ _ _=>?_|refine zD fun _ _=>?_|refine zE ?_|refine zF ?_) | rw [decide_eq_true (by omega)] | rw [decide_eq_false (by omega)])
    exact ih (i + 1) H' Lu2' (by omega) w3 w4
theorem rCommit_spec {p xv : Value} {G : Pgr} {D : Dsk} {Ls : List (Nat × Blk)} {root : Int} (hP : RK p xv G D Ls) (hO : D.OK) (hus : ∀ n ∈ G.used, 0 ≤ n ∧ n < (D.n / 2 : Nat)) (hfr : ∀ n ∈ G.fresh, 0 ≤ n ∧ n < (D.n / 2 : Nat)) (hfl : G.fresh.length < 100000) (hm0 : D.n / 2 ≠ 0) (ht : G.turn + 1 < 4611686018427387904) (hc : D.cache.length + 4 < 1000000000000) (hS : St H0 B0 B (Ls ++ L) H) :
    Ev (fun k _ => rn k 15 [p, .int .i64 root] H) (RgP H0 B0 B L p xv (.int .i64 (G.commit D root).1) (G.commit D root).2.1 (G.commit D root).2.2) := by
  have hn2 := hO.n2
  have hP0 := hP
  obtain ⟨rb, uv, fv, Lu, Lf, Ld, rfl, hD, hK, hF, rfl⟩ := hP
  obtain ⟨d, rfl⟩ := hD.ptr
  have hcu := hK.cell
  have hcell := hF.cell
  obtain ⟨turn, root0, U, F, dn⟩ := G
  dsimp only at hF hS hK hus hfr hfl hP0 ht
  refine Ev.fn (fun k => f15_eq k _ _ H) ?_
  simp only [List.cons_append] at hS
  unfold Pgr.commit
  dsimp only
  cases dn with
  | true =>
    rw [if_pos rfl]
    repeat (first|refine zA ?_|refine zB fun _ _ _=>?_|refine zC fun _ _ _=>?_|refine zD fun _ _=>?_|refine zE ?_|refine zF ?_)
    exact Ev.ret ⟨rfl, _, B, ⟨Mo.refl B⟩, hP0, hS⟩
  | false =>
  rw [if_neg (by decide)]
  repeat (first|refine zA ?_|refine zB fun _ _ _=>?_|refine zC fun _ _ _=>?_|refine zD fun _ _=>?_|refine zE ?_|refine zF ?_)
  refine Ev.b2 (rroot_spec (n := root) (m := D.n / 2) hK hF (by omega) ⟨.head _⟩ (fun x hx => .tail _ (List.mem_append_left _ (List.mem_append_left _ hx))) (fun x hx => .tail _ (List.mem_append_left _ (List.mem_append_right _ (List.mem_append_left _ hx)))) (by omega) hS) ?_
  rw [may_eq hus hfr]
  rintro _ _ h
  cases h
  have hal : ∀ x ∈ addAll U F, 0 ≤ x ∧ x < (D.n / 2 : Nat) := fun x hx => by
    rcases (addAll_mem F U x).1 hx with h | h
    · exact hus x h
    · exact hfr x h
  cases hmay : mayR (addAll U F) root with
  | false =>
    rw [if_pos rfl]
    repeat (first|refine zA ?_|refine zB fun _ _ _=>?_|refine zC fun _ _ _=>?_|refine zD fun _ _=>?_|refine zE ?_|refine zF ?_)
    exact Ev.ret ⟨rfl, _, B, ⟨Mo.refl B⟩, hP0, hS⟩
  | true =>
  rw [if_neg (by decide)]
  have hroot : ∃ r : Nat, root = r ∧ r < 65536 := by
    unfold mayR at hmay
    simp only [Bool.or_eq_true, Bool.and_eq_true, decide_eq_true_eq] at hmay
    rcases hmay with h | ⟨h1, h2⟩
    · exact ⟨0, by omega, by decide⟩
    · have := hal root h2
      exact ⟨root.toNat, by omega, by omega⟩
  obtain ⟨r, rfl, hr⟩ := hroot
  repeat (first|refine zA ?_|refine zB fun _ _ _=>?_|refine zC fun _ _ _=>?_|refine zD fun _ _=>?_|refine zE ?_|refine zF ?_)
  have hN := hK.now hS (fun x hx => .tail _ (List.mem_append_left _ (List.mem_append_left _ hx)))
  rw [boolC_len] at hN
  obtain ⟨v2, H2, L2, q1, q2, hS2⟩ := ap_new (P := Tryz.prog) (t := 81) (u := 81) (z := .bool false) rfl (Und.eq (P := Tryz.prog) (t := 81)) hN (boolC_cell _ _) hm0 (by omega) hS
  refine Ev.prim2 q1 ?_
  have hne : boolC U (D.n / 2) ≠ [] := fun h => by have := congrArg List.length h; rw [boolC_len] at this; exact hm0 this
  clear hS hN
  refine Ev.bind (Ev.loop (rCommit_loop (rb := rb) (U := U) (m := D.n / 2) (Lr := Lu ++ (Lf ++ (Ld ++ L))) hF hfr hfl (fun x hx => List.mem_append_right _ (List.mem_append_left _ hx)) F.length 0 H2 L2 (by omega) (q2.uk hne) (hS2.perm (by (refine perm_cnt ?_; intro _ a; simp only [List.count_append, List.count_cons, List.cons_append, List.nil_append, List.append_assoc]; try ac_rfl))))) ?_
  clear hS2
  rintro _ ⟨H3, L3, rfl, hK3, hS3⟩
  refine Ev.eq (fun k _ => f15_A0_x0 k _ _ _ H3) ?_
  refine Ev.b2 (rlay_spec (G := ⟨turn, root0, U, F, false⟩) (p := ptr rb 0) (xv := ptr d 0) (L := L) ⟨rb, uv, fv, Lu, Lf, Ld, rfl, hD, hK, hF, rfl⟩ hO hc ht hr hal hK3 (hS3.perm (by (refine perm_cnt ?_; intro _ a; simp only [List.count_append, List.count_cons, List.cons_append, List.nil_append, List.append_assoc]; try ac_rfl)))) ?_
  rintro _ H4 ⟨rfl, h4⟩
  exact Ev.ret ⟨rfl, h4⟩
end
end Go.AM.E
namespace Go.AM.E
open Go Go.AM Go.Proofs
attribute [local irreducible] run bin un ld st box newV mkS fldA fld ixA ix slc slc3 build buildS cv cvS ap cpy lenV gOp pickV b2 aIf aChk evalK resume iterD Option.bind

section
variable {B B0 H0 H : AH} {L : List (Nat × Blk)}
theorem fuse_ok {D : Dsk} {n : Int} (hO : D.OK) (hn : n < 9223372036854775808) : ({ D with fuse := max n (-1) } : Dsk).OK := ⟨hO.n1, hO.n2, hO.len, hO.ca, by show -1 ≤ max n (-1) ∧ max n (-1) < _; omega⟩
theorem FuseP_spec {p dv : Value} {G : Pgr} {D : Dsk} {Ls : List (Nat × Blk)} {n : Int} (hP : PK p dv G D Ls) (hS : St H0 B0 B (Ls ++ L) H) :
    Ev (fun k _ => rn k 13 [dv, .int .i64 n] H) (PgP H0 B0 B L p dv (.tuple #[]) G { D with fuse := max n (-1) }) := by
  obtain ⟨pb, mb, fv, Lf, Ld, rfl, hD, hF, rfl⟩ := hP
  obtain ⟨d, bb, cv, Lc, rfl, hG, rfl⟩ := hD
  have hcell := hF.cell
  have hcell2 := hG.cell
  refine Ev.fn (fun k => f13_eq k _ _ H) ?_
  refine Ev.prim (show fold1 maxV [.int .i64 n, .int .i64 (-1)] = some (.int .i64 (max n (-1))) from max_int) ?_
  have hS1 := hS.perm (L' := (d, ⟨[sl bb 0 (64 * D.n) (64 * D.n), cv, .int .i64 D.fuse, .bool D.down], 98, .fix⟩) :: (pb, ⟨[i64 G.turn, .int .i64 G.root, .map (some mb), ptr d 0, fv, .bool G.down], 103, .fix⟩) :: (mb, ⟨entI G.used, 99, .map⟩) :: (bb, ⟨byts D.bytes, 5, .fix⟩) :: (Lf ++ (Lc ++ L))) (by (refine perm_cnt ?_; intro _ a; simp only [List.count_append, List.count_cons, List.cons_append, List.nil_append, List.append_assoc]; try ac_rfl))
  clear hS
  repeat (first|refine zA ?_|refine zB fun _ _ _=>?_|refine zC fun _ _ _=>?_|refine zD fun _ _=>?_|refine zE ?_|refine zF ?_)
  rename_i H2 hS2
  exact Ev.ret ⟨rfl, _, B, ⟨Mo.refl B⟩, ⟨pb, mb, fv, Lf, _, rfl, ⟨d, bb, cv, Lc, rfl, hG, rfl⟩, hF, rfl⟩, hS2.perm (by (refine perm_cnt ?_; intro _ a; simp only [List.count_append, List.count_cons, List.cons_append, List.nil_append, List.append_assoc]; try ac_rfl))⟩
theorem rFuse_step {R : Type} {p : Value} {x : Nat} {G : Pgr} {D : Dsk} {Ls : List (Nat × Blk)} {n : Int} {f : Nat → Nat → AH → Option R} {Q : R → Prop} (hn : -9223372036854775808 ≤ n) (hP : RK p (ptr x 0) G D Ls) (hS : St H0 B0 B (Ls ++ L) H)
    (h : ∀ Ls' H', RK p (ptr x 0) G { D with fuse := max n (-1) } Ls' → St H0 B0 B (Ls' ++ L) H' → Ev (fun k i => f k i H') Q) :
    Ev (fun k i => (st Tryz.prog 3 H (ptr x 2) (.int .i64 n)).bind fun H' => f k i H') Q := by
  obtain ⟨rb, uv, fv, Lu, Lf, Ld, rfl, hD, hK, hF, rfl⟩ := hP
  obtain ⟨x', sv, cv, fx, Ls1, Lc, hx, hfx, hf1, hG1, hG2, rfl⟩ := hD
  cases hx
  have hcu := hK.cell
  have hcell := hF.cell
  have hcell1 := hG1.cell
  have hcell2 := hG2.cell
  have hS1 := hS.perm (L' := (x, ⟨[sv, cv, .int .i64 fx, .bool D.down], 54, .fix⟩) :: (rb, ⟨[ptr x 0, i64 G.turn, .int .i64 G.root, uv, fv, .bool G.down], 84, .fix⟩) :: (Lu ++ (Lf ++ (Ls1 ++ (Lc ++ L))))) (by (refine perm_cnt ?_; intro _ a; simp only [List.count_append, List.count_cons, List.cons_append, List.nil_append, List.append_assoc]; try ac_rfl))
  clear hS
  repeat (first|refine zA ?_|refine zB fun _ _ _=>?_|refine zC fun _ _ _=>?_|refine zD fun _ _=>?_|refine zE ?_|refine zF ?_)
  rename_i H2 hS2
  exact h _ H2 ⟨rb, uv, fv, Lu, Lf, _, rfl, ⟨x, sv, cv, n, Ls1, Lc, rfl, rfl, hn, hG1, hG2, rfl⟩, hK, hF, rfl⟩ (hS2.perm (by (refine perm_cnt ?_; intro _ a; simp only [List.count_append, List.count_cons, List.cons_append, List.nil_append, List.append_assoc]; try ac_rfl)))
theorem likeP_spec {p dv r xv : Value} {G : Pgr} {D : Dsk} {Lp Lr : List (Nat × Blk)} (hP : PK p dv G D Lp) (hR : RK r xv G D Lr) (hO : D.OK) (hc : D.cache.length < 1000000000000) (hS : St H0 B0 B (Lp ++ (Lr ++ L)) H) :
    Ev (fun k _ => rn k 20 [dv, xv] H) (fun o => o.1 = .bool true ∧ ∃ B', MoC B B' ∧ St H0 B0 B' (Lp ++ (Lr ++ L)) o.2) := by
  obtain ⟨pb, mb, fv, Lf, Ld, rfl, hD, hF, rfl⟩ := hP
  obtain ⟨rb, uv, fv2, Lu, Lf2, Ld2, rfl, hX, hK, hF2, rfl⟩ := hR
  refine (like_spec (L := (pb, ⟨[i64 G.turn, .int .i64 G.root, .map (some mb), dv, fv, .bool G.down], 103, .fix⟩) :: (mb, ⟨entI G.used, 99, .map⟩) :: (rb, ⟨[xv, i64 G.turn, .int .i64 G.root, uv, fv2, .bool G.down], 84, .fix⟩) :: (Lf ++ (Lu ++ (Lf2 ++ L)))) hD hX hO hc (hS.perm (by (refine perm_cnt ?_; intro _ a; simp only [List.count_append, List.count_cons, List.cons_append, List.nil_append, List.append_assoc]; try ac_rfl)))).mono ?_
  rintro o ⟨h, B', hm', hS'⟩
  exact ⟨h, B', hm', hS'.perm (by (refine perm_cnt ?_; intro _ a; simp only [List.count_append, List.count_cons, List.cons_append, List.nil_append, List.append_assoc]; try ac_rfl))⟩
end
end Go.AM.E
namespace Go.AM
open Go.ChangeShapes Go.WideShapes Go.Deep Go.RowKit
variable {P : Program}

structure Ro (P : Program) (W : World) (m : Mp) (H : AH) : Prop where
  rel : Rel P W.heap.size W m H W
  ro : ∀ b k, blk H b = some k → k.kind = .ro
def Sub (m m' : Mp) : Prop := ∀ b L, m b = some L → m' b = some L
theorem Sub.refl (m : Mp) : Sub m m := fun _ _ h => h
theorem Sub.trans {a b c : Mp} (h : Sub a b) (k : Sub b c) : Sub a c := fun x L hx => k x L (h x L hx)
theorem Ro.empty (W : World) : Ro P W (fun _ => none) [] :=
  ⟨⟨Below.refl _ _, Nat.le_refl _, fun _ _ h => (by cases h), fun _ _ _ h => (by cases h), fun _ _ _ _ _ _ h => (by cases h)⟩, fun b k h => (by simp [blk] at h)⟩
def SlOK (W : World) (cs : List Value) : Prop := ∀ a len cap, Value.slice (some a) len cap ∈ cs → a.spot = none ∧ ∃ c e fr, W.heap[a.block]? = some (.cells c e fr)

theorem Ro.add {W : World} {m : Mp} {H : AH} {ks : List Value} {e : TypeId} {bl base : Nat} {c : Array Value} {te : TypeId} {fr : Nat × Nat} (R : Ro P W m H) (hb : W.heap[bl]? = some (.cells c te fr))
    (hl : LRel m ks ((c.toList.drop base).take ks.length)) :
    ∃ m' : Mp, Sub m m' ∧ m' H.length = some ⟨bl, base, .ro, 0, 0⟩ ∧ Ro P W m' (mkB H ks e .ro) := by
  refine ⟨fun b => if b = H.length then some ⟨bl, base, .ro, 0, 0⟩ else m b, ?_, if_pos rfl, ?_⟩
  · intro b L h
    have := (R.rel.dom b L h).1
    show (if b = H.length then _ else m b) = _
    rw [if_neg (by omega)]; exact h
  have hsub : Sub m (fun b => if b = H.length then some ⟨bl, base, .ro, 0, 0⟩ else m b) := by
    intro b L h
    have := (R.rel.dom b L h).1
    show (if b = H.length then _ else m b) = _
    rw [if_neg (by omega)]; exact h
  have hro : ∀ b k, blk (mkB H ks e .ro) b = some k → k.kind = .ro := by
    intro b k h
    by_cases hbn : b < H.length
    · rw [blk_mkB_old hbn] at h; exact R.ro b k h
    · have := blk_lt h
      rw [length_mkB] at this
      have : b = H.length := by omega
      subst this
      rw [blk_mkB_new] at h; cases h; rfl
  refine ⟨⟨R.rel.below, R.rel.hB, ?_, ?_, ?_⟩, hro⟩
  · intro b L h
    replace h : (if b = H.length then some _ else m b) = some L := h
    rw [length_mkB]
    by_cases hb2 : b = H.length
    · rw [if_pos hb2] at h; cases h
      exact ⟨by omega, (Array.getElem?_eq_some_iff.1 hb).1⟩
    · rw [if_neg hb2] at h
      have := R.rel.dom b L h
      exact ⟨by omega, this.2⟩
  · intro b L k h hk
    replace h : (if b = H.length then some _ else m b) = some L := h
    by_cases hb2 : b = H.length
    · rw [if_pos hb2] at h; cases h
      subst hb2
      rw [blk_mkB_new] at hk; cases hk
      exact ⟨rfl, fun _ => ⟨c, te, fr, hb, hl.mono hsub, fun hh => absurd rfl hh, fun hh => (by cases hh), fun hh => (by cases hh), fun hh => (by cases hh), fun hh => (by cases hh)⟩, fun hh => (by cases hh), fun _ _ hh => (by cases hh), fun hh => absurd rfl hh, fun hh => (by cases hh)⟩
    · rw [if_neg hb2] at h
      have hlt := (R.rel.dom b L h).1
      rw [blk_mkB_old hlt] at hk
      have h1 := R.rel.blks b L k h hk
      exact h1.at hsub rfl
  · intro b1 b2 L1 L2 k1 k2 _ _ h1 _ hne _
    exact absurd (hro b1 k1 h1) hne

structure Kn (α : Type) where
  K : AH → α → List Value → Prop
  mono : ∀ {H H' : AH} {a : α} {cs : List Value}, Mo H H' → K H a cs → K H' a cs
def Kn.int (k : IntKind) : Kn Int := ⟨fun _ n cs => cs = [.int k n], fun _ h => h⟩
def Kn.string : Kn ByteArray := ⟨fun _ n cs => cs = [.string n], fun _ h => h⟩
def Kn.pair {α β : Type} (a : Kn α) (b : Kn β) : Kn (α × β) :=
  ⟨fun H x cs => ∃ c d, cs = c ++ d ∧ a.K H x.1 c ∧ b.K H x.2 d, fun hm ⟨c, d, h, h1, h2⟩ => ⟨c, d, h, a.mono hm h1, b.mono hm h2⟩⟩
def Kn.unit : Kn Unit := ⟨fun _ _ cs => cs = [], fun _ h => h⟩
def Kn.slice {α : Type} (e : TypeId) (sz : Nat) (d : Kn α) : Kn (List α) :=
  ⟨fun H l cs => (cs = [.slice none 0 0] ∧ l = []) ∨ ∃ (b : Nat) (css : List (List Value)), cs = [sl b 0 l.length (l.length + 1)] ∧ blk H b = some ⟨css.flatten, e, .ro⟩ ∧ css.length = l.length ∧ ∀ (i : Nat) (a : α) (c : List Value), l[i]? = some a → css[i]? = some c → c.length = sz ∧ d.K H a c,
   by
    intro H H' l cs hm h
    rcases h with h | ⟨b, css, h1, h2, h3, h4⟩
    · exact .inl h
    · exact .inr ⟨b, css, h1, hm _ _ h2, h3, fun i a c h5 h6 => ⟨(h4 i a c h5 h6).1, d.mono hm (h4 i a c h5 h6).2⟩⟩⟩
def OpA (P : Program) (t : TypeId) {α : Type} (d : Kn α) (G : α → Prop) : Prop :=
  ∀ (Hh : Type) (enc : TypeId × Value → Hh) (W : World) (spare : Nat → Bool) (held : Bool) (fuel : Nat) (cs : List Value) (x : DataW Hh × List MemPlace),
    DataW.trod enc P W 0 spare held fuel t cs = some x → SlOK W cs → ∀ (m : Mp) (H : AH), Ro P W m H →
    ∃ m' H' cs' a, Ro P W m' H' ∧ Sub m m' ∧ Fr H H' ∧ LRel m' cs' cs ∧ d.K H' a cs' ∧ G a
theorem LRel.one {m : Mp} {x y : Value} (h : VRel m x y) : LRel m [x] [y] := LRel.cons h (LRel.nil m)
theorem opA_int {t : TypeId} {k : IntKind} (ht : P.underlying t = some (.int k)) : OpA P t (Kn.int k) (fun n => (Lit.int k n).wf = true) := by
  intro Hh enc W spare held fuel cs x h _ m H R
  obtain ⟨n, rfl, _, hw⟩ := DataW.trod_int ht h
  exact ⟨m, H, _, n, R, Sub.refl m, Fr.refl H, LRel.one (.flat _ rfl), rfl, hw⟩
theorem opA_string {t : TypeId} (ht : P.underlying t = some .string) : OpA P t Kn.string (fun s => s.size ≤ maxLen) := by
  intro Hh enc W spare held fuel cs x h _ m H R
  obtain ⟨n, rfl, _, hw⟩ := DataW.trod_string ht h
  exact ⟨m, H, _, n, R, Sub.refl m, Fr.refl H, LRel.one (.flat _ rfl), rfl, hw⟩
def NoSl (P : Program) (t : TypeId) : Prop :=
  ∀ (Hh : Type) (enc : TypeId × Value → Hh) (W : World) (spare : Nat → Bool) (held : Bool) (fuel : Nat) (cs : List Value) (x : DataW Hh × List MemPlace), DataW.trod enc P W 0 spare held fuel t cs = some x → SlOK W cs
theorem noSl_int {t : TypeId} {k : IntKind} (ht : P.underlying t = some (.int k)) : NoSl P t := by
  intro Hh enc W spare held fuel cs x h
  obtain ⟨n, rfl, _, hw⟩ := DataW.trod_int ht h
  intro a l c hm; simp at hm
theorem flatten_snoc {α : Type} (l : List (List α)) (x : List α) : (l ++ [x]).flatten = l.flatten ++ x := by simp
theorem opA_slice {t e : TypeId} {α : Type} {d : Kn α} {G : α → Prop} {sz : Nat} (ht : P.underlying t = some (.slice e)) (hsz : P.cellsOf e = sz) (he : OpA P e d G) (hn : NoSl P e) :
    OpA P t (Kn.slice e sz d) (fun l => l.length ≤ maxLen ∧ ∀ x ∈ l, G x) := by
  intro Hh enc W spare held fuel cs x h hs m H R
  rcases open_slice ht h with ⟨rfl, _⟩ | ⟨a, len, cap, mm, n, D, Pl, rfl, _, hlc, hcm, hm, _, hel⟩
  · exact ⟨m, H, [.slice none 0 0], [], R, Sub.refl m, Fr.refl H, LRel.one (.flat _ rfl), Or.inl ⟨rfl, rfl⟩, by simp, fun x hx => by simp at hx⟩
  · have hlm : len ≤ mm := by rw [hm]; split <;> omega
    obtain ⟨hsp, c, te, fr, hb⟩ := hs a len cap (by simp)
    have hcell : ∀ i, i < mm → ∃ cs', cs' = (c.toList.drop (a.off + i * sz)).take sz ∧ cs'.length = sz ∧ DataW.trod enc P W 0 spare held n e cs' = some (D i, Pl i) := by
      intro i hi
      obtain ⟨cs', h1, h2⟩ := hel i hi
      obtain ⟨_, h3, h4⟩ := World.cells?_some h1
      rw [hsz] at h3 h4
      refine ⟨cs', ?_, h3, h2⟩
      apply List.ext_getElem?
      intro j
      by_cases hj : j < sz
      · rw [List.getElem?_take_of_lt hj, List.getElem?_drop, ← h4 j hj]
        have e1 : (a.add (i * sz)).add j = a.add (i * sz + j) := add_add _ _ _
        have e2 : (a.add (i * sz + j)).block = a.block ∧ (a.add (i * sz + j)).spot = none ∧ (a.add (i * sz + j)).off = a.off + (i * sz + j) := by
          unfold Addr.add
          by_cases h0 : i * sz + j = 0
          · rw [if_pos h0, h0]; exact ⟨rfl, hsp, rfl⟩
          · rw [if_neg h0]; exact ⟨rfl, rfl, rfl⟩
        rw [e1]
        unfold World.cell?
        rw [e2.1, hb]
        simp only [e2.2.1, e2.2.2]
        simp [Nat.add_assoc]
      · rw [List.getElem?_eq_none (by omega), List.getElem?_eq_none (by rw [List.length_take]; omega)]
    have key : ∀ q, q ≤ len → ∃ (m' : Mp) (H' : AH) (l : List α) (css : List (List Value)), Ro P W m' H' ∧ Sub m m' ∧ Fr H H' ∧ l.length = q ∧ css.length = q ∧ (∀ x ∈ l, G x) ∧ css.flatten.length = q * sz ∧ LRel m' css.flatten ((c.toList.drop a.off).take (q * sz)) ∧
        ∀ (i : Nat) (y : α) (c : List Value), l[i]? = some y → css[i]? = some c → c.length = sz ∧ d.K H' y c := by
      intro q
      induction q with
      | zero => exact fun _ => ⟨m, H, [], [], R, Sub.refl m, Fr.refl H, rfl, rfl, fun x hx => by simp at hx, by simp, by simpa using LRel.nil m, fun i y c h => by simp at h⟩
      | succ q ih =>
        intro hq
        obtain ⟨m1, H1, l, css, R1, s1, f1, hl, hcs, hG, hfl, hLR, hK⟩ := ih (by omega)
        obtain ⟨cs', e1, e2, e3⟩ := hcell q (by omega)
        obtain ⟨m2, H2, ds, y, R2, s2, f2, hLR2, hK2, hG2⟩ := he Hh enc W spare held n cs' _ e3 (hn Hh enc W spare held n cs' _ e3) m1 H1 R1
        refine ⟨m2, H2, l ++ [y], css ++ [ds], R2, s1.trans s2, f1.trans f2, by simp [hl], by simp [hcs], ?_, ?_, ?_, ?_⟩
        · intro x hx
          rcases List.mem_append.1 hx with hx | hx
          · exact hG x hx
          · simp at hx; subst hx; exact hG2
        · rw [flatten_snoc, List.length_append, hfl, hLR2.1, e2, Nat.succ_mul]
        · rw [flatten_snoc, Nat.succ_mul, List.take_add, List.drop_drop, ← e1]
          exact (hLR.mono s2).append hLR2
        · intro i y' c' h1 h2
          by_cases hi : i < q
          · rw [List.getElem?_append_left (by omega)] at h1 h2
            exact ⟨(hK i y' c' h1 h2).1, d.mono f2.mo (hK i y' c' h1 h2).2⟩
          · have hi2 := (List.getElem?_eq_some_iff.1 h1).1
            have : i = q := by simp [hl] at hi2; omega
            subst this
            rw [List.getElem?_append_right (by omega), hl, Nat.sub_self] at h1
            rw [List.getElem?_append_right (by omega), hcs, Nat.sub_self] at h2
            simp at h1 h2
            subst h1 h2
            exact ⟨by rw [hLR2.1, e2], hK2⟩
    obtain ⟨m1, H1, l, css, R1, s1, f1, hl, hcs, hG, hfl, hLR, hK⟩ := key len (Nat.le_refl _)
    obtain ⟨m2, s2, hm2, R2⟩ := R1.add (ks := css.flatten) (e := e) (base := a.off) hb (by rw [hfl]; exact hLR)
    have fnew : Fr H1 (mkB H1 css.flatten e .ro) := ⟨by rw [length_mkB]; omega, fun b hb => blk_mkB_old hb⟩
    refine ⟨m2, mkB H1 css.flatten e .ro, [sl H1.length 0 l.length (l.length + 1)], l, R2, s1.trans s2, f1.trans fnew, ?_, Or.inr ⟨H1.length, css, rfl, blk_mkB_new, by omega, fun i y c h1 h2 => ⟨(hK i y c h1 h2).1, d.mono fnew.mo (hK i y c h1 h2).2⟩⟩, by omega, hG⟩
    refine LRel.one ?_
    rw [hl]
    have ea : a = ⟨a.block, a.off, none⟩ := by rw [← hsp]
    rw [ea]
    exact .slice H1.length 0 a.off len (len + 1) cap ⟨a.block, a.off, .ro, 0, 0⟩ hm2 rfl (by omega) hlc (.inl (by simp)) (fun h => (by cases h)) (fun h => (by cases h)) (fun _ => .inl (by omega))

def OpFs (P : Program) (fs : List Field) (off tot : Nat) {α : Type} (d : Kn α) (G : α → Prop) : Prop :=
  ∀ (Hh : Type) (enc : TypeId × Value → Hh) (W : World) (spare : Nat → Bool) (held : Bool) (fuel : Nat) (cs : List Value),
    (∀ f ∈ fs, ∃ x, DataW.trod enc P W 0 spare held fuel f.type ((cs.drop f.offset).take (P.cellsOf f.type)) = some x) → cs.length = tot → SlOK W cs → ∀ (m : Mp) (H : AH), Ro P W m H →
    ∃ m' H' cs' a, Ro P W m' H' ∧ Sub m m' ∧ Fr H H' ∧ LRel m' cs' (cs.drop off) ∧ d.K H' a cs' ∧ G a
theorem opFs_nil {off : Nat} : OpFs P [] off off Kn.unit (fun _ => True) := by
  intro Hh enc W spare held fuel cs _ hl hs m H R
  refine ⟨m, H, [], (), R, Sub.refl m, Fr.refl H, ?_, rfl, trivial⟩
  rw [List.drop_eq_nil_of_le (by omega)]; exact LRel.nil m
theorem opFs_cons {f : Field} {fs : List Field} {off tot sz : Nat} {α β : Type} {a : Kn α} {b : Kn β} {G0 : α → Prop} {G1 : β → Prop} (ho : f.offset = off) (hc : P.cellsOf f.type = sz) (A : OpA P f.type a G0)
    (B : OpFs P fs (off + sz) tot b G1) : OpFs P (f :: fs) off tot (Kn.pair a b) (fun x => G0 x.1 ∧ G1 x.2) := by
  intro Hh enc W spare held fuel cs hf hl hs m H R
  obtain ⟨x, hx⟩ := hf f (by simp)
  rw [ho, hc] at hx
  obtain ⟨m1, H1, c1, y1, R1, s1, f1, l1, k1, g1⟩ := A Hh enc W spare held fuel _ x hx (fun a l c h => hs a l c (List.mem_of_mem_drop (List.mem_of_mem_take h))) m H R
  obtain ⟨m2, H2, c2, y2, R2, s2, f2, l2, k2, g2⟩ := B Hh enc W spare held fuel cs (fun g hg => hf g (by simp [hg])) hl hs m1 H1 R1
  refine ⟨m2, H2, c1 ++ c2, (y1, y2), R2, s1.trans s2, f1.trans f2, ?_, ⟨c1, c2, rfl, a.mono f2.mo k1, k2⟩, g1, g2⟩
  have := (l1.mono s2).append l2
  rw [← List.drop_drop, List.take_append_drop] at this
  exact this
theorem opA_struct {t : TypeId} {fs : List Field} {tot : Nat} {α : Type} {d : Kn α} {G : α → Prop} (ht : P.underlying t = some (.struct ⟨fs⟩)) (hc : P.cellsOf t = tot) (A : OpFs P fs 0 tot d G) : OpA P t d G := by
  intro Hh enc W spare held fuel cs x h hs m H R
  obtain ⟨xs, n, _, rfl, hl, hlen, hf⟩ := DataW.trod_struct ht h
  refine A Hh enc W spare held n cs (fun f hfm => ?_) (by rw [hl, hc]) hs m H R
  obtain ⟨i, hi, he⟩ := List.mem_iff_getElem.1 hfm
  have h1 := hf i f (by simp [← he, hi])
  rw [h1]
  have : i < xs.length := by rw [hlen]; simpa using hi
  exact ⟨_, List.getElem?_eq_getElem this⟩
theorem noFs {fs : List Field} {Hh : Type} {enc : TypeId × Value → Hh} {W : World} {spare : Nat → Bool} {held : Bool} {n : Nat} {cs : List Value} :
    ∀ (fs : List Field) (off : Nat), (∀ f ∈ fs, NoSl P f.type) → (∀ f ∈ fs, ∃ x, DataW.trod enc P W 0 spare held n f.type ((cs.drop f.offset).take (P.cellsOf f.type)) = some x) →
    (∀ i, off ≤ i → i < cs.length → ∃ f ∈ fs, f.offset ≤ i ∧ i < f.offset + P.cellsOf f.type) → SlOK W (cs.drop off) := by
  intro fs off h1 h2 h3 a l c hm
  obtain ⟨i, hi⟩ := List.getElem?_of_mem hm
  rw [List.getElem?_drop] at hi
  have hlt := (List.getElem?_eq_some_iff.1 hi).1
  obtain ⟨f, hf, h4, h5⟩ := h3 (off + i) (by omega) hlt
  obtain ⟨x, hx⟩ := h2 f hf
  refine h1 f hf Hh enc W spare held n _ x hx a l c ?_
  refine List.mem_of_getElem? (i := off + i - f.offset) ?_
  rw [List.getElem?_take_of_lt (by omega), List.getElem?_drop, show f.offset + (off + i - f.offset) = off + i by omega]
  exact hi
theorem noSl_struct {t : TypeId} {fs : List Field} (ht : P.underlying t = some (.struct ⟨fs⟩)) (h1 : ∀ f ∈ fs, NoSl P f.type) (h3 : ∀ i, i < P.cellsOf t → ∃ f ∈ fs, f.offset ≤ i ∧ i < f.offset + P.cellsOf f.type) : NoSl P t := by
  intro Hh enc W spare held fuel cs x h
  obtain ⟨xs, n, _, rfl, hl, hlen, hf⟩ := DataW.trod_struct ht h
  have := noFs (fs := fs) (enc := enc) (W := W) (spare := spare) (held := held) (n := n) (cs := cs) fs 0 h1 (fun f hfm => by
    obtain ⟨i, hi, he⟩ := List.mem_iff_getElem.1 hfm
    have h1 := hf i f (by simp [← he, hi])
    rw [h1]
    have : i < xs.length := by rw [hlen]; simpa using hi
    exact ⟨_, List.getElem?_eq_getElem this⟩) (fun i _ hi => h3 i (by omega))
  simpa using this

theorem slOK_cell {W : World} {base : Nat} {u : TypeId} {a : Addr} {len cap : Nat} (h : Cell.okWide P W .any base u (.slice (some a) len cap)) : a.spot = none ∧ ∃ c e fr, W.heap[a.block]? = some (.cells c e fr) := by
  have hc : ∃ e n, W.has P .any base a e n := by
    unfold Cell.okWide at h
    cases hu : P.underlying u with
    | none => rw [hu] at h; simp [Cell.ok, hu] at h
    | some D =>
      rw [hu] at h
      cases D <;> simp [Cell.ok, hu] at h
      exact ⟨_, _, h.2.2⟩
  obtain ⟨e, n, hh⟩ := hc
  obtain ⟨_, h1, row, cells, h2, _⟩ := hh
  refine ⟨h1, ?_⟩
  unfold World.shape? at h2
  split at h2
  · rename_i c' e' fr' hb; exact ⟨c', e', fr', hb⟩
  · cases h2
theorem slOK_of {W : World} {base : Nat} {t : TypeId} {v : Value} (h : Value.okWide P W .any base t v) : SlOK W v.cells.toList := by
  intro a len cap hm
  have key : (∃ u, Cell.okWide P W .any base u (.slice (some a) len cap)) := by
    unfold Value.okWide at h
    split at h
    · obtain ⟨cs, rfl, _, ts, _, _, hr⟩ := h
      obtain ⟨i, hi⟩ := List.getElem?_of_mem hm
      obtain ⟨u, _, hu⟩ := hr i _ (by simpa [Value.cells] using hi)
      exact ⟨u, hu⟩
    · obtain ⟨cs, rfl, _, ts, _, _, hr⟩ := h
      obtain ⟨i, hi⟩ := List.getElem?_of_mem hm
      obtain ⟨u, _, hu⟩ := hr i _ (by simpa [Value.cells] using hi)
      exact ⟨u, hu⟩
    · cases v with
      | agg cs =>
        exfalso
        unfold Cell.okWide at h
        cases hu : P.underlying t with
        | none => rw [hu] at h; simp [Cell.ok, hu] at h
        | some D => rw [hu] at h; cases D <;> simp [Cell.ok, hu] at h
      | slice p l c =>
        simp [Value.cells] at hm
        obtain ⟨rfl, rfl, rfl⟩ := hm
        exact ⟨t, h⟩
      | _ => simp [Value.cells] at hm
  obtain ⟨u, hu⟩ := key
  exact slOK_cell hu
structure OpV (P : Program) (t : TypeId) {α : Type} (d : Kn α) (G : α → Prop) (KV : AH → α → Value → Prop) : Prop where
  op : OpA P t d G
  val : ∀ (W : World) (base : Nat) (v : Value), Value.okWide P W .any base t v → (∃ cs, v = .agg cs) ∧ (∀ H a cs, d.K H a cs → KV H a (.agg cs.toArray)) ∨ v.cells = #[v] ∧ (∀ H a v, d.K H a [v] → KV H a v)
  mono : ∀ {H H' : AH} {a : α} {v : Value}, Mo H H' → KV H a v → KV H' a v
def KvS {α : Type} (d : Kn α) (H : AH) (a : α) (v : Value) : Prop := ∃ cs, v = .agg cs.toArray ∧ d.K H a cs
def KvC {α : Type} (d : Kn α) (H : AH) (a : α) (v : Value) : Prop := d.K H a [v]
theorem opV_struct {t : TypeId} {fs : Array Field} {α : Type} {d : Kn α} {G : α → Prop} (ht : P.underlying t = some (.struct fs)) (A : OpA P t d G) : OpV P t d G (KvS d) := by
  refine ⟨A, fun W base v h => .inl ⟨?_, fun H a cs h => ⟨cs, rfl, h⟩⟩, fun hm ⟨cs, h1, h2⟩ => ⟨cs, h1, d.mono hm h2⟩⟩
  unfold Value.okWide at h
  rw [ht] at h
  obtain ⟨cs, rfl, _⟩ := h
  exact ⟨cs, rfl⟩
theorem opV_cell {t : TypeId} {D : TypeDesc} {α : Type} {d : Kn α} {G : α → Prop} (ht : P.underlying t = some D) (hD : (∀ fs, D ≠ .struct fs) ∧ ∀ n e, D ≠ .array n e) (A : OpA P t d G) : OpV P t d G (KvC d) := by
  refine ⟨A, fun W base v h => .inr ⟨?_, fun H a v h => h⟩, fun hm h => d.mono hm h⟩
  unfold Value.okWide at h
  rw [ht] at h
  have h' : Cell.okWide P W .any base t v := by
    cases D with
    | struct fs => exact absurd rfl (hD.1 fs)
    | array n e => exact absurd rfl (hD.2 n e)
    | _ => exact h
  cases v with
  | agg cs =>
    exfalso
    unfold Cell.okWide at h'
    rw [ht] at h'
    cases D <;> simp [Cell.ok, ht] at h'
  | _ => rfl
structure OpAs (P : Program) (ts : List TypeId) {α : Type} (G : α → Prop) (KV : AH → α → List Value → Prop) : Prop where
  op : ∀ (Hh : Type) (enc : TypeId × Value → Hh) (W : World) (base : Nat) (spare : Nat → Bool) (held : Bool) (vs : List Value) (ds : List (DataW Hh)) (ps : List MemPlace),
    DataW.TrodAll enc P W 0 spare held ts vs ds ps → (∀ (j : Nat) t v, ts[j]? = some t → vs[j]? = some v → Value.okWide P W .any base t v) → ∀ (m : Mp) (H : AH), Ro P W m H →
    ∃ m' H' vs' a, Ro P W m' H' ∧ Sub m m' ∧ Fr H H' ∧ LRel m' vs' vs ∧ KV H' a vs' ∧ G a
  mono : ∀ {H H' : AH} {a : α} {vs : List Value}, Mo H H' → KV H a vs → KV H' a vs
theorem opAs_nil : OpAs P [] (fun _ : Unit => True) (fun _ _ vs => vs = []) := by
  refine ⟨?_, fun _ h => h⟩
  intro Hh enc W base spare held vs ds ps h _ m H R
  obtain ⟨rfl, rfl, rfl⟩ := trodAll_nil h
  exact ⟨m, H, [], (), R, Sub.refl m, Fr.refl H, LRel.nil m, rfl, trivial⟩
theorem opAs_cons {t : TypeId} {ts : List TypeId} {α β : Type} {d : Kn α} {G : α → Prop} {KV : AH → α → Value → Prop} {G' : β → Prop} {KV' : AH → β → List Value → Prop} (A : OpV P t d G KV) (B : OpAs P ts G' KV') :
    OpAs P (t :: ts) (fun x : α × β => G x.1 ∧ G' x.2) (fun H x vs => ∃ v vs', vs = v :: vs' ∧ KV H x.1 v ∧ KV' H x.2 vs') := by
  refine ⟨?_, fun hm ⟨v, vs', h1, h2, h3⟩ => ⟨v, vs', h1, A.mono hm h2, B.mono hm h3⟩⟩
  intro Hh enc W base spare held vs ds ps h hv m H R
  obtain ⟨v, vs', d0, ds', p, q, rfl, rfl, rfl, ⟨fuel, h0⟩, hr⟩ := trodAll_cons h
  have hok := hv 0 t v rfl rfl
  obtain ⟨m2, H2, us, y2, R2, s2, f2, l2, k2, g2⟩ := B.op Hh enc W base spare held vs' ds' q hr (fun j t' v' h1 h2 => hv (j + 1) t' v' h1 h2) m H R
  obtain ⟨m1, H1, cs', y1, R1, s1, f1, l1, k1, g1⟩ := A.op Hh enc W spare held fuel _ _ h0 (slOK_of hok) m2 H2 R2
  rcases A.val W base v hok with ⟨⟨cs, rfl⟩, hk⟩ | ⟨hc, hk⟩
  · exact ⟨m1, H1, .agg cs'.toArray :: us, (y1, y2), R1, s2.trans s1, f2.trans f1, LRel.cons (VRel.aggL (by simpa [Value.cells] using l1)) (l2.mono s1), ⟨_, _, rfl, hk _ _ _ k1, B.mono f1.mo k2⟩, g1, g2⟩
  · rw [hc] at l1
    obtain ⟨x, rfl⟩ : ∃ x, cs' = [x] := List.length_eq_one_iff.1 l1.1
    exact ⟨m1, H1, x :: us, (y1, y2), R1, s2.trans s1, f2.trans f1, LRel.cons (l1.2 0 x v rfl rfl) (l2.mono s1), ⟨_, _, rfl, hk _ _ _ k1, B.mono f1.mo k2⟩, g1, g2⟩
theorem rgFind_mem : ∀ (l : List (Array Tmp × Code × Code)) (x : Array Tmp × Code × Code), nodupB (l.map fun x => firstId x.2.2) = true → x ∈ l → rgFind (firstId x.2.2) l = some x
  | [], x, _, h => by cases h
  | y :: l, x, hn, h => by
    simp only [List.map_cons, nodupB, Bool.and_eq_true, Bool.not_eq_true'] at hn
    unfold rgFind
    cases h with
    | head => simp
    | tail _ h =>
      have hne : (firstId y.2.2 == firstId x.2.2) = false := by
        cases he : firstId y.2.2 == firstId x.2.2 with
        | false => rfl
        | true =>
          exfalso
          have h1 : firstId y.2.2 = firstId x.2.2 := by simpa using he
          have h2 : (l.map fun x => firstId x.2.2).contains (firstId y.2.2) = true := by
            rw [List.contains_iff_mem, h1]
            exact List.mem_map.2 ⟨x, h, rfl⟩
          rw [h2] at hn
          cases hn.1
      rw [hne]
      exact rgFind_mem l x hn.2 h
theorem ranges_go {tbs : FuncId → Tbl} : ∀ (l : List Func) (i : Nat), rangesGo tbs i l = true → ∀ (j : Nat) (fn : Func) (c : Code), l[j]? = some fn → fn.body = some c → rgs c = [] ∨ (fidOf (tbs (i + j)) = i + j ∧ nodupB ((rgs c).map fun x => firstId x.2.2) = true)
  | [], i, _, j, fn, c, h, _ => by simp at h
  | f0 :: l, i, h, 0, fn, c, hj, hc => by
    simp only [List.getElem?_cons_zero, Option.some.injEq] at hj
    subst hj
    simp only [rangesGo, hc, Bool.and_eq_true, Bool.or_eq_true] at h
    rcases h.1 with h1 | h1
    · exact .inl (List.isEmpty_iff.1 h1)
    · exact .inr ⟨by simpa using h1.1, h1.2⟩
  | f0 :: l, i, h, j + 1, fn, c, hj, hc => by
    simp only [rangesGo, Bool.and_eq_true] at h
    have := ranges_go l (i + 1) h.2 j fn c (by simpa using hj) hc
    rwa [show i + 1 + j = i + (j + 1) by omega] at this
theorem ranges_ok {P : Program} {tbs : FuncId → Tbl} (h : rangesB P tbs = true) : RangesOK P tbs := by
  intro f fn c hf hc
  rcases ranges_go _ 0 h f fn c (by rw [Array.getElem?_toList]; exact hf) hc with h1 | ⟨h1, h2⟩
  · exact .inl h1
  · rw [Nat.zero_add] at h1
    refine .inr ⟨h1, fun x hx => ?_⟩
    unfold rangeAt
    rw [hf, Option.bind_some, hc, Option.bind_some]
    exact rgFind_mem _ x h2 hx
theorem walk_of {W : World} {f : FuncId} {args vs : List Value} {m : Mp} {H H' : AH} {v : Value} {call : CallF} (hc : CallOK P call) (R : Ro P W m H) (hl : LRel m args vs) (h : call f args H = some (v, H')) (hf : flat1 v = true) (hy : f < yOff := by unfold yOff; omega) :
    Calls P f vs.toArray W fun e W' => e = .returned v ∧ Below W.heap.size W W' := by
  refine ((hc.1 f args H v H' hy h).2 W.heap.size W m W vs R.rel hl).mono fun e w' ⟨m', v', he, hv, hr, _⟩ => ?_
  rw [VRel.flat_inv hf hv] at he
  exact ⟨he, hr.below⟩
end Go.AM
namespace Go.AM.E
open Go Go.AM Go.Proofs
attribute [local irreducible] run bin un ld st box newV mkS fldA fld ixA ix slc slc3 build buildS cv cvS ap cpy lenV gOp pickV b2 aIf aChk evalK resume iterD Option.bind

section
variable {B B0 H0 H : AH} {L : List (Nat × Blk)}
abbrev KVers := Kn.slice 71 2 (Kn.pair (Kn.int .i64) (Kn.pair (Kn.int .i64) Kn.unit))
def versOf (l : List (Int × Int × Unit)) : Vers := l.map fun x => (x.1, x.2.1)
theorem vers_flat (l : List (Int × Int × Unit)) (css : List (List Value)) (hl : css.length = l.length) (h : ∀ (i : Nat) (a : Int × Int × Unit) (c : List Value), l[i]? = some a → css[i]? = some c → c = [.int .i64 a.1, .int .i64 a.2.1]) : css.flatten = verC (versOf l) := by
  induction l generalizing css with
  | nil =>
    have : css = [] := List.length_eq_zero_iff.1 hl
    subst this; rfl
  | cons a l ih =>
    cases css with
    | nil => simp at hl
    | cons c css =>
      have h0 := h 0 a c rfl rfl
      have := ih css (by simpa using hl) (fun i a c h1 h2 => h (i + 1) a c h1 h2)
      rw [List.flatten_cons, this, h0]; rfl
theorem vers_open {H : AH} {l : List (Int × Int × Unit)} {m : Value} (h : KVers.K H l [m]) : ScN H m (versOf l).length 2 (verC (versOf l)) := by
  have hl : (versOf l).length = l.length := List.length_map ..
  rcases h with ⟨h1, rfl⟩ | ⟨b, css, h1, h2, h3, h4⟩
  · cases h1; exact .inl ⟨rfl, rfl, rfl⟩
  · cases h1
    have e := vers_flat l css h3 (fun i a c h5 h6 => by
      obtain ⟨_, c1, d1, hc, hc1, c2, d2, hd, hc2, hd2⟩ := h4 i a c h5 h6
      subst hc hd
      rw [show c1 = _ from hc1, show c2 = _ from hc2, show d2 = _ from hd2]; rfl)
    refine .inr ⟨b, 0, l.length + 1, by rw [hl], by omega, by rw [verC_len], .inr ⟨_, h2, ?_⟩⟩
    rw [e]
    unfold rdN
    rw [if_pos (by simp [verC_len]), List.drop_zero, List.take_of_length_le (by simp [verC_len])]
abbrev Wld (d x pb rb : Nat) : Blk := ⟨[ptr d 0, ptr x 0, ptr pb 0, ptr rb 0], 35, .fix⟩
theorem loadBoth {R : Type} {w d x pb rb : Nat} {cc : Nat × Blk} {G : Pgr} {D : Dsk} {Lp Lr : List (Nat × Blk)} {f : Nat → Nat → Value → Value → Value → AH → Option R} {Q : R → Prop}
    (hP : PK (ptr pb 0) (ptr d 0) G D Lp) (hR : RK (ptr rb 0) (ptr x 0) G D Lr) (hO : D.OK) (hm1 : D.n / 2 ≠ 0) (hc : D.cache.length < 1000000000000) (hS : St H0 B0 B ((w, Wld d x pb rb) :: cc :: (Lp ++ (Lr ++ L))) H)
    (h : ∀ B' H' Lp' Lr', MoC B B' → PK (ptr pb 0) (ptr d 0) (G.cload D).2 D Lp' → RK (ptr rb 0) (ptr x 0) (G.cload D).2 D Lr' → St H0 B0 B' ((w, Wld d x pb rb) :: cc :: (Lp' ++ (Lr' ++ L))) H' → Ev (fun k n => f k n (.int .i64 (G.cload D).1.2.2) (.int .i64 (G.cload D).1.2.2) (.bool true) H') Q) :
    Ev (fun k n => b2 (rn k 7 [ptr pb 0] H) fun v28 h28 =>
 (ext v28 0).bind fun v29 =>
 (ext v28 1).bind fun v30 =>
 b2 (newV Tryz.prog 24 h28) fun v31 h31 =>
 (st Tryz.prog 24 h31 v31 v29).bind fun h32 =>
 (nilChk (ptr w 0)).bind fun v33 =>
 (fldA Tryz.prog 35 v33 3).bind fun v34 =>
 (ld Tryz.prog 33 h32 v34).bind fun v35 =>
 b2 (rn k 8 [v35] h32) fun v36 h36 =>
 (ext v36 0).bind fun v37 =>
 (ext v36 1).bind fun v38 =>
 b2 (newV Tryz.prog 41 h36) fun v39 h39 =>
 (st Tryz.prog 41 h39 v39 v37).bind fun h40 =>
 (ld Tryz.prog 24 h40 v31).bind fun v41 =>
 (ld Tryz.prog 41 h40 v39).bind fun v42 =>
 b2 (rn k 9 [v41, v42] h40) fun v43 h43 => f k n v30 v38 v43 h43) Q := by
  have hlen := cload_len G D
  refine Ev.b2 (cLoad_any (L := (w, Wld d x pb rb) :: cc :: (Lr ++ L)) hO hm1 hc hP (hS.perm (by (refine perm_cnt ?_; intro _ a; simp only [List.count_append, List.count_cons, List.cons_append, List.nil_append, List.append_assoc]; try ac_rfl)))) ?_
  rintro _ H1 ⟨B1, Lp1, ⟨sv, rfl, hN1⟩, hm1', hP1, hS1⟩
  dsimp only at hS1
  clear hS
  have hcell := hN1.cell
  have hS2 : St H0 B0 B1 ((w, Wld d x pb rb) :: cc :: (Lp1 ++ (Lr ++ L))) H1 := hS1.perm (by (refine perm_cnt ?_; intro _ a; simp only [List.count_append, List.count_cons, List.cons_append, List.nil_append, List.append_assoc]; try ac_rfl))
  clear hS1
  repeat (first|refine zA ?_|refine zB fun _ _ _=>?_|refine zC fun _ _ _=>?_|refine zD fun _ _=>?_|refine zE ?_|refine zF ?_)
  rename_i a H3 hS3 H4 hS4
  clear hS2 hS3
  refine Ev.b2 (r23Load_any (L := (a, ⟨[.int .i64 (G.cload D).1.1, sv], 24, .fix⟩) :: (w, Wld d x pb rb) :: cc :: (Lp1 ++ L)) hO hc hR (hS4.perm (by (refine perm_cnt ?_; intro _ a; simp only [List.count_append, List.count_cons, List.cons_append, List.nil_append, List.append_assoc]; try ac_rfl)))) ?_
  rintro _ H5 ⟨B5, Lr5, ⟨sv5, rfl, hN5⟩, hm5', hR5, hS5⟩
  dsimp only at hS5
  clear hS4
  have hcell5 := hN5.cell
  have hS6 : St H0 B0 B5 ((a, ⟨[.int .i64 (G.cload D).1.1, sv], 24, .fix⟩) :: (w, Wld d x pb rb) :: cc :: (Lp1 ++ (Lr5 ++ L))) H5 := hS5.perm (by (refine perm_cnt ?_; intro _ a; simp only [List.count_append, List.count_cons, List.cons_append, List.nil_append, List.append_assoc]; try ac_rfl))
  clear hS5
  repeat (first|refine zA ?_|refine zB fun _ _ _=>?_|refine zC fun _ _ _=>?_|refine zD fun _ _=>?_|refine zE ?_|refine zF ?_)
  rename_i b H7 hS7 H8 hS8
  clear hS6 hS7
  refine Ev.b2 (clists_spec (ScN.mono hm5'.mo hN1) hN5 (by omega) (by omega) hS8) ?_
  rintro _ H9 ⟨rfl, B9, hm9, hS9⟩
  dsimp only at hS9
  rw [decide_eq_true ⟨rfl, rfl⟩]
  exact h B9 H9 Lp1 Lr5 ⟨hm1'.mo.trans (hm5'.mo.trans hm9.mo)⟩ hP1 hR5 hS9.drop1.drop1
theorem saves_tail {N c : Nat} {next fuse kind : Int} {sv : Value} {l : Vers} {t : List UInt8} (hNN : N < 9223372036854775808) (hv : ScN B sv l.length 2 (verC l)) (hl : l.length < 9223372036854775808) (hf : -9223372036854775808 ≤ fuse ∧ fuse < 9223372036854775808) (hk : -9223372036854775808 ≤ kind ∧ kind < 9223372036854775808) (ht : t.length < 9223372036854775808)
    (hS : St H0 B0 B ((c, ⟨[.int .i64 next, sv], 24, .fix⟩) :: L) H) : Ev (fun k _ => f3_J0 k (i64 N) (.int .i64 fuse) (.int .i64 kind) (str t) (ptr c 0) (.bool true) H) (fun r => r.1 = .bool true) := by
  refine Ev.eq (fun k _ => f3_J0_eq k _ _ _ _ _ _ H) ?_
  have hcell := hv.cell
  repeat (first|refine zA ?_|refine zB fun _ _ _=>?_|refine zC fun _ _ _=>?_|refine zD fun _ _=>?_|refine zE ?_|refine zF ?_)
  refine Ev.b2 (cfew_spec hv hl hS) ?_
  rintro _ H1 ⟨v, B1, rfl, hm1, hN1, hS1⟩
  dsimp only at hS1
  clear hS
  have hl15 : (l.take 15).length ≤ 15 := by rw [List.length_take]; omega
  generalize l.take 15 = q at hN1 hl15
  have hcell1 := hN1.cell
  repeat (first | (first|refine zA ?_|refine zB fun _ _ _=>?_|refine zC fun _ _ _=>?_|refine zD fun _ _=>?_|refine zE ?_|refine zF ?_) | rw [decide_eq_true (by omega)] | rw [decide_eq_false (by omega)])
  rename_i H2 hS2
  clear hS1
  refine Ev.b2 (begins_spec (n := 8 + N % 33) (by omega) (by omega) hS2) ?_
  obtain ⟨f1, u0, c0⟩ := new_format (n := 8 + N % 33) (by omega) (by omega)
  have hO := u0.ok
  have hn0 := u0.n
  generalize (Dsk.new (8 + N % 33)).format = F at f1 u0 c0 hn0 hO ⊢
  obtain ⟨F1, D0⟩ := F
  dsimp only at f1 u0 c0 hn0 hO ⊢
  rintro _ H3 ⟨w, B3, Ls3, rfl, hm3, hS3, ⟨he, _⟩ | ⟨_, dv, xv, pv, rv, Lp, Lr, hP, hR, rfl⟩⟩
  · exact (he f1).elim
  obtain ⟨d, rfl⟩ := hP.dptr
  obtain ⟨pb, rfl⟩ := hP.pptr
  obtain ⟨rb, rfl⟩ := hR.ptr
  obtain ⟨x, rfl⟩ := hR.xptr
  clear hS2
  have hS4 : St H0 B0 B3 ((w, Wld d x pb rb) :: (c, ⟨[.int .i64 next, v], 24, .fix⟩) :: (Lp ++ (Lr ++ L))) H3 := hS3.perm (by (refine perm_cnt ?_; intro _ a; simp only [List.count_append, List.count_cons, List.cons_append, List.nil_append, List.append_assoc]; try ac_rfl))
  clear hS3
  have hmm : D0.n / 2 ≤ 512 := by omega
  have hm4 : D0.n / 2 ≠ 0 := by omega
  have hfit : Pgr.Fit ⟨1, 0, [0, 1], [], false⟩ (D0.n / 2) := fit_new (by omega)
  have htu : (⟨1, 0, [0, 1], [], false⟩ : Pgr).turn ≤ 1 := Nat.le_refl _
  have hca : D0.cache.length ≤ 0 := by rw [c0]; exact Nat.le_refl _
  generalize (⟨1, 0, [0, 1], [], false⟩ : Pgr) = G0 at hfit htu hP hR
  repeat (first|refine zA ?_|refine zB fun _ _ _=>?_|refine zC fun _ _ _=>?_|refine zD fun _ _=>?_|refine zE ?_|refine zF ?_)
  have hfit1 := hfit.like (cload_like G0 D0) (cload_in hfit.inn rfl)
  have htu1 : (G0.cload D0).2.turn ≤ 1 := by rw [(cload_like G0 D0).2.2]; exact htu
  refine loadBoth hP hR hO hm4 (by omega) hS4 ?_
  clear hS4 hP hR hfit htu
  generalize G0.cload D0 = z1 at hfit1 htu1 ⊢
  obtain ⟨⟨n1, l1, e1⟩, G1⟩ := z1
  dsimp only at hfit1 htu1 ⊢
  intro B5 H5 Lp5 Lr5 hm5 hP5 hR5 hS5
  have hN5 := ScN.mono (hm3.mo.trans hm5.mo) hN1
  repeat (first|refine zA ?_|refine zB fun _ _ _=>?_|refine zC fun _ _ _=>?_|refine zD fun _ _=>?_|refine zE ?_|refine zF ?_)
  -- saved
  have hfit2 := hfit1.like (csave_like G1 D0 next q) (csave_in next q hfit1.inn hO rfl).1
  have htu2 : (G1.csave D0 next q).2.2.1.turn ≤ 1 := by rw [(csave_like G1 D0 next q).2.2]; exact htu1
  obtain ⟨_, hO2, hn2, hc2⟩ := csave_in next q hfit1.inn hO rfl
  refine Ev.b2 (cSave_any (L := (w, Wld d x pb rb) :: (c, ⟨[.int .i64 next, v], 24, .fix⟩) :: (Lr5 ++ L)) hN5 (by omega) hO hfit1.inn (by omega) hP5 (hS5.perm (by (refine perm_cnt ?_; intro _ a; simp only [List.count_append, List.count_cons, List.cons_append, List.nil_append, List.append_assoc]; try ac_rfl)))) ?_
  rintro _ H6 ⟨rfl, Lp6, B6, hm6, hP6, hS6⟩
  dsimp only at hS6
  clear hS5
  have hS7 : St H0 B0 B6 ((w, Wld d x pb rb) :: (c, ⟨[.int .i64 next, v], 24, .fix⟩) :: (Lp6 ++ (Lr5 ++ L))) H6 := hS6.perm (by (refine perm_cnt ?_; intro _ a; simp only [List.count_append, List.count_cons, List.cons_append, List.nil_append, List.append_assoc]; try ac_rfl))
  clear hS6
  have hN6 := ScN.mono hm6.mo hN5
  repeat (first|refine zA ?_|refine zB fun _ _ _=>?_|refine zC fun _ _ _=>?_|refine zD fun _ _=>?_|refine zE ?_|refine zF ?_)
  refine Ev.b2 (cref_spec hN6 (by omega) hS7) ?_
  rintro _ H8 ⟨v8, B8, rfl, hm8, hN8, hS8⟩
  dsimp only at hS8
  clear hS7
  repeat (first|refine zA ?_|refine zB fun _ _ _=>?_|refine zC fun _ _ _=>?_|refine zD fun _ _=>?_|refine zE ?_|refine zF ?_)
  refine Ev.b2 (r23Save_any (L := (w, Wld d x pb rb) :: (c, ⟨[.int .i64 next, v], 24, .fix⟩) :: (Lp6 ++ L)) hN8 (by omega) hO hfit1.inn (by omega) hR5 (hS8.perm (by (refine perm_cnt ?_; intro _ a; simp only [List.count_append, List.count_cons, List.cons_append, List.nil_append, List.append_assoc]; try ac_rfl)))) ?_
  rintro _ H9 ⟨rfl, Lr9, B9, hm9, hR9, hS9⟩
  dsimp only at hS9
  clear hS8
  have hS10 : St H0 B0 B9 ((w, Wld d x pb rb) :: (c, ⟨[.int .i64 next, v], 24, .fix⟩) :: (Lp6 ++ (Lr9 ++ L))) H9 := hS9.perm (by (refine perm_cnt ?_; intro _ a; simp only [List.count_append, List.count_cons, List.cons_append, List.nil_append, List.append_assoc]; try ac_rfl))
  clear hS9
  generalize G1.csave D0 next q = z2 at hfit2 htu2 hO2 hn2 hc2 hP6 hR9 ⊢
  obtain ⟨a2, g2, G2, D2⟩ := z2
  dsimp only at hfit2 htu2 hO2 hn2 hc2 hP6 hR9 ⊢
  clear hP5 hR5 hN8 hm8 hm9
  repeat (first|refine zA ?_|refine zB fun _ _ _=>?_|refine zC fun _ _ _=>?_|refine zD fun _ _=>?_|refine zE ?_|refine zF ?_)
  -- the fuse
  refine Ev.b2 (FuseP_spec (n := fuse) (L := (w, Wld d x pb rb) :: (c, ⟨[.int .i64 next, v], 24, .fix⟩) :: (Lr9 ++ L)) hP6 (hS10.perm (by (refine perm_cnt ?_; intro _ a; simp only [List.count_append, List.count_cons, List.cons_append, List.nil_append, List.append_assoc]; try ac_rfl)))) ?_
  rintro _ H11 ⟨rfl, Lp11, B11, hm11, hP11, hS11⟩
  dsimp only at hS11
  clear hS10
  have hS12 : St H0 B0 B11 ((w, Wld d x pb rb) :: (c, ⟨[.int .i64 next, v], 24, .fix⟩) :: (Lp11 ++ (Lr9 ++ L))) H11 := hS11.perm (by (refine perm_cnt ?_; intro _ a; simp only [List.count_append, List.count_cons, List.cons_append, List.nil_append, List.append_assoc]; try ac_rfl))
  clear hS11
  repeat (first|refine zA ?_|refine zB fun _ _ _=>?_|refine zC fun _ _ _=>?_|refine zD fun _ _=>?_|refine zE ?_|refine zF ?_)
  refine rFuse_step (n := fuse) (L := (w, Wld d x pb rb) :: (c, ⟨[.int .i64 next, v], 24, .fix⟩) :: (Lp11 ++ L)) hf.1 hR9 (hS12.perm (by (refine perm_cnt ?_; intro _ a; simp only [List.count_append, List.count_cons, List.cons_append, List.nil_append, List.append_assoc]; try ac_rfl))) fun Lr13 H13 hR13 hS13 => ?_
  clear hS12
  have hS14 : St H0 B0 B11 ((w, Wld d x pb rb) :: (c, ⟨[.int .i64 next, v], 24, .fix⟩) :: (Lp11 ++ (Lr13 ++ L))) H13 := hS13.perm (by (refine perm_cnt ?_; intro _ a; simp only [List.count_append, List.count_cons, List.cons_append, List.nil_append, List.append_assoc]; try ac_rfl))
  clear hS13
  have hO3 := fuse_ok (n := fuse) hO2 hf.2
  have hn3 : ({ D2 with fuse := max fuse (-1) } : Dsk).n = D0.n := hn2
  have hc3 : ({ D2 with fuse := max fuse (-1) } : Dsk).cache.length ≤ 2 := by show D2.cache.length ≤ 2; omega
  generalize ({ D2 with fuse := max fuse (-1) } : Dsk) = D3 at hO3 hn3 hc3 hP11 hR13
  clear hP6 hR9 hO2 hn2 hc2
  rw [← hn3] at hfit2 hmm hm4
  repeat (first|refine zA ?_|refine zB fun _ _ _=>?_|refine zC fun _ _ _=>?_|refine zD fun _ _=>?_|refine zE ?_|refine zF ?_)
  -- committed
  obtain ⟨hfit4, hO4, hn4, hc4, htu4⟩ := hfit2.commit a2 hmm hO3
  refine Ev.b2 (Commit_spec (root := a2) (m := D3.n / 2) (L := (w, Wld d x pb rb) :: (c, ⟨[.int .i64 next, v], 24, .fix⟩) :: (Lr13 ++ L)) hP11 hO3 (hfit2.ok hmm (by omega)) (by omega) (hS14.perm (by (refine perm_cnt ?_; intro _ a; simp only [List.count_append, List.count_cons, List.cons_append, List.nil_append, List.append_assoc]; try ac_rfl)))) ?_
  rintro _ H15 ⟨rfl, Lp15, B15, hm15, hP15, hS15⟩
  dsimp only at hS15
  clear hS14
  have hS16 : St H0 B0 B15 ((w, Wld d x pb rb) :: (c, ⟨[.int .i64 next, v], 24, .fix⟩) :: (Lp15 ++ (Lr13 ++ L))) H15 := hS15.perm (by (refine perm_cnt ?_; intro _ a; simp only [List.count_append, List.count_cons, List.cons_append, List.nil_append, List.append_assoc]; try ac_rfl))
  clear hS15
  repeat (first|refine zA ?_|refine zB fun _ _ _=>?_|refine zC fun _ _ _=>?_|refine zD fun _ _=>?_|refine zE ?_|refine zF ?_)
  refine Ev.b2 (rCommit_spec (root := a2) (L := (w, Wld d x pb rb) :: (c, ⟨[.int .i64 next, v], 24, .fix⟩) :: (Lp15 ++ L)) hR13 hO3 hfit2.inn.us hfit2.inn.fr (by have := hfit2.inn.len; omega) hm4 (by omega) (by omega) (hS16.perm (by (refine perm_cnt ?_; intro _ a; simp only [List.count_append, List.count_cons, List.cons_append, List.nil_append, List.append_assoc]; try ac_rfl)))) ?_
  rintro _ H17 ⟨rfl, Lr17, B17, hm17, hR17, hS17⟩
  dsimp only at hS17
  clear hS16
  have hS18 : St H0 B0 B17 ((w, Wld d x pb rb) :: (c, ⟨[.int .i64 next, v], 24, .fix⟩) :: (Lp15 ++ (Lr17 ++ L))) H17 := hS17.perm (by (refine perm_cnt ?_; intro _ a; simp only [List.count_append, List.count_cons, List.cons_append, List.nil_append, List.append_assoc]; try ac_rfl))
  clear hS17
  generalize G2.commit D3 a2 = z4 at hfit4 hO4 hn4 hc4 htu4 hP15 hR17 ⊢
  obtain ⟨i4, G4, D4⟩ := z4
  dsimp only at hfit4 hO4 hn4 hc4 htu4 hP15 hR17 ⊢
  clear hP11 hR13 hfit2
  rw [← hn4] at hfit4 hmm hm4
  repeat (first|refine zA ?_|refine zB fun _ _ _=>?_|refine zC fun _ _ _=>?_|refine zD fun _ _=>?_|refine zE ?_|refine zF ?_)
  -- loaded
  have hfit5 := hfit4.like (cload_like G4 D4) (cload_in hfit4.inn rfl)
  have htu5 : (G4.cload D4).2.turn ≤ 2 := by rw [(cload_like G4 D4).2.2]; omega
  refine loadBoth hP15 hR17 hO4 hm4 (by omega) hS18 ?_
  clear hS18 hP15 hR17 hfit4
  generalize G4.cload D4 = z5 at hfit5 htu5 ⊢
  obtain ⟨⟨n5, l5, e5⟩, G5⟩ := z5
  dsimp only at hfit5 htu5 ⊢
  intro B19 H19 Lp19 Lr19 hm19 hP19 hR19 hS19
  repeat (first|refine zA ?_|refine zB fun _ _ _=>?_|refine zC fun _ _ _=>?_|refine zD fun _ _=>?_|refine zE ?_|refine zF ?_)
  -- a page
  have hfit6 := hfit5.like (alloc_like G5 (D4.n / 2)) hfit5.inn.alloc
  have htu6 : (G5.alloc (D4.n / 2)).2.2.turn ≤ 2 := by rw [(alloc_like G5 (D4.n / 2)).2.2]; exact htu5
  have hfl5 := hfit5.inn.len
  refine Ev.b2 (Alloc_spec (L := (w, Wld d x pb rb) :: (c, ⟨[.int .i64 next, v], 24, .fix⟩) :: (Lr19 ++ L)) hP19 hO4 (by omega) (hS19.perm (by (refine perm_cnt ?_; intro _ a; simp only [List.count_append, List.count_cons, List.cons_append, List.nil_append, List.append_assoc]; try ac_rfl)))) ?_
  rintro _ H20 ⟨rfl, Lp20, B20, hm20, hP20, hS20⟩
  dsimp only at hS20
  clear hS19
  have hS21 : St H0 B0 B20 ((w, Wld d x pb rb) :: (c, ⟨[.int .i64 next, v], 24, .fix⟩) :: (Lp20 ++ (Lr19 ++ L))) H20 := hS20.perm (by (refine perm_cnt ?_; intro _ a; simp only [List.count_append, List.count_cons, List.cons_append, List.nil_append, List.append_assoc]; try ac_rfl))
  clear hS20
  repeat (first|refine zA ?_|refine zB fun _ _ _=>?_|refine zC fun _ _ _=>?_|refine zD fun _ _=>?_|refine zE ?_|refine zF ?_)
  refine Ev.b2 (rAlloc_spec (L := (w, Wld d x pb rb) :: (c, ⟨[.int .i64 next, v], 24, .fix⟩) :: (Lp20 ++ L)) hR19 hO4 (by omega) (hS21.perm (by (refine perm_cnt ?_; intro _ a; simp only [List.count_append, List.count_cons, List.cons_append, List.nil_append, List.append_assoc]; try ac_rfl)))) ?_
  rintro _ H22 ⟨rfl, Lr22, B22, hm22, hR22, hS22⟩
  dsimp only at hS22
  clear hS21
  have hS23 : St H0 B0 B22 ((w, Wld d x pb rb) :: (c, ⟨[.int .i64 next, v], 24, .fix⟩) :: (Lp20 ++ (Lr22 ++ L))) H22 := hS22.perm (by (refine perm_cnt ?_; intro _ a; simp only [List.count_append, List.count_cons, List.cons_append, List.nil_append, List.append_assoc]; try ac_rfl))
  clear hS22
  generalize G5.alloc (D4.n / 2) = z6 at hfit6 htu6 hP20 hR22 ⊢
  obtain ⟨a6, e6, G6⟩ := z6
  dsimp only at hfit6 htu6 hP20 hR22 ⊢
  clear hP19 hR19 hfit5
  repeat (first|refine zA ?_|refine zB fun _ _ _=>?_|refine zC fun _ _ _=>?_|refine zD fun _ _=>?_|refine zE ?_|refine zF ?_)
  -- written
  have hfl6 := hfit6.inn.len
  have hfit7 := hfit6.like (write_like G6 D4 a6 kind t) (hfit6.inn.write D4 a6 kind t)
  have htu7 : (G6.write D4 a6 kind t).2.1.turn ≤ 2 := by rw [(write_like G6 D4 a6 kind t).2.2]; exact htu6
  obtain ⟨hO7, hn7, hc7⟩ := G6.write_ok hO4 a6 kind t
  refine Ev.b2 (Write_specP (n := a6) (kind := kind) (t := t) (L := (w, Wld d x pb rb) :: (c, ⟨[.int .i64 next, v], 24, .fix⟩) :: (Lr22 ++ L)) hP20 hO4 (by omega) (by omega) ht hk (hS23.perm (by (refine perm_cnt ?_; intro _ a; simp only [List.count_append, List.count_cons, List.cons_append, List.nil_append, List.append_assoc]; try ac_rfl)))) ?_
  rintro _ H24 ⟨rfl, Lp24, B24, hm24, hP24, hS24⟩
  dsimp only at hS24
  clear hS23
  have hS25 : St H0 B0 B24 ((w, Wld d x pb rb) :: (c, ⟨[.int .i64 next, v], 24, .fix⟩) :: (Lp24 ++ (Lr22 ++ L))) H24 := hS24.perm (by (refine perm_cnt ?_; intro _ a; simp only [List.count_append, List.count_cons, List.cons_append, List.nil_append, List.append_assoc]; try ac_rfl))
  clear hS24
  repeat (first|refine zA ?_|refine zB fun _ _ _=>?_|refine zC fun _ _ _=>?_|refine zD fun _ _=>?_|refine zE ?_|refine zF ?_)
  refine Ev.b2 (rWrite_spec (n := a6) (kind := kind) (t := t) (L := (w, Wld d x pb rb) :: (c, ⟨[.int .i64 next, v], 24, .fix⟩) :: (Lp24 ++ L)) hR22 hO4 (by omega) (by omega) ht hk (hS25.perm (by (refine perm_cnt ?_; intro _ a; simp only [List.count_append, List.count_cons, List.cons_append, List.nil_append, List.append_assoc]; try ac_rfl)))) ?_
  rintro _ H26 ⟨rfl, Lr26, B26, hm26, hR26, hS26⟩
  dsimp only at hS26
  clear hS25
  have hS27 : St H0 B0 B26 ((w, Wld d x pb rb) :: (c, ⟨[.int .i64 next, v], 24, .fix⟩) :: (Lp24 ++ (Lr26 ++ L))) H26 := hS26.perm (by (refine perm_cnt ?_; intro _ a; simp only [List.count_append, List.count_cons, List.cons_append, List.nil_append, List.append_assoc]; try ac_rfl))
  clear hS26
  generalize G6.write D4 a6 kind t = z7 at hfit7 htu7 hO7 hn7 hc7 hP24 hR26 ⊢
  obtain ⟨e7, G7, D7⟩ := z7
  dsimp only at hfit7 htu7 hO7 hn7 hc7 hP24 hR26 ⊢
  clear hP20 hR22 hfit6
  rw [← hn7] at hfit7 hmm hm4
  repeat (first|refine zA ?_|refine zB fun _ _ _=>?_|refine zC fun _ _ _=>?_|refine zD fun _ _=>?_|refine zE ?_|refine zF ?_)
  -- committed again
  obtain ⟨hfit8, hO8, hn8, hc8, htu8⟩ := hfit7.commit a6 hmm hO7
  refine Ev.b2 (Commit_spec (root := a6) (m := D7.n / 2) (L := (w, Wld d x pb rb) :: (c, ⟨[.int .i64 next, v], 24, .fix⟩) :: (Lr26 ++ L)) hP24 hO7 (hfit7.ok hmm (by omega)) (by omega) (hS27.perm (by (refine perm_cnt ?_; intro _ a; simp only [List.count_append, List.count_cons, List.cons_append, List.nil_append, List.append_assoc]; try ac_rfl)))) ?_
  rintro _ H28 ⟨rfl, Lp28, B28, hm28, hP28, hS28⟩
  dsimp only at hS28
  clear hS27
  have hS29 : St H0 B0 B28 ((w, Wld d x pb rb) :: (c, ⟨[.int .i64 next, v], 24, .fix⟩) :: (Lp28 ++ (Lr26 ++ L))) H28 := hS28.perm (by (refine perm_cnt ?_; intro _ a; simp only [List.count_append, List.count_cons, List.cons_append, List.nil_append, List.append_assoc]; try ac_rfl))
  clear hS28
  repeat (first|refine zA ?_|refine zB fun _ _ _=>?_|refine zC fun _ _ _=>?_|refine zD fun _ _=>?_|refine zE ?_|refine zF ?_)
  refine Ev.b2 (rCommit_spec (root := a6) (L := (w, Wld d x pb rb) :: (c, ⟨[.int .i64 next, v], 24, .fix⟩) :: (Lp28 ++ L)) hR26 hO7 hfit7.inn.us hfit7.inn.fr (by have := hfit7.inn.len; omega) hm4 (by omega) (by omega) (hS29.perm (by (refine perm_cnt ?_; intro _ a; simp only [List.count_append, List.count_cons, List.cons_append, List.nil_append, List.append_assoc]; try ac_rfl)))) ?_
  rintro _ H30 ⟨rfl, Lr30, B30, hm30, hR30, hS30⟩
  dsimp only at hS30
  clear hS29
  have hS31 : St H0 B0 B30 ((w, Wld d x pb rb) :: (c, ⟨[.int .i64 next, v], 24, .fix⟩) :: (Lp28 ++ (Lr30 ++ L))) H30 := hS30.perm (by (refine perm_cnt ?_; intro _ a; simp only [List.count_append, List.count_cons, List.cons_append, List.nil_append, List.append_assoc]; try ac_rfl))
  clear hS30
  generalize G7.commit D7 a6 = z8 at hfit8 hO8 hn8 hc8 htu8 hP28 hR30 ⊢
  obtain ⟨i8, G8, D8⟩ := z8
  dsimp only at hfit8 hO8 hn8 hc8 htu8 hP28 hR30 ⊢
  clear hP24 hR26 hfit7
  rw [← hn8] at hfit8 hmm hm4
  repeat (first|refine zA ?_|refine zB fun _ _ _=>?_|refine zC fun _ _ _=>?_|refine zD fun _ _=>?_|refine zE ?_|refine zF ?_)
  refine loadBoth hP28 hR30 hO8 hm4 (by omega) hS31 ?_
  clear hS31 hP28 hR30 hfit8
  generalize G8.cload D8 = z9
  obtain ⟨⟨n9, l9, e9⟩, G9⟩ := z9
  dsimp only
  intro B32 H32 Lp32 Lr32 hm32 hP32 hR32 hS32
  repeat (first|refine zA ?_|refine zB fun _ _ _=>?_|refine zC fun _ _ _=>?_|refine zD fun _ _=>?_|refine zE ?_|refine zF ?_)
  refine Ev.b2 (likeP_spec (L := (w, Wld d x pb rb) :: (c, ⟨[.int .i64 next, v], 24, .fix⟩) :: L) hP32 hR32 hO8 (by omega) (hS32.perm (by (refine perm_cnt ?_; intro _ a; simp only [List.count_append, List.count_cons, List.cons_append, List.nil_append, List.append_assoc]; try ac_rfl)))) ?_
  rintro _ H33 ⟨rfl, B33, hm33, hS33⟩
  dsimp only at hS33
  clear hS32
  repeat (first|refine zA ?_|refine zB fun _ _ _=>?_|refine zC fun _ _ _=>?_|refine zD fun _ _=>?_|refine zE ?_|refine zF ?_)
  exact Ev.ret rfl
theorem catSaves_law {n next fuse kind : Int} {sv : Value} {l : Vers} {t : List UInt8} (hn : -9223372036854775808 ≤ n ∧ n < 9223372036854775808) (hv : ScN B sv l.length 2 (verC l)) (hl : l.length < 9223372036854775808) (hf : -9223372036854775808 ≤ fuse ∧ fuse < 9223372036854775808) (hk : -9223372036854775808 ≤ kind ∧ kind < 9223372036854775808) (ht : t.length < 9223372036854775808) (hL : Le B H) :
    Ev (fun k _ => rn k 3 [.int .i64 n, .agg #[.int .i64 next, sv], .int .i64 fuse, .int .i64 kind, str t] H) (fun r => r.1 = .bool true) := by
  refine Ev.fn (fun k => f3_eq k _ _ _ _ _ H) ?_
  have hS := St.start hL
  have hcell0 := hv.cell
  repeat (first|refine zA ?_|refine zB fun _ _ _=>?_|refine zC fun _ _ _=>?_|refine zD fun _ _=>?_|refine zE ?_|refine zF ?_)
  rename_i c H1 hS1
  clear hS
  refine Ev.b2 (examples23_spec hS1) ?_
  rintro _ H2 ⟨rfl, B2, hm2, hS2⟩
  dsimp only at hS2
  clear hS1
  repeat (first|refine zA ?_|refine zB fun _ _ _=>?_|refine zC fun _ _ _=>?_|refine zD fun _ _=>?_|refine zE ?_|refine zF ?_)
  by_cases h0 : n < 0
  · rw [decide_eq_true h0]
    repeat (first | (first|refine zA ?_|refine zB fun _ _ _=>?_|refine zC fun _ _ _=>?_|refine zD fun _ _=>?_|refine zE ?_|refine zF ?_) | rw [decide_eq_true (by omega)] | rw [decide_eq_false (by omega)])
    rw [show IntKind.i64.wrap (0 - (n + 1)) = (((-(n + 1)).toNat : Nat) : Int) by rw [wrap64 (by omega)]; omega]
    exact saves_tail (by omega) (ScN.mono hm2.mo hv) hl hf hk ht hS2
  · rw [decide_eq_false h0]
    repeat (first | (first|refine zA ?_|refine zB fun _ _ _=>?_|refine zC fun _ _ _=>?_|refine zD fun _ _=>?_|refine zE ?_|refine zF ?_) | rw [decide_eq_true (by omega)] | rw [decide_eq_false (by omega)])
    rw [show n = ((n.toNat : Nat) : Int) by omega]
    exact saves_tail (by omega) (ScN.mono hm2.mo hv) hl hf hk ht hS2
theorem coreCatSaves (H : AH) (vs : List Value) (x : Int × (Int × List (Int × Int × Unit) × Unit) × Int × Int × ByteArray × Unit) (hK : ∃ v0 vs0, vs = v0 :: vs0 ∧ KvC (Kn.int .i64) H x.1 v0 ∧ ∃ v1 vs1, vs0 = v1 :: vs1 ∧ KvS (Kn.pair (Kn.int .i64) (Kn.pair KVers Kn.unit)) H x.2.1 v1 ∧ ∃ v2 vs2, vs1 = v2 :: vs2 ∧ KvC (Kn.int .i64) H x.2.2.1 v2 ∧ ∃ v3 vs3, vs2 = v3 :: vs3 ∧ KvC (Kn.int .i64) H x.2.2.2.1 v3 ∧ ∃ v4 vs4, vs3 = v4 :: vs4 ∧ KvC Kn.string H x.2.2.2.2.1 v4 ∧ vs4 = [])
    (hG : (Lit.int .i64 x.1).wf = true ∧ ((Lit.int .i64 x.2.1.1).wf = true ∧ (x.2.1.2.1.length ≤ maxLen ∧ ∀ y ∈ x.2.1.2.1, (Lit.int .i64 y.1).wf = true ∧ (Lit.int .i64 y.2.1).wf = true ∧ True) ∧ True) ∧ (Lit.int .i64 x.2.2.1).wf = true ∧ (Lit.int .i64 x.2.2.2.1).wf = true ∧ x.2.2.2.2.1.size ≤ maxLen ∧ True) (hw4 : ∀ s, vs[4]? = some (.string s) → s.size ≤ 140737488351232) : Ev (fun k _ => rn k 3 vs H) (fun r => r.1 = .bool true) := by
  obtain ⟨v0, _, rfl, h0, v1, _, rfl, ⟨cs, rfl, c1, d1, rfl, hc1, c2, d2, hd, hc2, hd2⟩, v2, _, rfl, h2, v3, _, rfl, h3, v4, _, rfl, h4, rfl⟩ := hK
  subst hd
  have h0 : [v0] = [.int .i64 x.1] := h0
  cases h0
  have h2 : [v2] = [.int .i64 x.2.2.1] := h2
  cases h2
  have h3 : [v3] = [.int .i64 x.2.2.2.1] := h3
  cases h3
  have h4 : [v4] = [.string x.2.2.2.2.1] := h4
  cases h4
  rw [show c1 = _ from hc1, show d2 = _ from hd2]
  obtain ⟨g0, ⟨_, ⟨g1, _⟩, _⟩, g2, g3, g4, _⟩ := hG
  have hc2l : ∃ m, c2 = [m] := by
    rcases hc2 with ⟨h, _⟩ | ⟨b, css, h, _⟩ <;> exact ⟨_, h⟩
  obtain ⟨m, rfl⟩ := hc2l
  have hN := vers_open hc2
  have hlen : (versOf x.2.1.2.1).length = x.2.1.2.1.length := List.length_map ..
  have hw := hw4 _ rfl
  have hsz : x.2.2.2.2.1.data.toList.length = x.2.2.2.2.1.size := by rw [Array.length_toList]; rfl
  refine catSaves_law (B := H) (H := H) (n := x.1) (next := x.2.1.1) (fuse := x.2.2.1) (kind := x.2.2.2.1) (t := x.2.2.2.2.1.data.toList) ?_ hN ?_ ?_ ?_ (by omega) ⟨Mo.refl H⟩
  · simp [Lit.wf, IntKind.min, IntKind.max, IntKind.bits, IntKind.signed] at g0; omega
  · rw [hlen]; have : maxLen < 9223372036854775808 := by decide
    omega
  · simp [Lit.wf, IntKind.min, IntKind.max, IntKind.bits, IntKind.signed] at g2; omega
  · simp [Lit.wf, IntKind.min, IntKind.max, IntKind.bits, IntKind.signed] at g3; omega
end
end Go.AM.E
