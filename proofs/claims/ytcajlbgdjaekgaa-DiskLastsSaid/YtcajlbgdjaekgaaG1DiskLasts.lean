/-
  Facts of the abstract evaluator and of the functions that the law reaches, part 1. Conditions: none.
-/
import Derived.Laws.BytesString
import Derived.Laws.CopyRow
import Derived.RangeFuncRecord
import Derived.Lib.AppendZeros
import Derived.Lib.FrozenHead
import Derived.Lib.UnsafeStr
import Derived.MapKept
import Derived.RangeFuncNested
import Derived.RangeFuncLeaves
import Derived.OrdersIn
import Derived.LoopNIn
import Derived.Test.YtcajlbgdjaekgaaG0DiskLasts
set_option linter.unusedVariables false
set_option linter.unusedSimpArgs false
set_option linter.unnecessarySimpa false
set_option exponentiation.threshold 200000
set_option maxRecDepth 100000
set_option linter.unusedVariables false
set_option linter.unusedSimpArgs false
set_option maxRecDepth 100000
namespace Go.AM.K
open Go Go.AM Go.Proofs
attribute [local irreducible] run bin un ld st box newV mkS fldA fld ixA ix slc slc3 build buildS cv cvS ap cpy lenV gOp pickV b2 aIf aChk evalK resume iterD Option.bind

section
variable {B B0 H0 H : AH} {L : List (Nat × Blk)}
theorem perm12X {a c d : Nat × Blk} {X : List (Nat × Blk)} (h : St H0 B0 B (a :: c :: d :: X) H) : St H0 B0 B (c :: d :: a :: X) H := h.perm (show ([c, d, a] ++ X).Perm ([a, c, d] ++ X) from List.Perm.append_right _ (List.perm_append_comm (l₁ := [c, d]) (l₂ := [a])))
theorem perm21X {a c d : Nat × Blk} {X : List (Nat × Blk)} (h : St H0 B0 B (c :: d :: a :: X) H) : St H0 B0 B (a :: c :: d :: X) H := h.perm (show ([a, c, d] ++ X).Perm ([c, d, a] ++ X) from List.Perm.append_right _ (List.perm_append_comm (l₁ := [a]) (l₂ := [c, d])))
theorem crash_loop {d bb m0 : Nat} {cv kv : Value} {torn : Int} {keep : List Int} {Lc : List (Nat × Blk)} {D : Dsk} (hO : D.OK) (hG : GRS 45 2 cv D.cache.length (caCells D.cache) Lc) (hc : D.cache.length < 1000000000000) {Bk : AH} (hk0 : FT Bk kv i64v keep) (hkl : keep.length < 9223372036854775808) (hm0 : m0 < 9223372036854775808) :
    ∀ (m i : Nat) (B H : AH), i + m = D.cache.length → Mo Bk B → St H0 B0 B ((d, ⟨[sl bb 0 (64 * D.n) (64 * D.n), cv, .int .i64 D.fuse, .bool D.down], 42, .fix⟩) :: (bb, ⟨byts (crashGo keep torn (m0 % 65) 0 (D.cache.take i) D.bytes), 5, .fix⟩) :: (Lc ++ L)) H →
    Ev (fun k K => f11_L0 k (ptr d 0) kv (.int .i64 torn) (i64 m0) cv (i64 D.cache.length) (i64 i) K H) (fun o => ∃ B' H', o = (.exit 0, f11_X_L0 (ptr d 0), H') ∧ MoC B B' ∧
      St H0 B0 B' ((d, ⟨[sl bb 0 (64 * D.n) (64 * D.n), cv, .int .i64 D.fuse, .bool D.down], 42, .fix⟩) :: (bb, ⟨byts (crashGo keep torn (m0 % 65) 0 D.cache D.bytes), 5, .fix⟩) :: (Lc ++ L)) H') := by
  intro m
  induction m with
  | zero =>
    intro i B H hi hB hS
    refine Ev.succ (fun k K => f11_L0_succ k _ _ _ _ _ _ _ K H) ?_
    repeat (first | refine Ev.s ?_ | refine Ev.newC fun _ _ _ => ?_ | refine Ev.boxC fun _ _ _ => ?_ | refine Ev.stC fun _ _ => ?_ | refine Ev.sc (by omega) ?_ | refine Ev.scg (by omega) ?_)
    rw [decide_eq_false (by omega)]
    repeat (first | refine Ev.s ?_ | refine Ev.newC fun _ _ _ => ?_ | refine Ev.boxC fun _ _ _ => ?_ | refine Ev.stC fun _ _ => ?_ | refine Ev.sc (by omega) ?_ | refine Ev.scg (by omega) ?_)
    rw [List.take_of_length_le (by omega)] at hS
    exact Ev.ret ⟨B, H, rfl, ⟨Mo.refl B⟩, hS⟩
  | succ m ih =>
    intro i B H hi hB hS
    refine Ev.succ (fun k K => f11_L0_succ k _ _ _ _ _ _ _ K H) ?_
    repeat (first | refine Ev.s ?_ | refine Ev.newC fun _ _ _ => ?_ | refine Ev.boxC fun _ _ _ => ?_ | refine Ev.stC fun _ _ => ?_ | refine Ev.sc (by omega) ?_ | refine Ev.scg (by omega) ?_)
    rw [decide_eq_true (by omega)]
    repeat (first | refine Ev.s ?_ | refine Ev.newC fun _ _ _ => ?_ | refine Ev.boxC fun _ _ _ => ?_ | refine Ev.stC fun _ _ => ?_ | refine Ev.sc (by omega) ?_ | refine Ev.scg (by omega) ?_)
    obtain ⟨⟨a, s⟩, ha, htk⟩ := take_ex (l := D.cache) (m := i) (by omega)
    have hmem := hO.ca (a, s) (List.mem_of_getElem? ha)
    dsimp only at hmem
    have hlen := crashGo_len (keep := keep) (torn := torn) (cut := m0 % 65) (D.cache.take i) 0 D.bytes D.n hO.len fun p hp => hO.ca p (List.mem_of_mem_take hp)
    have hN := hG.now hS (fun p hp => .tail _ (.tail _ (List.mem_append_left _ hp)))
    obtain ⟨p, q1, q2⟩ := ScN.ldAt (P := Try.prog) (t := 40) (k := .i64) (i := i) hN (by omega) (AggOf.eq (P := Try.prog) (t := 45))
    rw [caCells_at ha] at q2
    have hlast : crashGo keep torn (m0 % 65) 0 (D.cache.take (i + 1)) D.bytes = tears keep torn (m0 % 65) i (a, s) (crashGo keep torn (m0 % 65) 0 (D.cache.take i) D.bytes) := by
      rw [htk, crashGo_snoc, Nat.zero_add, List.length_take, Nat.min_eq_left (by omega)]
    generalize crashGo keep torn (m0 % 65) 0 (D.cache.take i) D.bytes = bs at hS hlen hlast
    refine Ev.prim q1 ?_
    refine Ev.prim q2 ?_
    clear hN q1 q2
    have hkF : FL B kv i64v keep := (hk0.fl).mono hB
    repeat (first | refine Ev.s ?_ | refine Ev.newC fun _ _ _ => ?_ | refine Ev.boxC fun _ _ _ => ?_ | refine Ev.stC fun _ _ => ?_ | refine Ev.sc (by omega) ?_ | refine Ev.scg (by omega) ?_)
    rename_i b2 H2 hS2 H3 hS3
    have hS4 := perm12X hS3
    clear hS hS2
    unfold tears at hlast
    have next : ∀ H5, St H0 B0 B ((b2, ⟨[i64 a, str s], 45, .fix⟩) :: (d, ⟨[sl bb 0 (64 * D.n) (64 * D.n), cv, .int .i64 D.fuse, .bool D.down], 42, .fix⟩) :: (bb, ⟨byts (crashGo keep torn (m0 % 65) 0 (D.cache.take (i + 1)) D.bytes), 5, .fix⟩) :: (Lc ++ L)) H5 →
        Ev (fun k K => f11_L0 k (ptr d 0) kv (.int .i64 torn) (i64 m0) cv (i64 D.cache.length) (i64 (i + 1)) K H5) (fun o => ∃ B' H', o = (.exit 0, f11_X_L0 (ptr d 0), H') ∧ MoC B B' ∧
          St H0 B0 B' ((d, ⟨[sl bb 0 (64 * D.n) (64 * D.n), cv, .int .i64 D.fuse, .bool D.down], 42, .fix⟩) :: (bb, ⟨byts (crashGo keep torn (m0 % 65) 0 D.cache D.bytes), 5, .fix⟩) :: (Lc ++ L)) H') := fun H5 h5 => ih (i + 1) B H5 (by omega) hB h5.drop1
    by_cases ht : (i : Int) = torn
    · rw [decide_eq_true ht]
      rw [if_pos ht] at hlast
      dsimp only at hlast
      clear hS4
      repeat (first | refine Ev.s ?_ | refine Ev.newC fun _ _ _ => ?_ | refine Ev.boxC fun _ _ _ => ?_ | refine Ev.stC fun _ _ => ?_ | refine Ev.sc (by omega) ?_ | refine Ev.scg (by omega) ?_)
      refine Ev.prim (slc_strT (l := s) (i := m0 % 65) (by omega)) ?_
      refine Ev.b2 (lay_spec (n := D.n) hO.n2 hlen hmem.1 (by rw [List.length_take]; omega) (perm12X hS3)) ?_
      rintro _ H5 ⟨_, hS5⟩
      dsimp only at hS5
      rw [← hlast] at hS5
      clear hS3
      repeat (first | refine Ev.s ?_ | refine Ev.newC fun _ _ _ => ?_ | refine Ev.boxC fun _ _ _ => ?_ | refine Ev.stC fun _ _ => ?_ | refine Ev.sc (by omega) ?_ | refine Ev.scg (by omega) ?_)
      exact next H5 (perm21X hS5)
    · rw [decide_eq_false ht]
      rw [if_neg ht] at hlast
      clear hS4
      repeat (first | refine Ev.s ?_ | refine Ev.newC fun _ _ _ => ?_ | refine Ev.boxC fun _ _ _ => ?_ | refine Ev.stC fun _ _ => ?_ | refine Ev.sc (by omega) ?_ | refine Ev.scg (by omega) ?_)
      by_cases hki : i < keep.length
      · rw [decide_eq_true hki]
        repeat (first | refine Ev.s ?_ | refine Ev.newC fun _ _ _ => ?_ | refine Ev.boxC fun _ _ _ => ?_ | refine Ev.stC fun _ _ => ?_ | refine Ev.sc (by omega) ?_ | refine Ev.scg (by omega) ?_)
        obtain ⟨kk, hkk⟩ : ∃ x, keep[i]? = some x := ⟨_, List.getElem?_eq_getElem hki⟩
        refine Ev.ixFg i rfl hkk fun p hp => ?_
        repeat (first | refine Ev.s ?_ | refine Ev.newC fun _ _ _ => ?_ | refine Ev.boxC fun _ _ _ => ?_ | refine Ev.stC fun _ _ => ?_ | refine Ev.sc (by omega) ?_ | refine Ev.scg (by omega) ?_)
        refine Ev.gPrim (and_one rfl) rfl ?_
        have hgd : keep.getD i 0 = kk := by rw [List.getD_eq_getElem?_getD, hkk]; rfl
        rw [hgd] at hlast
        repeat (first | refine Ev.s ?_ | refine Ev.newC fun _ _ _ => ?_ | refine Ev.boxC fun _ _ _ => ?_ | refine Ev.stC fun _ _ => ?_ | refine Ev.sc (by omega) ?_ | refine Ev.scg (by omega) ?_)
        by_cases hodd : kk % 2 = 0
        · rw [if_neg (fun h => h.2 hodd)] at hlast
          rw [decide_eq_false (fun h => h hodd)]
          rw [← hlast] at hS3
          repeat (first | refine Ev.s ?_ | refine Ev.newC fun _ _ _ => ?_ | refine Ev.boxC fun _ _ _ => ?_ | refine Ev.stC fun _ _ => ?_ | refine Ev.sc (by omega) ?_ | refine Ev.scg (by omega) ?_)
          exact next _ hS3
        · rw [if_pos ⟨hki, hodd⟩] at hlast
          dsimp only at hlast
          rw [decide_eq_true hodd]
          repeat (first | refine Ev.s ?_ | refine Ev.newC fun _ _ _ => ?_ | refine Ev.boxC fun _ _ _ => ?_ | refine Ev.stC fun _ _ => ?_ | refine Ev.sc (by omega) ?_ | refine Ev.scg (by omega) ?_)
          refine Ev.b2 (lay_spec (n := D.n) hO.n2 hlen hmem.1 (by omega) (perm12X hS3)) ?_
          rintro _ H5 ⟨_, hS5⟩
          dsimp only at hS5
          rw [← hlast] at hS5
          clear hS3
          repeat (first | refine Ev.s ?_ | refine Ev.newC fun _ _ _ => ?_ | refine Ev.boxC fun _ _ _ => ?_ | refine Ev.stC fun _ _ => ?_ | refine Ev.sc (by omega) ?_ | refine Ev.scg (by omega) ?_)
          exact next H5 (perm21X hS5)
      · rw [decide_eq_false hki]
        rw [if_neg (fun h => hki h.1)] at hlast
        rw [← hlast] at hS3
        repeat (first | refine Ev.s ?_ | refine Ev.newC fun _ _ _ => ?_ | refine Ev.boxC fun _ _ _ => ?_ | refine Ev.stC fun _ _ => ?_ | refine Ev.sc (by omega) ?_ | refine Ev.scg (by omega) ?_)
        exact next _ hS3
theorem crash_tail {d bb m0 : Nat} {cv kv : Value} {torn : Int} {keep : List Int} {Lc : List (Nat × Blk)} {D : Dsk} (hO : D.OK) (hG : GRS 45 2 cv D.cache.length (caCells D.cache) Lc) (hc : D.cache.length < 1000000000000) (hk0 : FT B kv i64v keep) (hkl : keep.length < 9223372036854775808) (hm0 : m0 < 9223372036854775808)
    (hS : St H0 B0 B ((d, ⟨[sl bb 0 (64 * D.n) (64 * D.n), cv, .int .i64 D.fuse, .bool D.down], 42, .fix⟩) :: (bb, ⟨byts D.bytes, 5, .fix⟩) :: (Lc ++ L)) H) :
    Ev (fun k _ => f11_J0 k (ptr d 0) kv (.int .i64 torn) (i64 m0) H) (DkP H0 B0 B L (ptr d 0) (.tuple #[]) { D with bytes := crashGo keep torn (m0 % 65) 0 D.cache D.bytes, cache := [], fuse := -1, down := false }) := by
  refine Ev.eq (fun k _ => f11_J0_eq k _ _ _ _ H) ?_
  have hcell := hG.cell
  repeat (first | refine Ev.s ?_ | refine Ev.newC fun _ _ _ => ?_ | refine Ev.boxC fun _ _ _ => ?_ | refine Ev.stC fun _ _ => ?_ | refine Ev.sc (by omega) ?_ | refine Ev.scg (by omega) ?_)
  refine Ev.prim (hG.len (Und.eq (P := Try.prog) (t := 40))) ?_
  refine Ev.bind (Ev.loop (crash_loop hO hG hc hk0 hkl hm0 D.cache.length 0 B H (by omega) (Mo.refl B) hS)) ?_
  rintro _ ⟨B', H', rfl, hm, hS'⟩
  refine Ev.eq (fun k _ => f11_A0_x0 k _ _) ?_
  clear hS
  repeat (first | refine Ev.s ?_ | refine Ev.newC fun _ _ _ => ?_ | refine Ev.boxC fun _ _ _ => ?_ | refine Ev.stC fun _ _ => ?_ | refine Ev.sc (by omega) ?_ | refine Ev.scg (by omega) ?_)
  rename_i H1 hS1 H2 hS2 H3 hS3
  have hS4 := (toFront (X := Lc) (La := [(d, _), (bb, _)]) (L := L) hS3)
  have hS5 : St H0 B0 B' ([(d, _), (bb, _)] ++ L) H3 := hS4.drop (List.sublist_append_right _ _)
  exact Ev.ret ⟨rfl, _, B', hm, ⟨d, bb, _, [], rfl, .inl ⟨rfl, rfl, .inl rfl, rfl⟩, rfl⟩, hS5⟩
theorem Crash_spec {p kv : Value} {D : Dsk} {Ls : List (Nat × Blk)} {keep : List Int} {torn cut : Int} (hD : DK p D Ls) (hO : D.OK) (hc : D.cache.length < 1000000000000) (hk : FT B kv i64v keep) (hkl : keep.length < 9223372036854775808) (hcut : -9223372036854775808 ≤ cut ∧ cut < 9223372036854775808) (hS : St H0 B0 B (Ls ++ L) H) :
    Ev (fun k _ => rn k 11 [p, kv, .int .i64 torn, .int .i64 cut] H) (DkP H0 B0 B L p (.tuple #[]) (D.crash keep torn cut)) := by
  obtain ⟨d, bb, cv, Lc, rfl, hG, rfl⟩ := hD
  simp only [List.cons_append] at hS
  refine Ev.fn (fun k => f11_eq k _ _ _ _ H) ?_
  unfold Dsk.crash cutOf
  repeat (first | refine Ev.s ?_ | refine Ev.newC fun _ _ _ => ?_ | refine Ev.boxC fun _ _ _ => ?_ | refine Ev.stC fun _ _ => ?_ | refine Ev.sc (by omega) ?_ | refine Ev.scg (by omega) ?_)
  by_cases h0 : cut < 0
  · rw [decide_eq_true h0, if_pos h0]
    obtain ⟨m0, hm0⟩ : ∃ m0 : Nat, -(cut + 1) = m0 := ⟨(-(cut + 1)).toNat, by omega⟩
    have e1 : (-(cut + 1) % 65).toNat = m0 % 65 := by rw [hm0]; omega
    rw [e1]
    repeat (first | refine Ev.s ?_ | refine Ev.newC fun _ _ _ => ?_ | refine Ev.boxC fun _ _ _ => ?_ | refine Ev.stC fun _ _ => ?_ | refine Ev.sc (by omega) ?_ | refine Ev.scg (by omega) ?_)
    rw [show IntKind.i64.wrap (0 - (cut + 1)) = (m0 : Int) by rw [wrap64 (by omega)]; omega]
    exact crash_tail hO hG hc hk hkl (by omega) hS
  · rw [decide_eq_false h0, if_neg h0]
    obtain ⟨m0, rfl⟩ : ∃ m0 : Nat, cut = m0 := ⟨cut.toNat, by omega⟩
    have e1 : ((m0 : Int) % 65).toNat = m0 % 65 := by omega
    rw [e1]
    repeat (first | refine Ev.s ?_ | refine Ev.newC fun _ _ _ => ?_ | refine Ev.boxC fun _ _ _ => ?_ | refine Ev.stC fun _ _ => ?_ | refine Ev.sc (by omega) ?_ | refine Ev.scg (by omega) ?_)
    exact crash_tail hO hG hc hk hkl (by omega) hS
end
end Go.AM.K
set_option linter.unusedVariables false
set_option linter.unusedSimpArgs false
set_option maxRecDepth 100000
namespace Go.AM.K
open Go Go.AM Go.Proofs
attribute [local irreducible] run bin un ld st box newV mkS fldA fld ixA ix slc slc3 build buildS cv cvS ap cpy lenV gOp pickV b2 aIf aChk evalK resume iterD Option.bind

section
variable {B B0 H0 H : AH} {L : List (Nat × Blk)}
theorem put_at (X : List UInt8) (i m : Nat) (hX : i < X.length) (hm : i + m + 1 = 64) : (byts (X.take i ++ List.replicate (m + 1) 0)).set i (u8 (X.getD i 0).toNat) = byts (X.take (i + 1) ++ List.replicate m 0) := by
  obtain ⟨x, hx, htk⟩ := take_ex hX
  have hg : X.getD i 0 = x := by rw [List.getD_eq_getElem?_getD, hx]; rfl
  have hl : (byts (X.take i)).length = i := by rw [byts_len, List.length_take]; omega
  rw [hg, htk, List.append_assoc, byts_app, byts_app, List.set_append_right _ _ (by omega), hl, Nat.sub_self]
  rfl
theorem fill_loop {b : Nat} {s : List UInt8} (hs : s ≠ []) (hl : s.length < 9223372036854775808) :
    ∀ (m i : Nat) (B H : AH), i + m = 64 → St H0 B0 B ((b, ⟨byts ((fillN s).take i ++ List.replicate m 0), 5, .fix⟩) :: L) H →
    Ev (fun k K => f7_L0 k (str s) (sl b 0 64 64) (i64 i) K H) (fun o => ∃ B' H', o = (.exit 0, f7_X_L0 (sl b 0 64 64), H') ∧ MoC B B' ∧ St H0 B0 B' ((b, ⟨byts (fillN s), 5, .fix⟩) :: L) H') := by
  have hpos : 0 < s.length := List.length_pos_iff.2 hs
  intro m
  induction m with
  | zero =>
    intro i B H hi hS
    refine Ev.succ (fun k K => f7_L0_succ k _ _ _ K H) ?_
    repeat (first | refine Ev.s ?_ | refine Ev.newC fun _ _ _ => ?_ | refine Ev.boxC fun _ _ _ => ?_ | refine Ev.stC fun _ _ => ?_ | refine Ev.sc (by omega) ?_ | refine Ev.scg (by omega) ?_)
    rw [decide_eq_false (by omega)]
    repeat (first | refine Ev.s ?_ | refine Ev.newC fun _ _ _ => ?_ | refine Ev.boxC fun _ _ _ => ?_ | refine Ev.stC fun _ _ => ?_ | refine Ev.sc (by omega) ?_ | refine Ev.scg (by omega) ?_)
    rw [List.take_of_length_le (by rw [fillN_len]; omega), List.replicate_zero, List.append_nil] at hS
    exact Ev.ret ⟨B, H, rfl, ⟨Mo.refl B⟩, hS⟩
  | succ m ih =>
    intro i B H hi hS
    refine Ev.succ (fun k K => f7_L0_succ k _ _ _ K H) ?_
    repeat (first | refine Ev.s ?_ | refine Ev.newC fun _ _ _ => ?_ | refine Ev.boxC fun _ _ _ => ?_ | refine Ev.stC fun _ _ => ?_ | refine Ev.sc (by omega) ?_ | refine Ev.scg (by omega) ?_)
    rw [decide_eq_true (by omega)]
    repeat (first | refine Ev.s ?_ | refine Ev.newC fun _ _ _ => ?_ | refine Ev.boxC fun _ _ _ => ?_ | refine Ev.stC fun _ _ => ?_ | refine Ev.sc (by omega) ?_ | refine Ev.scg (by omega) ?_)
    rw [decide_eq_true (show 0 < s.length by omega)]
    repeat (first | refine Ev.s ?_ | refine Ev.newC fun _ _ _ => ?_ | refine Ev.boxC fun _ _ _ => ?_ | refine Ev.stC fun _ _ => ?_ | refine Ev.sc (by omega) ?_ | refine Ev.scg (by omega) ?_)
    have hmod := Nat.mod_lt i hpos
    refine Ev.prim (ix_str (l := s) (i % s.length) rfl hmod) ?_
    refine Ev.prim (ixA_own (t := 30) inferInstance (show i < 64 by omega)) ?_
    rw [Nat.zero_add]
    refine Ev.st (P := Try.prog) hS (.head _) (stK_own (P := Try.prog) (t := 30) inferInstance (by rw [byts_len, List.length_append, List.length_take, List.length_replicate, fillN_len]; omega) rfl) rfl (.head _) fun H1 hS1 => ?_
    have hx : s.getD (i % s.length) 0 = (fillN s).getD i 0 := by
      unfold fillN
      rw [if_neg hs, List.getD_eq_getElem?_getD (l := List.map _ _), List.getElem?_map, List.getElem?_range (by omega)]
      rfl
    rw [hx, put_at _ _ _ (by rw [fillN_len]; omega) (by omega)] at hS1
    clear hS
    repeat (first | refine Ev.s ?_ | refine Ev.newC fun _ _ _ => ?_ | refine Ev.boxC fun _ _ _ => ?_ | refine Ev.stC fun _ _ => ?_ | refine Ev.sc (by omega) ?_ | refine Ev.scg (by omega) ?_)
    exact ih (i + 1) B H1 (by omega) hS1
theorem fill_spec {s : List UInt8} (hl : s.length < 9223372036854775808) (hS : St H0 B0 B L H) :
    Ev (fun k _ => rn k 7 [str s] H) (fun r => r.1 = str (fillN s) ∧ ∃ B', MoC B B' ∧ St H0 B0 B' L r.2) := by
  refine Ev.fn (fun k => f7_eq k _ H) ?_
  refine Ev.mkS (t := 30) (m := 64) inferInstance hS (by omega) (by omega) fun b B1 H1 hm1 hS1 => ?_
  clear hS
  have tail : ∀ B2 H2, MoC B1 B2 → St H0 B0 B2 ((b, ⟨byts (fillN s), 5, .fix⟩) :: L) H2 → Ev (fun k _ => f7_A0 k (.exit 0) (f7_X_L0 (sl b 0 64 64)) H2) (fun r => r.1 = str (fillN s) ∧ ∃ B', MoC B B' ∧ St H0 B0 B' L r.2) := by
    intro B2 H2 hm2 hS2
    refine Ev.eq (fun k _ => f7_A0_x0 k _ _) ?_
    refine Ev.prim (cvS_part (d := 9) (bs := fillN s) hS2 (.head _) (Nat.le_refl _) (by rw [fillN_len]; omega)) ?_
    rw [List.drop_zero, List.take_of_length_le (by rw [fillN_len]; omega)]
    exact Ev.ret ⟨rfl, B2, ⟨hm1.trans hm2.mo⟩, hS2.drop1⟩
  by_cases hs : s = []
  · subst hs
    have key : Ev (fun k K => f7_L0 k (str []) (sl b 0 64 64) (i64 0) K H1) (fun o => o = (.exit 0, f7_X_L0 (sl b 0 64 64), H1)) := by
      refine Ev.succ (fun k K => f7_L0_succ k _ _ _ K H1) ?_
      repeat (first | refine Ev.s ?_ | refine Ev.newC fun _ _ _ => ?_ | refine Ev.boxC fun _ _ _ => ?_ | refine Ev.stC fun _ _ => ?_ | refine Ev.sc (by omega) ?_ | refine Ev.scg (by omega) ?_)
      rw [decide_eq_true (by omega)]
      repeat (first | refine Ev.s ?_ | refine Ev.newC fun _ _ _ => ?_ | refine Ev.boxC fun _ _ _ => ?_ | refine Ev.stC fun _ _ => ?_ | refine Ev.sc (by omega) ?_ | refine Ev.scg (by omega) ?_)
      rw [decide_eq_false (by simp)]
      repeat (first | refine Ev.s ?_ | refine Ev.newC fun _ _ _ => ?_ | refine Ev.boxC fun _ _ _ => ?_ | refine Ev.stC fun _ _ => ?_ | refine Ev.sc (by omega) ?_ | refine Ev.scg (by omega) ?_)
      exact Ev.ret rfl
    refine Ev.bind (Ev.loop key) ?_
    rintro _ rfl
    exact tail B1 H1 ⟨Mo.refl B1⟩ (by unfold fillN; rw [if_pos rfl, byts_rep]; exact hS1)
  · refine Ev.bind (Ev.loop (fill_loop hs hl 64 0 B1 H1 rfl (by rw [List.take_zero, List.nil_append, byts_rep]; exact hS1))) ?_
    rintro _ ⟨B2, H2, rfl, hm2, hS2⟩
    exact tail B2 H2 hm2 hS2
end
end Go.AM.K
set_option linter.unusedVariables false
set_option linter.unusedSimpArgs false
namespace Go.AM
def sec (bs : List UInt8) (j : Nat) : List UInt8 := (bs.drop (64 * j)).take 64
theorem sec_len {bs : List UInt8} {j n : Nat} (h : bs.length = 64 * n) (hj : j < n) : (sec bs j).length = 64 := by
  unfold sec; rw [List.length_take, List.length_drop]; omega
theorem sec_lay {bs s : List UInt8} {a j n : Nat} (h : bs.length = 64 * n) (ha : a < n) (hs : s.length ≤ 64) : sec (layB bs a s) j = if a = j then s ++ (sec bs j).drop s.length else sec bs j := by
  unfold sec layB
  apply List.ext_getElem?
  intro i
  split
  · rename_i he
    subst he
    simp only [List.getElem?_take, List.getElem?_drop, List.getElem?_append, List.length_take, List.length_drop]
    by_cases h1 : i < 64
    · rw [if_pos h1, if_neg (by omega)]
      by_cases h2 : i < s.length
      · rw [if_pos (by omega), if_pos h2]
        congr 1
        omega
      · rw [if_neg (by omega), if_neg h2, if_pos (by omega)]
        congr 1
        omega
    · rw [if_neg h1, if_neg (by omega), if_neg (by omega)]
  · rename_i he
    simp only [List.getElem?_take, List.getElem?_drop, List.getElem?_append, List.length_take, List.length_drop]
    by_cases h1 : i < 64
    · rw [if_pos h1, if_pos h1]
      by_cases h2 : j < a
      · rw [if_pos (by omega), if_pos (by omega)]
      · rw [if_neg (by omega), if_neg (by omega)]
        congr 1
        omega
    · rw [if_neg h1, if_neg h1]
theorem sec_lay64 {bs s : List UInt8} {a j n : Nat} (h : bs.length = 64 * n) (ha : a < n) (hs : s.length = 64) (hj : j < n) : sec (layB bs a s) j = if a = j then s else sec bs j := by
  rw [sec_lay h ha (by omega)]
  split
  · rw [List.drop_of_length_le (by rw [sec_len h hj]; omega), List.append_nil]
  · rfl
theorem layAll_snoc (l : List (Nat × List UInt8)) (p : Nat × List UInt8) (bs : List UInt8) : layAll (l ++ [p]) bs = layB (layAll l bs) p.1 p.2 := by
  unfold layAll; simp
theorem sec_layAll {n j : Nat} (hj : j < n) : ∀ (m : Nat) (l : List (Nat × List UInt8)) (bs : List UInt8), l.length = m → bs.length = 64 * n → (∀ p ∈ l, p.1 < n ∧ p.2.length = 64) → sec (layAll l bs) j = (find l j).getD (sec bs j)
  | 0, l, bs, hm, h, _ => by
    have : l = [] := List.length_eq_zero_iff.1 hm
    subst this
    rfl
  | m + 1, l, bs, hm, h, hp => by
    obtain ⟨⟨a, s⟩, hx, htk⟩ := take_ex (l := l) (m := m) (by omega)
    rw [List.take_of_length_le (by omega)] at htk
    have h1 := hp (a, s) (List.mem_of_getElem? hx)
    have ih := sec_layAll hj m (l.take m) bs (by rw [List.length_take]; omega) h fun p hp' => hp p (List.mem_of_mem_take hp')
    rw [htk, layAll_snoc, find_snoc]
    dsimp only at h1 ⊢
    rw [sec_lay64 (layAll_len _ _ n h fun p hp' => hp p (List.mem_of_mem_take hp')) h1.1 h1.2 hj, ih]
    split <;> rfl
theorem look_flush {D : Dsk} (h : D.OK) {j : Nat} (hj : j < D.n) : D.flush.look j = D.look j := sec_layAll hj _ D.cache D.bytes rfl h.len h.ca
theorem look_put {D : Dsk} {a j : Nat} {s : List UInt8} : (D.put a s).look j = if a = j then s else D.look j := by
  unfold Dsk.look Dsk.put Dsk.sector
  dsimp only
  rw [find_snoc]
  split <;> rfl
theorem look_new {n j : Nat} (hj : j < n) : (Dsk.new n).look j = List.replicate 64 0 := by
  show ((List.replicate (64 * n) (0 : UInt8)).drop (64 * j)).take 64 = _
  rw [List.drop_replicate, List.take_replicate, Nat.min_eq_left (by omega)]
/-- A disk whose power is there, and whose fuse is none. -/
structure Dsk.Up (D : Dsk) (n : Nat) : Prop where
  ok : D.OK
  n : D.n = n
  fu : D.fuse = -1
  dn : D.down = false
theorem Dsk.up_new {n : Nat} (h1 : 1 ≤ n) (h2 : n ≤ 1024) : (Dsk.new n).Up n := ⟨Dsk.ok_new h1 h2, rfl, rfl, rfl⟩
theorem Dsk.Up.write {D : Dsk} {n i : Nat} {s : List UInt8} (h : D.Up n) (hi : i < n) (hs : s.length = 64) : D.write (i : Int) s = (0, D.put i s) := by
  obtain ⟨n', bytes, cache, fu, dn⟩ := D
  obtain ⟨h1, h2, h3, h4⟩ := h
  dsimp only at h2 h3 h4
  subst h2 h3 h4
  unfold Dsk.write Dsk.act Dsk.put
  dsimp only
  rw [if_neg (by decide), if_neg (by omega), if_neg (by decide)]
  simp
  rfl
theorem Dsk.Up.put {D : Dsk} {n i : Nat} {s : List UInt8} (h : D.Up n) (hi : i < n) (hs : s.length = 64) : (D.put i s).Up n := ⟨h.ok.put (by rw [h.n]; exact hi) hs, h.n, h.fu, h.dn⟩
theorem Dsk.Up.barrier {D : Dsk} {n : Nat} (h : D.Up n) : D.barrier = (0, D.flush) := by
  obtain ⟨n', bytes, cache, fu, dn⟩ := D
  obtain ⟨h1, h2, h3, h4⟩ := h
  dsimp only at h2 h3 h4
  subst h2 h3 h4
  unfold Dsk.barrier Dsk.act
  dsimp only
  rw [if_neg (by decide), if_neg (by decide)]
  rfl
theorem Dsk.Up.flush {D : Dsk} {n : Nat} (h : D.Up n) : D.flush.Up n := ⟨h.ok.flush, h.n, h.fu, h.dn⟩
theorem Dsk.Up.read {D : Dsk} {n i : Nat} (h : D.Up n) (hi : i < n) : D.read (i : Int) = (D.look i, 0) := by
  unfold Dsk.read
  rw [if_neg (by rw [h.dn]; decide), if_neg (by rw [h.n]; omega), Int.toNat_natCast]
theorem Dsk.Up.crash {D : Dsk} {n : Nat} (h : D.Up n) (keep : List Int) (torn cut : Int) : (D.crash keep torn cut).Up n := ⟨h.ok.crash keep torn cut, h.n, rfl, rfl⟩
/-- What a crash leaves of a sector. -/
def tearS (keep : List Int) (torn : Int) (cut : Nat) (k : Nat) (y x : List UInt8) : List UInt8 :=
  if (k : Int) = torn then y.take cut ++ x.drop cut else if k < keep.length ∧ (keep.getD k 0) % 2 ≠ 0 then y else x
theorem sec_tears {keep : List Int} {torn : Int} {cut k n j : Nat} {y bs : List UInt8} (h : bs.length = 64 * n) (hk : k < n) (hy : y.length = 64) (hc : cut ≤ 64) (hj : j < n) : sec (tears keep torn cut k (k, y) bs) j = if k = j then tearS keep torn cut k y (sec bs k) else sec bs j := by
  unfold tears tearS
  dsimp only
  split
  · rw [sec_lay h hk (by rw [List.length_take]; omega), List.length_take, hy, Nat.min_eq_left hc]
    split
    · rename_i e; subst e; rfl
    · rfl
  · split
    · rw [sec_lay64 h hk hy hj]
    · split
      · rename_i e; subst e; rfl
      · rfl
theorem sec_crash {keep : List Int} {torn : Int} {cut n j : Nat} {y : Nat → List UInt8} (hy : ∀ i, (y i).length = 64) (hc : cut ≤ 64) (hj : j < n) : ∀ (m k : Nat) (bs : List UInt8), bs.length = 64 * n → k + m ≤ n →
    sec (crashGo keep torn cut k ((List.range' k m).map fun i => (i, y i)) bs) j = if k ≤ j ∧ j < k + m then tearS keep torn cut j (y j) (sec bs j) else sec bs j
  | 0, k, bs, h, _ => by
    rw [if_neg (by omega)]
    rfl
  | m + 1, k, bs, h, hk => by
    rw [List.range'_succ, List.map_cons]
    show sec (crashGo keep torn cut (k + 1) _ (tears keep torn cut k (k, y k) bs)) j = _
    rw [sec_crash hy hc hj m (k + 1) _ (tears_len h ⟨by dsimp only; omega, hy k⟩) (by omega), sec_tears h (by omega) (hy k) hc hj]
    by_cases h1 : k = j
    · subst h1
      rw [if_neg (by omega), if_pos rfl, if_pos (by omega)]
    · rw [if_neg h1]
      by_cases h2 : k + 1 ≤ j ∧ j < k + 1 + m
      · rw [if_pos h2, if_pos (by omega)]
      · rw [if_neg h2, if_neg (by omega)]
end Go.AM
set_option linter.unusedVariables false
set_option linter.unusedSimpArgs false
set_option maxRecDepth 100000
namespace Go.AM.K
open Go Go.AM Go.Proofs
attribute [local irreducible] run bin un ld st box newV mkS fldA fld ixA ix slc slc3 build buildS cv cvS ap cpy lenV gOp pickV b2 aIf aChk evalK resume iterD Option.bind

section
variable {B B0 H0 H : AH} {L : List (Nat × Blk)}
theorem examples_spec (hS : St H0 B0 B L H) : Ev (fun k _ => rn k 5 [] H) (fun r => r.1 = .bool true ∧ ∃ B', MoC B B' ∧ St H0 B0 B' L r.2) := by
  refine Ev.fn (fun k => f5_eq k H) ?_
  refine Ev.b2 (New_spec (n := 2) (by decide) (by decide) hS) ?_
  rintro _ H1 ⟨p, Ls1, B1, rfl, hm1, hD1, hS1⟩
  obtain ⟨d, hp⟩ : ∃ d, p = ptr d 0 := by obtain ⟨d, bb, cv, Lc, hp, _⟩ := hD1; exact ⟨d, hp⟩
  subst hp
  dsimp only at hS1
  clear hS
  have hu0 := Dsk.up_new (n := 2) (by decide) (by decide)
  repeat (first | refine Ev.s ?_ | refine Ev.newC fun _ _ _ => ?_ | refine Ev.boxC fun _ _ _ => ?_ | refine Ev.stC fun _ _ => ?_ | refine Ev.sc (by omega) ?_ | refine Ev.scg (by omega) ?_)
  have hE : Elt Try.prog 30 5 (.int .u8 0) 1 := inferInstance
  refine Ev.mkS (m := 63) hE hS1 (by decide) (by decide) fun b B2 H2 hm2 hS2 => ?_
  clear hS1
  refine Ev.prim (cvS_part (d := 9) (bs := List.replicate 63 0) (by rw [byts_rep]; exact hS2) (.head _) (Nat.le_refl _) (by decide)) ?_
  have hS3 := hS2.drop1
  clear hS2
  repeat (first | refine Ev.s ?_ | refine Ev.newC fun _ _ _ => ?_ | refine Ev.boxC fun _ _ _ => ?_ | refine Ev.stC fun _ _ => ?_ | refine Ev.sc (by omega) ?_ | refine Ev.scg (by omega) ?_)
  rw [List.drop_zero, List.take_of_length_le (by decide)]
  obtain ⟨S, hS0⟩ : ∃ S : List UInt8, S = List.replicate 63 0 ++ [120] := ⟨_, rfl⟩
  have hSl : S.length = 64 := by rw [hS0]; decide
  refine Ev.prim (add_str (a := List.replicate 63 0) (b := [120]) (by decide)) ?_
  rw [← hS0]
  obtain ⟨D0, hD0⟩ : ∃ D0, D0 = Dsk.new 2 := ⟨_, rfl⟩
  rw [← hD0] at hu0 hD1
  have hc0 : D0.cache = [] := by rw [hD0]; rfl
  have hw : D0.write 1 S = (0, D0.put 1 S) := hu0.write (i := 1) (s := S) (by decide) hSl
  refine Ev.b2 (Write_spec (i := 1) hD1 hu0.ok (by rw [hc0]; decide) hS3) ?_
  rw [hw]
  rintro _ H3 ⟨rfl, Ls2, B3, hm3, hD2, hS4⟩
  dsimp only at hS4 hD2
  clear hS3 hD1
  have hu1 := hu0.put (i := 1) (s := S) (by decide) hSl
  have hr1 := hu1.read (i := 1) (by decide)
  rw [look_put, if_pos rfl] at hr1
  have hc1 : (D0.put 1 S).cache.length = 1 := by show (D0.cache ++ [(1, S)]).length = 1; rw [hc0]; rfl
  refine Ev.b2 (Read_spec (i := ((1 : Nat) : Int)) hD2 hu1.ok (by rw [hc1]; decide) hS4) ?_
  rw [hr1]
  rintro _ H4 ⟨rfl, B4, hm4, hS5⟩
  dsimp only at hS5
  clear hS4
  repeat (first | refine Ev.s ?_ | refine Ev.newC fun _ _ _ => ?_ | refine Ev.boxC fun _ _ _ => ?_ | refine Ev.stC fun _ _ => ?_ | refine Ev.sc (by omega) ?_ | refine Ev.scg (by omega) ?_)
  refine Ev.b2 (Crash_spec (keep := []) (torn := -1) (cut := 0) hD2 hu1.ok (by rw [hc1]; decide) ⟨FL.nil⟩ (by decide) (by decide) hS5) ?_
  rintro _ H5 ⟨rfl, Ls3, B5, hm5, hD3, hS6⟩
  dsimp only at hS6 hD3
  clear hS5 hD2
  have hu2 := hu1.crash [] (-1) 0
  have hr2 := hu2.read (i := 1) (by decide)
  have hl2 : ((D0.put 1 S).crash [] (-1) 0).look 1 = List.replicate 64 0 := by
    have e1 : (D0.put 1 S).crash [] (-1) 0 = { D0 with fuse := -1, down := false } := by
      obtain ⟨n, bytes, cache, fu, dn⟩ := D0
      dsimp only at hc0
      subst hc0
      rfl
    rw [e1]
    show D0.look 1 = _
    rw [hD0]
    exact look_new (by decide)
  rw [hl2] at hr2
  have hc2 : ((D0.put 1 S).crash [] (-1) 0).cache.length = 0 := rfl
  refine Ev.b2 (Read_spec (i := ((1 : Nat) : Int)) hD3 hu2.ok (by rw [hc2]; decide) hS6) ?_
  rw [hr2]
  rintro _ H6 ⟨rfl, B6, hm6, hS7⟩
  dsimp only at hS7
  clear hS6
  repeat (first | refine Ev.s ?_ | refine Ev.newC fun _ _ _ => ?_ | refine Ev.boxC fun _ _ _ => ?_ | refine Ev.stC fun _ _ => ?_ | refine Ev.sc (by omega) ?_ | refine Ev.scg (by omega) ?_)
  refine Ev.mkS (m := 64) hE hS7 (by decide) (by decide) fun b2 B7 H7 hm7 hS8 => ?_
  clear hS7
  refine Ev.gDo (Ev.gPrim (cvS_part (d := 9) (bs := List.replicate 64 0) (by rw [byts_rep]; exact hS8) (.head _) (Nat.le_refl _) (by decide)) rfl ?_)
  rw [List.drop_zero, List.take_of_length_le (by decide)]
  have hS9 := hS8.drop1
  clear hS8
  repeat (first | refine Ev.s ?_ | refine Ev.newC fun _ _ _ => ?_ | refine Ev.boxC fun _ _ _ => ?_ | refine Ev.stC fun _ _ => ?_ | refine Ev.sc (by omega) ?_ | refine Ev.scg (by omega) ?_)
  obtain ⟨D3, hD3e⟩ : ∃ D3, D3 = (D0.put 1 S).crash [] (-1) 0 := ⟨_, rfl⟩
  rw [← hD3e] at hD3 hu2 hc2
  have hw2 : D3.write 2 S = (1, D3) := by
    unfold Dsk.write
    rw [if_neg (by rw [hu2.dn]; decide), if_pos (.inr (.inl (by rw [hu2.n]; decide)))]
  refine Ev.b2 (Write_spec (i := 2) hD3 hu2.ok (by rw [hc2]; decide) hS9) ?_
  rw [hw2]
  rintro _ H8 ⟨rfl, Ls4, B8, hm8, hD4, hS10⟩
  dsimp only at hS10
  clear hS9
  repeat (first | refine Ev.s ?_ | refine Ev.newC fun _ _ _ => ?_ | refine Ev.boxC fun _ _ _ => ?_ | refine Ev.stC fun _ _ => ?_ | refine Ev.sc (by omega) ?_ | refine Ev.scg (by omega) ?_)
  refine Ev.b2 (Sectors_spec hD4 hu2.ok hS10 fun x hx => List.mem_append_left _ hx) ?_
  rintro _ _ ⟨rfl, rfl⟩
  rw [hu2.n]
  repeat (first | refine Ev.s ?_ | refine Ev.newC fun _ _ _ => ?_ | refine Ev.boxC fun _ _ _ => ?_ | refine Ev.stC fun _ _ => ?_ | refine Ev.sc (by omega) ?_ | refine Ev.scg (by omega) ?_)
  exact Ev.ret ⟨rfl, B8, ⟨hm1.mo.trans (hm2.trans (hm3.mo.trans (hm4.mo.trans (hm5.mo.trans (hm6.mo.trans (hm7.trans hm8.mo))))))⟩, hS10.drop (List.sublist_append_right _ _)⟩
end
end Go.AM.K
namespace Go.AM
open Go.RowKit

structure Loc where
  blk : Nat
  base : Nat
  kind : BK
  csize : Nat
  esz : Nat
abbrev Mp := Nat → Option Loc

inductive VRel (m : Mp) : Value → Value → Prop
  | unk (v : Value) : VRel m (.chan (some 0)) v
  | flat (v : Value) : flat1 v = true → VRel m v v
  | ptr (b off : Nat) (L : Loc) : m b = some L → L.kind.row = true → VRel m (.pointer (some ⟨b, off, none⟩)) (.pointer (some ⟨L.blk, L.base + off, none⟩))
  | slice (b off off' len cap cap' : Nat) (L : Loc) : m b = some L → L.kind.row = true → len ≤ cap → len ≤ cap' → (off' = L.base + off ∨ len = 0) → (L.kind = .fix → off' = L.base + off ∧ cap' = cap) →
      (L.kind.gr = true → off = 0 → 0 < cap → off' + cap' * L.esz ≤ L.csize) → (L.kind ≠ .fix → len < cap ∨ (cap = 0 ∧ cap' = 0)) → VRel m (.slice (some ⟨b, off, none⟩) len cap) (.slice (some ⟨L.blk, off', none⟩) len cap')
  | map (b : Nat) (L : Loc) : m b = some L → L.kind = .map → VRel m (.map (some b)) (.map (some L.blk))
  | yld (b : Nat) (L : Loc) : m b = some L → (∃ f key, L.kind = .loop f key) → VRel m (.func (.yield b) #[] #[]) (.func (.yield L.blk) #[] #[])
  | agg (xs ys : Array Value) : xs.size = ys.size → (∀ (i : Nat) (x y : Value), xs[i]? = some x → ys[i]? = some y → VRel m x y) → VRel m (.agg xs) (.agg ys)
  | tuple (xs ys : Array Value) : xs.size = ys.size → (∀ (i : Nat) (x y : Value), xs[i]? = some x → ys[i]? = some y → VRel m x y) → VRel m (.tuple xs) (.tuple ys)
  | func (f : FuncId) (a b a' b' : Array Value) : a.size = a'.size → (∀ (i : Nat) (x y : Value), a[i]? = some x → a'[i]? = some y → VRel m x y) → b.size = b'.size → (∀ (i : Nat) (x y : Value), b[i]? = some x → b'[i]? = some y → VRel m x y) →
      VRel m (.func (.func f) a b) (.func (.func f) a' b')

theorem VRel.mono {m m' : Mp} (hm : ∀ b L, m b = some L → m' b = some L) {x y : Value} (h : VRel m x y) : VRel m' x y := by
  induction h with
  | unk v => exact .unk v
  | flat v h => exact .flat v h
  | ptr b off L h h0 => exact .ptr b off L (hm _ _ h) h0
  | map b L h h0 => exact .map b L (hm _ _ h) h0
  | yld b L h h0 => exact .yld b L (hm _ _ h) h0
  | slice b off off' len cap cap' L h h0 h1 h2 h3 h4 h5 h6 => exact .slice b off off' len cap cap' L (hm _ _ h) h0 h1 h2 h3 h4 h5 h6
  | agg xs ys h _ ih => exact .agg xs ys h ih
  | tuple xs ys h _ ih => exact .tuple xs ys h ih
  | func f a b a' b' h1 _ h2 _ ih1 ih2 => exact .func f a b a' b' h1 ih1 h2 ih2

theorem VRel.undef (m : Mp) : VRel m undef undef := .tuple _ _ rfl fun i x y h _ => by simp at h

def LRel (m : Mp) (xs ys : List Value) : Prop := xs.length = ys.length ∧ ∀ (i : Nat) (x y : Value), xs[i]? = some x → ys[i]? = some y → VRel m x y
theorem LRel.mono {m m' : Mp} (hm : ∀ b L, m b = some L → m' b = some L) {xs ys : List Value} (h : LRel m xs ys) : LRel m' xs ys := ⟨h.1, fun i x y hx hy => (h.2 i x y hx hy).mono hm⟩
theorem LRel.nil (m : Mp) : LRel m [] [] := ⟨rfl, fun i x y h => by simp at h⟩
theorem LRel.cons {m : Mp} {x y : Value} {xs ys : List Value} (h : VRel m x y) (hs : LRel m xs ys) : LRel m (x :: xs) (y :: ys) := by
  refine ⟨by simp [hs.1], fun i a b ha hb => ?_⟩
  cases i with
  | zero => simp at ha hb; subst ha hb; exact h
  | succ i => simp at ha hb; exact hs.2 i a b ha hb
theorem LRel.cons_inv {m : Mp} {x : Value} {xs ys : List Value} (h : LRel m (x :: xs) ys) : ∃ y zs, ys = y :: zs ∧ VRel m x y ∧ LRel m xs zs := by
  cases ys with
  | nil => have := h.1; simp at this
  | cons y zs => exact ⟨y, zs, rfl, h.2 0 x y rfl rfl, by have := h.1; simpa using this, fun i a b ha hb => h.2 (i + 1) a b (by simpa using ha) (by simpa using hb)⟩
theorem LRel.nil_inv {m : Mp} {ys : List Value} (h : LRel m [] ys) : ys = [] := List.eq_nil_of_length_eq_zero (by rw [← h.1]; rfl)
theorem LRel.append {m : Mp} {xs ys xs' ys' : List Value} (h : LRel m xs ys) (h' : LRel m xs' ys') : LRel m (xs ++ xs') (ys ++ ys') := by
  refine ⟨by simp [h.1, h'.1], fun i a b ha hb => ?_⟩
  rw [List.getElem?_append] at ha hb
  rw [← h.1] at hb
  split at ha
  · rename_i hi; rw [if_pos hi] at hb; exact h.2 i a b ha hb
  · rename_i hi; rw [if_neg hi] at hb; exact h'.2 _ a b ha hb
theorem LRel.take {m : Mp} {xs ys : List Value} (h : LRel m xs ys) (n : Nat) : LRel m (xs.take n) (ys.take n) := by
  refine ⟨by simp [h.1], fun i a b ha hb => ?_⟩
  rw [List.getElem?_take] at ha hb
  split at ha
  · rename_i hi; rw [if_pos hi] at hb; exact h.2 i a b ha hb
  · cases ha
theorem LRel.drop {m : Mp} {xs ys : List Value} (h : LRel m xs ys) (n : Nat) : LRel m (xs.drop n) (ys.drop n) := by
  refine ⟨by simp [h.1], fun i a b ha hb => ?_⟩
  rw [List.getElem?_drop] at ha hb
  exact h.2 _ a b ha hb
theorem LRel.set {m : Mp} {xs ys : List Value} (h : LRel m xs ys) (n : Nat) {x y : Value} (hv : VRel m x y) : LRel m (xs.set n x) (ys.set n y) := by
  refine ⟨by simp [h.1], fun i a b ha hb => ?_⟩
  by_cases hn : n = i
  · subst hn
    have h1 : n < xs.length := by
      rcases Nat.lt_or_ge n xs.length with h1 | h1
      · exact h1
      · rw [List.getElem?_eq_none (by simpa using h1)] at ha; cases ha
    rw [List.getElem?_set_self h1] at ha
    rw [List.getElem?_set_self (by rw [← h.1]; exact h1)] at hb
    cases ha
    cases hb
    exact hv
  · rw [List.getElem?_set_ne hn] at ha hb
    exact h.2 i a b ha hb
theorem LRel.map {m : Mp} {α : Type} (f g : α → Value) (l : List α) (h : ∀ a ∈ l, VRel m (f a) (g a)) : LRel m (l.map f) (l.map g) := by
  induction l with
  | nil => exact LRel.nil m
  | cons a l ih => exact LRel.cons (h a (by simp)) (ih fun b hb => h b (by simp [hb]))
theorem LRel.spl {m : Mp} {xs ys us vs : List Value} (h : LRel m xs ys) (h' : LRel m us vs) (o : Nat) : LRel m (spl xs o us) (spl ys o vs) := by
  unfold AM.spl
  rw [← h'.1]
  exact (h.take o).append (h'.append (h.drop _))
theorem length_spl (xs : List Value) (o : Nat) (ys : List Value) (h : o + ys.length ≤ xs.length) : (spl xs o ys).length = xs.length := by
  unfold spl; simp; omega
theorem LRel.of_flat {m : Mp} : ∀ (l : List Value), l.all flat1 = true → LRel m l l := fun l h => ⟨rfl, fun i x y hx hy => by
  rw [hx] at hy
  cases hy
  exact .flat x (List.all_eq_true.1 h x (List.mem_of_getElem? hx))⟩

theorem VRel.aggL {m : Mp} {xs ys : Array Value} (h : LRel m xs.toList ys.toList) : VRel m (.agg xs) (.agg ys) :=
  .agg xs ys (by simpa using h.1) fun i x y hx hy => h.2 i x y (by simpa using hx) (by simpa using hy)
theorem VRel.agg_inv {m : Mp} {xs : Array Value} {v : Value} (h : VRel m (.agg xs) v) : ∃ ys, v = .agg ys ∧ LRel m xs.toList ys.toList := by
  cases h with
  | flat v h => simp [flat1] at h
  | agg xs ys h1 h2 => exact ⟨ys, rfl, by simpa using h1, fun i x y hx hy => h2 i x y (by simpa using hx) (by simpa using hy)⟩
theorem VRel.tuple_inv {m : Mp} {xs : Array Value} {v : Value} (h : VRel m (.tuple xs) v) : ∃ ys, v = .tuple ys ∧ LRel m xs.toList ys.toList := by
  cases h with
  | flat v h => simp [flat1] at h
  | tuple xs ys h1 h2 => exact ⟨ys, rfl, by simpa using h1, fun i x y hx hy => h2 i x y (by simpa using hx) (by simpa using hy)⟩
theorem VRel.flat_inv {m : Mp} {x v : Value} (hf : flat1 x = true) (h : VRel m x v) : v = x := by
  cases h <;> first | rfl | simp [flat1] at hf
theorem VRel.of_flat {m : Mp} {v : Value} (h : AM.flat v = true) : VRel m v v := by
  unfold AM.flat at h
  split at h
  · exact VRel.aggL (LRel.of_flat _ h)
  · exact .flat _ h
theorem VRel.ptr_inv {m : Mp} {b off : Nat} {v : Value} (h : VRel m (.pointer (some ⟨b, off, none⟩)) v) : ∃ L, m b = some L ∧ v = .pointer (some ⟨L.blk, L.base + off, none⟩) ∧ L.kind.row = true := by
  cases h with
  | flat v h => simp [flat1] at h
  | ptr b off L h h0 => exact ⟨L, h, rfl, h0⟩
theorem VRel.slice_inv {m : Mp} {b off len cap : Nat} {v : Value} (h : VRel m (.slice (some ⟨b, off, none⟩) len cap) v) : ∃ L off' cap', m b = some L ∧ v = .slice (some ⟨L.blk, off', none⟩) len cap' ∧ len ≤ cap ∧ len ≤ cap' ∧
    (off' = L.base + off ∨ len = 0) ∧ (L.kind = .fix → off' = L.base + off ∧ cap' = cap) ∧ (L.kind.gr = true → off = 0 → 0 < cap → off' + cap' * L.esz ≤ L.csize) ∧ (L.kind ≠ .fix → len < cap ∨ (cap = 0 ∧ cap' = 0)) ∧ L.kind.row = true := by
  cases h with
  | flat v h => simp [flat1] at h
  | slice b off off' len cap cap' L h h0 h1 h2 h3 h4 h5 h6 => exact ⟨L, off', cap', h, rfl, h1, h2, h3, h4, h5, h6, h0⟩
theorem VRel.map_inv {m : Mp} {b : Nat} {v : Value} (h : VRel m (.map (some b)) v) : ∃ L, m b = some L ∧ v = .map (some L.blk) ∧ L.kind = .map := by
  cases h with
  | flat v h => simp [flat1] at h
  | map b L h h0 => exact ⟨L, h, rfl, h0⟩
theorem VRel.yld_inv {m : Mp} {b : Nat} {xs ys : Array Value} {v : Value} (h : VRel m (.func (.yield b) xs ys) v) : ∃ L, m b = some L ∧ v = .func (.yield L.blk) #[] #[] ∧ (∃ f key, L.kind = .loop f key) ∧ xs = #[] ∧ ys = #[] := by
  cases h with
  | flat v h => simp [flat1] at h
  | yld b L h h0 => exact ⟨L, h, rfl, h0, rfl, rfl⟩
/-- Cells: each is one, on both sides. -/
theorem VRel.isCell {m : Mp} {x y : Value} (h : VRel m x y) (hc : AM.isCell x = true) : y.oneCell' = true ∧ y.cells = #[y] := by
  cases h <;> first
    | (simp [AM.isCell] at hc; done)
    | exact ⟨rfl, rfl⟩
    | (rename_i hf; cases x <;> simp [flat1] at hf <;> exact ⟨rfl, rfl⟩)
theorem VRel.cells {m : Mp} {x y : Value} (h : VRel m x y) (hc : okCells x = true) : LRel m x.cells.toList y.cells.toList ∧ ∀ u ∈ y.cells.toList, u.oneCell' = true := by
  by_cases ha : ∃ cs, x = .agg cs
  · obtain ⟨cs, rfl⟩ := ha
    obtain ⟨ys, rfl, hl⟩ := h.agg_inv
    refine ⟨hl, fun u hu => ?_⟩
    obtain ⟨i, hi⟩ := List.getElem?_of_mem hu
    have hlt : i < cs.toList.length := by rw [hl.1]; exact (List.getElem?_eq_some_iff.1 hi).1
    have hx := List.getElem?_eq_getElem hlt
    exact (VRel.isCell (hl.2 i _ _ hx hi) (List.all_eq_true.1 hc _ (List.mem_of_getElem? hx))).1
  · have hx : x.cells = #[x] := by cases x <;> first | rfl | exact (ha ⟨_, rfl⟩).elim
    have hc' : AM.isCell x = true := by unfold okCells at hc; cases x <;> first | exact hc | exact (ha ⟨_, rfl⟩).elim
    obtain ⟨h1, h2⟩ := h.isCell hc'
    rw [hx, h2]
    exact ⟨LRel.cons h (LRel.nil m), fun u hu => by simp at hu; subst hu; exact h1⟩

/-- How a loop's block stands to the machine's record. -/
def StOK (c : Nat) (st : LoopState) (pe : Option Code) : Prop :=
  match c with
  | 0 => st = .ready ∧ pe = none
  | 1 => st = .busy
  | 2 => st = .done ∧ pe = some .ret
  | n + 3 => st = .done ∧ pe = some (.exit n)
/-- One block. -/
structure BRel (P : Program) (B0 : Nat) (m : Mp) (L : Loc) (k : Blk) (w : World) : Prop where
  kind : L.kind = k.kind
  there : k.kind.row = true → ∃ c e fr, w.heap[L.blk]? = some (.cells c e fr) ∧ LRel m k.cells ((c.toList.drop L.base).take k.cells.length) ∧ (k.kind ≠ .ro → (k.kind ≠ .buf → fr = (0, 0)) ∧ e = k.elem ∧ L.base ≤ c.size) ∧ (k.kind = .fix → L.base = 0 ∧ c.size = k.cells.length) ∧
    (k.kind.gr = true → c.size = L.csize) ∧ (k.kind = .buf → fr.2 ≤ L.base + k.cells.length ∧ (k.cells = [] → fr.2 = 0))
  mp : k.kind = .map → ∃ es clock, w.heap[L.blk]? = some (.map es clock) ∧ LRel m k.cells (es.toList.flatMap fun e => [e.key, e.val])
  lp : ∀ f key, k.kind = .loop f key → ∃ rc : Loop, w.heap[L.blk]? = some (.loop rc) ∧ rangeAt P f key = some (rc.params, rc.assign, rc.body) ∧ ∃ (c : Nat) (T : List Value), k.cells = .int .i64 (c : Int) :: T ∧ LRel m T rc.tmps.toList ∧ StOK c rc.state rc.pending
  own : k.kind ≠ .ro → B0 ≤ L.blk
  esz : k.kind.gr = true → L.esz = szT P k.elem
structure Rel (P : Program) (B0 : Nat) (w0 : World) (m : Mp) (H : AH) (w : World) : Prop where
  below : Below B0 w0 w
  hB : B0 ≤ w.heap.size
  dom : ∀ b L, m b = some L → b < H.length ∧ L.blk < w.heap.size
  blks : ∀ b L k, m b = some L → blk H b = some k → BRel P B0 m L k w
  inj : ∀ b1 b2 L1 L2 k1 k2, m b1 = some L1 → m b2 = some L2 → blk H b1 = some k1 → blk H b2 = some k2 → k1.kind ≠ .ro → b1 ≠ b2 → L1.blk ≠ L2.blk
structure Ext (m : Mp) (H : AH) (w : World) (m' : Mp) (H' : AH) (w' : World) : Prop where
  mono : ∀ b L, m b = some L → m' b = some L
  len : H.length ≤ H'.length
  size : w.heap.size ≤ w'.heap.size
  alive : ∀ b k', b < H.length → blk H' b = some k' → ∃ k, blk H b = some k ∧ k.kind = k'.kind
  new : ∀ b L, m' b = some L → m b = some L ∨ (H.length ≤ b ∧ (w.heap.size ≤ L.blk ∨ ∃ b0 L0 k0, m b0 = some L0 ∧ blk H b0 = some k0 ∧ k0.kind ≠ .ro ∧ L0.blk = L.blk))
  frame : ∀ B, B < w.heap.size → (∀ b L k, m b = some L → blk H b = some k → k.kind ≠ .ro → L.blk ≠ B) → w'.heap[B]? = w.heap[B]?
theorem Ext.refl (m : Mp) (H : AH) (w : World) : Ext m H w m H w := ⟨fun _ _ h => h, Nat.le_refl _, Nat.le_refl _, fun _ k' _ h => ⟨k', h, rfl⟩, fun _ _ h => .inl h, fun _ _ _ => rfl⟩
theorem Ext.trans {m m' m'' : Mp} {H H' H'' : AH} {w w' w'' : World} (hd : ∀ b L, m b = some L → b < H.length) (h : Ext m H w m' H' w') (k : Ext m' H' w' m'' H'' w'') : Ext m H w m'' H'' w'' := by
  refine ⟨fun b L hb => k.mono b L (h.mono b L hb), Nat.le_trans h.len k.len, Nat.le_trans h.size k.size, ?_, ?_, ?_⟩
  · intro b k'' hb hk
    obtain ⟨k', h1, h2⟩ := k.alive b k'' (Nat.lt_of_lt_of_le hb h.len) hk
    obtain ⟨k0, h3, h4⟩ := h.alive b k' hb h1
    exact ⟨k0, h3, h4.trans h2⟩
  · intro b L hb
    rcases k.new b L hb with h1 | ⟨h1, h2⟩
    · exact h.new b L h1
    · refine .inr ⟨Nat.le_trans h.len h1, ?_⟩
      rcases h2 with h2 | ⟨b0, L0, k0, h3, h4, h5, h6⟩
      · exact .inl (Nat.le_trans h.size h2)
      · rcases h.new b0 L0 h3 with h7 | ⟨h7, h8⟩
        · obtain ⟨k1, h9, h10⟩ := h.alive b0 k0 (hd _ _ h7) h4
          exact .inr ⟨b0, L0, k1, h7, h9, by rw [h10]; exact h5, h6⟩
        · rw [h6] at h8
          exact h8
  · intro B hB hr
    rw [k.frame B (Nat.lt_of_lt_of_le hB h.size), h.frame B hB hr]
    intro b L k' hb hk hne
    rcases h.new b L hb with h1 | ⟨h1, h2⟩
    · obtain ⟨k0, h3, h4⟩ := h.alive b k' (hd _ _ h1) hk
      exact hr b L k0 h1 h3 (by rw [h4]; exact hne)
    · rcases h2 with h2 | ⟨b0, L0, k0, h3, h4, h5, h6⟩
      · omega
      · rw [← h6]; exact hr b0 L0 k0 h3 h4 h5
end Go.AM
namespace Go.AM
open Go.RowKit

theorem blk_lt' {H : AH} {b : Nat} {k : Blk} (h : blk H b = some k) : b < H.length := by
  unfold blk at h
  rcases Nat.lt_or_ge b H.length with h1 | h1
  · exact h1
  · rw [List.getElem?_eq_none h1] at h; cases h
theorem blk_mkB_old' {H : AH} {b : Nat} (cs : List Value) (e : TypeId) (kd : BK) (h : b < H.length) : blk (mkB H cs e kd) b = blk H b := by
  unfold blk mkB
  rw [List.getElem?_append_left h]
theorem blk_mkB_new' (H : AH) (cs : List Value) (e : TypeId) (kd : BK) : blk (mkB H cs e kd) H.length = some ⟨cs, e, kd⟩ := by
  unfold blk mkB
  simp
theorem length_mkB' (H : AH) (cs : List Value) (e : TypeId) (kd : BK) : (mkB H cs e kd).length = H.length + 1 := by simp [mkB]
theorem blk_put_same {H : AH} {b : Nat} (k : Blk) (cs : List Value) (h : b < H.length) : blk (put H b k cs) b = some ⟨cs, k.elem, k.kind⟩ := by
  unfold blk put
  rw [List.getElem?_set_self h]
  rfl
theorem blk_put_ne {H : AH} {b c : Nat} (k : Blk) (cs : List Value) (h : b ≠ c) : blk (put H b k cs) c = blk H c := by
  unfold blk put
  rw [List.getElem?_set_ne h]
theorem length_put' (H : AH) (b : Nat) (k : Blk) (cs : List Value) : (put H b k cs).length = H.length := by simp [put]
theorem blk_kill_same (H : AH) (b : Nat) : blk (kill H b) b = none := by
  unfold blk kill
  rcases Nat.lt_or_ge b H.length with h1 | h1
  · rw [List.getElem?_set_self h1]; rfl
  · rw [List.getElem?_eq_none (by simpa using h1)]; rfl
theorem blk_kill_ne {H : AH} {b c : Nat} (h : b ≠ c) : blk (kill H b) c = blk H c := by
  unfold blk kill
  rw [List.getElem?_set_ne h]
theorem length_kill' (H : AH) (b : Nat) : (kill H b).length = H.length := by simp [kill]

section
variable {P : Program} {B0 : Nat} {w0 : World} {m : Mp} {H : AH} {w : World}

theorem addAddr (b o j : Nat) : (⟨b, o, none⟩ : Addr).add j = ⟨b, o + j, none⟩ := Addr.add_lit b o j
theorem BRel.at {L : Loc} {k : Blk} {w' : World} {m' : Mp} (h : BRel P B0 m L k w) (hm : ∀ b L, m b = some L → m' b = some L) (e : w'.heap[L.blk]? = w.heap[L.blk]?) : BRel P B0 m' L k w' := by
  refine ⟨h.kind, fun hk => ?_, fun hk => ?_, fun f key hk => ?_, h.own, h.esz⟩
  · obtain ⟨c, e2, fr, hw, r1, r2⟩ := h.there hk
    exact ⟨c, e2, fr, by rw [e]; exact hw, r1.mono hm, r2⟩
  · obtain ⟨es, ck, hw, r⟩ := h.mp hk
    exact ⟨es, ck, by rw [e]; exact hw, r.mono hm⟩
  · obtain ⟨rc, hw, r1, c, T, r2, r3, r4⟩ := h.lp f key hk
    exact ⟨rc, by rw [e]; exact hw, r1, c, T, r2, r3.mono hm, r4⟩
theorem BRel.noMap {L : Loc} {k : Blk} (h : BRel P B0 m L k w) {c : Array Value} {e : TypeId} {fr : Nat × Nat} (hw : w.heap[L.blk]? = some (.cells c e fr)) : k.kind.row = true := by
  have h1 : k.kind ≠ .map := by
    intro hk
    obtain ⟨es, ck, h1, _⟩ := h.mp hk
    rw [hw] at h1
    cases h1
  have h2 : ∀ f key, k.kind ≠ .loop f key := by
    intro f key hk
    obtain ⟨rc, h1, _⟩ := h.lp f key hk
    rw [hw] at h1
    cases h1
  cases hk : k.kind <;> first | rfl | exact absurd hk h1 | exact absurd hk (h2 _ _)
theorem BK.row_map {k : BK} (h : k.row = true) : k ≠ .map ∧ ∀ f key, k ≠ .loop f key := by
  cases k <;> first | (cases h; done) | exact ⟨by simp, by simp⟩
theorem BK.wr_row {k : BK} (h : k.wr = true) : k.row = true ∧ k ≠ .ro ∧ k ≠ .buf := by
  cases k <;> first | (cases h; done) | exact ⟨rfl, by simp, by simp⟩
theorem BK.gr_row {k : BK} (h : k.gr = true) : k.row = true ∧ k ≠ .ro ∧ k ≠ .fix := by
  cases k <;> first | (cases h; done) | exact ⟨rfl, by simp, by simp⟩
theorem BRel.row {L : Loc} {k : Blk} (h : BRel P B0 m L k w) (h0 : L.kind.row = true) {off n : Nat} {cs : List Value} (hr : rdN k off n = some cs) :
    ∃ ds, LRel m cs ds ∧ ∀ (j : Nat) (u : Value), ds[j]? = some u → w.cell? ((⟨L.blk, L.base + off, none⟩ : Addr).add j) = some u := by
  obtain ⟨c, e, fr, hw, hl, _⟩ := h.there (by rw [← h.kind]; exact h0)
  unfold rdN at hr
  split at hr
  · rename_i hle
    cases hr
    refine ⟨_, (hl.drop off).take n, fun j u hu => ?_⟩
    rw [addAddr]
    unfold World.cell?
    rw [hw]
    rw [List.getElem?_take] at hu
    split at hu
    · rename_i hj
      rw [List.getElem?_drop, List.getElem?_take, if_pos (by omega), List.getElem?_drop] at hu
      simp only [Option.isSome_none, Bool.false_eq_true, if_false]
      rw [← Array.getElem?_toList, ← hu]
      congr 1
      omega
    · cases hu
  · cases hr
theorem BRel.cell {L : Loc} {k : Blk} (h : BRel P B0 m L k w) (h0 : L.kind.row = true) {off : Nat} {x : Value} (hx : k.cells[off]? = some x) :
    ∃ y, VRel m x y ∧ w.cell? ⟨L.blk, L.base + off, none⟩ = some y := by
  have hlt := (List.getElem?_eq_some_iff.1 hx).1
  obtain ⟨ds, hl, hc⟩ := h.row h0 (off := off) (n := 1) (cs := (k.cells.drop off).take 1) (by unfold rdN; rw [if_pos (by omega)])
  have h0 : ((k.cells.drop off).take 1)[0]? = some x := by simp [hx]
  have hlen := hl.1
  cases ds with
  | nil => simp at hlen; omega
  | cons y ds => exact ⟨y, hl.2 0 x y h0 rfl, by simpa [addAddr] using hc 0 y rfl⟩

theorem setRow_size (w : World) (g : Nat) (cs : Array Value) : (w.setRow g cs).heap.size = w.heap.size := by simp [World.setRow]
theorem setRow_ne (w : World) {g k : Nat} (cs : Array Value) (h : g ≠ k) : (w.setRow g cs).heap[k]? = w.heap[k]? := by
  simp only [World.setRow, Array.getElem?_modify]
  rw [if_neg h]
/-- A block of the call's own is written. -/
theorem Rel.write (h : Rel P B0 w0 m H w) {b : Nat} {L : Loc} {k : Blk} (hm : m b = some L) (hb : blk H b = some k) (hk : k.kind ≠ .ro) {c : Array Value} {e : TypeId} {fr : Nat × Nat} (hw : w.heap[L.blk]? = some (.cells c e fr))
    (cs : List Value) (c' : Array Value) (hs : c'.size = c.size) (hlen : cs.length = k.cells.length) (hl : LRel m cs ((c'.toList.drop L.base).take cs.length)) :
    Rel P B0 w0 m (put H b k cs) (w.setRow L.blk c') ∧ Ext m H w m (put H b k cs) (w.setRow L.blk c') := by
  have hB := (h.blks b L k hm hb)
  have hfr : Ext m H w m (put H b k cs) (w.setRow L.blk c') := by
    refine ⟨fun _ _ h => h, Nat.le_of_eq (length_put' ..).symm, Nat.le_of_eq (setRow_size ..).symm, ?_, fun _ _ h => .inl h, ?_⟩
    · intro b2 k2 _ hk2
      by_cases hbb : b = b2
      · subst hbb
        rw [blk_put_same _ _ (blk_lt' hb)] at hk2
        cases hk2
        exact ⟨k, hb, rfl⟩
      · rw [blk_put_ne _ _ hbb] at hk2
        exact ⟨k2, hk2, rfl⟩
    · intro B _ hr
      exact setRow_ne _ _ (hr b L k hm hb hk)
  refine ⟨⟨?_, ?_, ?_, ?_, ?_⟩, hfr⟩
  · refine h.below.trans ⟨rfl, rfl, rfl, hfr.size, fun j hj => setRow_ne _ _ ?_⟩
    have := hB.own hk
    omega
  · rw [setRow_size]; exact h.hB
  · intro b2 L2 h2
    rw [length_put', setRow_size]
    exact h.dom b2 L2 h2
  · intro b2 L2 k2 hm2 hk2
    by_cases hbb : b = b2
    · subst hbb
      rw [hm] at hm2
      cases hm2
      rw [blk_put_same _ _ (blk_lt' hb)] at hk2
      cases hk2
      have hnm := hB.noMap hw
      obtain ⟨c0, e0, fr0, hw0, _, h3, h4, h5, h6⟩ := hB.there hnm
      rw [hw] at hw0
      cases hw0
      exact ⟨hB.kind, fun _ => ⟨c', e, fr, setRow_heap w _ _ _ _ _ hw, hl, (fun hx => by rw [hs]; exact h3 hx), fun hf => ⟨(h4 hf).1, by rw [hs, (h4 hf).2, hlen]⟩, fun hg => by rw [hs, h5 hg], fun hbf => ⟨by show fr.2 ≤ L.base + cs.length; rw [hlen]; exact (h6 hbf).1, fun hn => (h6 hbf).2 (List.eq_nil_of_length_eq_zero (by rw [← hlen]; show cs.length = 0; rw [show cs = [] from hn]; rfl))⟩⟩, fun hx => absurd hx (BK.row_map hnm).1, fun f key hx => absurd hx ((BK.row_map hnm).2 f key), hB.own, hB.esz⟩
    · rw [blk_put_ne _ _ hbb] at hk2
      have hne : L.blk ≠ L2.blk := h.inj b b2 L L2 k k2 hm hm2 hb hk2 hk hbb
      exact (h.blks b2 L2 k2 hm2 hk2).at (fun _ _ h => h) (setRow_ne _ _ hne)
  · intro b1 b2 L1 L2 k1 k2 hm1 hm2 hk1 hk2 hne hbb
    have up : ∀ b3 k3, blk (put H b k cs) b3 = some k3 → ∃ k4, blk H b3 = some k4 ∧ k4.kind = k3.kind := fun b3 k3 h3 => hfr.alive b3 k3 (by have := blk_lt' h3; rwa [length_put'] at this) h3
    obtain ⟨k3, h3, h4⟩ := up b1 k1 hk1
    obtain ⟨k4, h5, _⟩ := up b2 k2 hk2
    exact h.inj b1 b2 L1 L2 k3 k4 hm1 hm2 h3 h5 (by rw [h4]; exact hne) hbb
def upd (m : Mp) (b : Nat) (L : Loc) : Mp := fun i => if i = b then some L else m i
theorem upd_same (m : Mp) (b : Nat) (L : Loc) : upd m b L b = some L := by simp [upd]
theorem upd_mono (h : ∀ b L, m b = some L → b < H.length) (L0 : Loc) : ∀ b L, m b = some L → upd m H.length L0 b = some L := by
  intro b L hb
  unfold upd
  rw [if_neg (by have := h b L hb; omega)]
  exact hb
theorem Rel.drew (h : Rel P B0 w0 m H w) : Rel P B0 w0 m H w.drew :=
  ⟨h.below.drew, h.hB, h.dom, fun b L k h1 h2 => (h.blks b L k h1 h2).at (fun _ _ h => h) rfl, h.inj⟩
theorem Ext.drew {m' : Mp} {H' : AH} {w' : World} (h : Ext m H w m' H' w') : Ext m H w m' H' w'.drew := ⟨h.mono, h.len, h.size, h.alive, h.new, h.frame⟩
theorem Ext.drewL {m' : Mp} {H' : AH} {w' : World} (h : Ext m H w.drew m' H' w') : Ext m H w m' H' w' := ⟨h.mono, h.len, h.size, h.alive, h.new, h.frame⟩
/-- A block is made. -/
theorem Rel.make (h : Rel P B0 w0 m H w) (cs : List Value) (e : TypeId) (kd : BK) (c : Array Value) (hkd : kd ≠ .ro) (hl : LRel m cs (c.toList.take cs.length)) (hf : kd = .fix → c.size = cs.length) (hkm : kd.row = true := by decide) :
    let L : Loc := ⟨w.heap.size, 0, kd, c.size, szT P e⟩
    Rel P B0 w0 (upd m H.length L) (mkB H cs e kd) (w.alloc (.cells c e)) ∧ Ext m H w (upd m H.length L) (mkB H cs e kd) (w.alloc (.cells c e)) := by
  intro L
  have hmono := upd_mono (m := m) (H := H) (fun b L hb => (h.dom b L hb).1) L
  have old : ∀ b2 L2, upd m H.length L b2 = some L2 → (b2 = H.length ∧ L2 = L) ∨ (b2 ≠ H.length ∧ m b2 = some L2) := by
    intro b2 L2 h2
    unfold upd at h2
    split at h2
    · rename_i hb; cases h2; exact .inl ⟨hb, rfl⟩
    · rename_i hb; exact .inr ⟨hb, h2⟩
  have hfr : Ext m H w (upd m H.length L) (mkB H cs e kd) (w.alloc (.cells c e)) := by
    refine ⟨hmono, by rw [length_mkB']; omega, by simp, ?_, ?_, fun B hB _ => Below.heap_alloc w _ _ hB⟩
    · intro b2 k2 hb2 hk2
      rw [blk_mkB_old' _ _ _ hb2] at hk2
      exact ⟨k2, hk2, rfl⟩
    · intro b2 L2 h2
      rcases old b2 L2 h2 with ⟨rfl, rfl⟩ | ⟨_, h3⟩
      · exact .inr ⟨Nat.le_refl _, .inl (Nat.le_refl _)⟩
      · exact .inl h3
  refine ⟨⟨h.below.alloc h.hB _, by simp; exact Nat.le_succ_of_le h.hB, ?_, ?_, ?_⟩, hfr⟩
  · intro b2 L2 h2
    rw [length_mkB']
    simp only [World.size_alloc]
    rcases old b2 L2 h2 with ⟨rfl, rfl⟩ | ⟨_, h3⟩
    · exact ⟨by omega, by show w.heap.size < _; omega⟩
    · have := h.dom b2 L2 h3; omega
  · intro b2 L2 k2 h2 hk2
    rcases old b2 L2 h2 with ⟨rfl, rfl⟩ | ⟨hne, h3⟩
    · rw [blk_mkB_new'] at hk2
      cases hk2
      refine ⟨rfl, fun _ => ⟨c, e, (0, 0), heap_alloc_new w _, ?_, fun _ => ⟨fun _ => rfl, rfl, Nat.zero_le _⟩, fun hk => ⟨rfl, hf hk⟩, fun _ => rfl, fun _ => ⟨Nat.zero_le _, fun _ => rfl⟩⟩, fun hx => absurd hx (BK.row_map hkm).1, fun f key hx => absurd hx ((BK.row_map hkm).2 f key), fun _ => h.hB, fun _ => rfl⟩
      show LRel _ cs ((c.toList.drop 0).take cs.length)
      rw [List.drop_zero]
      exact hl.mono hmono
    · have hlt := (h.dom b2 L2 h3)
      rw [blk_mkB_old' _ _ _ hlt.1] at hk2
      exact (h.blks b2 L2 k2 h3 hk2).at hmono (Below.heap_alloc w _ _ hlt.2)
  · intro b1 b2 L1 L2 k1 k2 hm1 hm2 hk1 hk2 hne hbb
    rcases old b1 L1 hm1 with ⟨rfl, rfl⟩ | ⟨hn1, h1⟩
    · rcases old b2 L2 hm2 with ⟨rfl, rfl⟩ | ⟨hn2, h2⟩
      · exact (hbb rfl).elim
      · have := (h.dom b2 L2 h2).2
        show w.heap.size ≠ L2.blk
        omega
    · have hd1 := h.dom b1 L1 h1
      rw [blk_mkB_old' _ _ _ hd1.1] at hk1
      rcases old b2 L2 hm2 with ⟨rfl, rfl⟩ | ⟨hn2, h2⟩
      · show L1.blk ≠ w.heap.size
        omega
      · have hd2 := h.dom b2 L2 h2
        rw [blk_mkB_old' _ _ _ hd2.1] at hk2
        exact h.inj b1 b2 L1 L2 k1 k2 h1 h2 hk1 hk2 hne hbb
/-- A block is given up. -/
theorem Rel.killed (h : Rel P B0 w0 m H w) (b : Nat) : Rel P B0 w0 m (kill H b) w ∧ Ext m H w m (kill H b) w := by
  have up : ∀ b3 k3, blk (kill H b) b3 = some k3 → blk H b3 = some k3 := by
    intro b3 k3 h3
    by_cases hb : b = b3
    · subst hb; rw [blk_kill_same] at h3; cases h3
    · rwa [blk_kill_ne hb] at h3
  refine ⟨⟨h.below, h.hB, fun b2 L2 h2 => by rw [length_kill']; exact h.dom b2 L2 h2, fun b2 L2 k2 h2 hk2 => h.blks b2 L2 k2 h2 (up _ _ hk2), fun b1 b2 L1 L2 k1 k2 hm1 hm2 hk1 hk2 => h.inj b1 b2 L1 L2 k1 k2 hm1 hm2 (up _ _ hk1) (up _ _ hk2)⟩,
    ⟨fun _ _ h => h, Nat.le_of_eq (length_kill' ..).symm, Nat.le_refl _, fun b2 k2 _ hk2 => ⟨k2, up _ _ hk2, rfl⟩, fun _ _ h => .inl h, fun _ _ _ => rfl⟩⟩
/-- A row that has room is written behind its end: the elder block is given up, the new one lies where it lay. -/
theorem Rel.regrow (h : Rel P B0 w0 m H w) {b : Nat} {L : Loc} {k : Blk} (hm : m b = some L) (hb : blk H b = some k) (hk : k.kind.gr = true) {c : Array Value} {e : TypeId} {fr : Nat × Nat} (hw : w.heap[L.blk]? = some (.cells c e fr))
    (base : Nat) (cs : List Value) (c' : Array Value) (hs : c'.size = c.size) (hbs : base ≤ c'.size) (hl : LRel m cs ((c'.toList.drop base).take cs.length)) (hfz : k.kind = .buf → fr.2 ≤ base + cs.length ∧ (cs = [] → fr.2 = 0)) :
    let L' : Loc := ⟨L.blk, base, k.kind, L.csize, L.esz⟩
    Rel P B0 w0 (upd m H.length L') (mkB (kill H b) cs k.elem k.kind) (w.setRow L.blk c') ∧ Ext m H w (upd m H.length L') (mkB (kill H b) cs k.elem k.kind) (w.setRow L.blk c') := by
  intro L'
  have hk' : k.kind ≠ .ro := (BK.gr_row hk).2.1
  have hkr : k.kind.row = true := (BK.gr_row hk).1
  have hmono := upd_mono (m := m) (H := H) (fun b L hb => (h.dom b L hb).1) L'
  have old : ∀ b2 L2, upd m H.length L' b2 = some L2 → (b2 = H.length ∧ L2 = L') ∨ (b2 ≠ H.length ∧ m b2 = some L2) := by
    intro b2 L2 h2
    unfold upd at h2
    split at h2
    · rename_i hb; cases h2; exact .inl ⟨hb, rfl⟩
    · rename_i hb; exact .inr ⟨hb, h2⟩
  have hlk : (kill H b).length = H.length := length_kill' ..
  have back : ∀ b3 k3, b3 < H.length → blk (mkB (kill H b) cs k.elem k.kind) b3 = some k3 → b ≠ b3 ∧ blk H b3 = some k3 := by
    intro b3 k3 h3 hk3
    rw [blk_mkB_old' _ _ _ (by rw [hlk]; exact h3)] at hk3
    by_cases hbb : b = b3
    · subst hbb; rw [blk_kill_same] at hk3; cases hk3
    · exact ⟨hbb, by rwa [blk_kill_ne hbb] at hk3⟩
  have hB := h.blks b L k hm hb
  have hfr : Ext m H w (upd m H.length L') (mkB (kill H b) cs k.elem k.kind) (w.setRow L.blk c') := by
    refine ⟨hmono, by rw [length_mkB', hlk]; omega, Nat.le_of_eq (setRow_size ..).symm, ?_, ?_, ?_⟩
    · intro b2 k2 hb2 hk2
      exact ⟨k2, (back b2 k2 hb2 hk2).2, rfl⟩
    · intro b2 L2 h2
      rcases old b2 L2 h2 with ⟨rfl, rfl⟩ | ⟨_, h3⟩
      · exact .inr ⟨Nat.le_refl _, .inr ⟨b, L, k, hm, hb, hk', rfl⟩⟩
      · exact .inl h3
    · intro B _ hr
      exact setRow_ne _ _ (hr b L k hm hb hk')
  refine ⟨⟨?_, by rw [setRow_size]; exact h.hB, ?_, ?_, ?_⟩, hfr⟩
  · refine h.below.trans ⟨rfl, rfl, rfl, hfr.size, fun j hj => setRow_ne _ _ ?_⟩
    have := hB.own hk'
    omega
  · intro b2 L2 h2
    rw [length_mkB', hlk, setRow_size]
    rcases old b2 L2 h2 with ⟨rfl, rfl⟩ | ⟨_, h3⟩
    · have := (h.dom b L hm).2
      exact ⟨by omega, this⟩
    · have := h.dom b2 L2 h3; omega
  · intro b2 L2 k2 h2 hk2
    rcases old b2 L2 h2 with ⟨rfl, rfl⟩ | ⟨hne, h3⟩
    · rw [← hlk, blk_mkB_new'] at hk2
      cases hk2
      obtain ⟨c0, e0, fr0, hw0, _, h4, _, h6, _⟩ := hB.there (hB.noMap hw)
      rw [hw] at hw0
      cases hw0
      exact ⟨rfl, fun _ => ⟨c', e, fr, setRow_heap w _ _ _ _ _ hw, hl.mono hmono, fun _ => ⟨(h4 hk').1, (h4 hk').2.1, hbs⟩, (fun hx => absurd hx (BK.gr_row hk).2.2), fun _ => by rw [hs]; exact h6 hk, fun hx => hfz hx⟩, (fun hx => absurd hx (BK.row_map hkr).1), (fun f key hx => absurd hx ((BK.row_map hkr).2 f key)), fun _ => hB.own hk', fun _ => hB.esz hk⟩
    · have hlt := (h.dom b2 L2 h3)
      obtain ⟨hbb, hk3⟩ := back b2 k2 hlt.1 hk2
      have hne2 : L.blk ≠ L2.blk := h.inj b b2 L L2 k k2 hm h3 hb hk3 hk' hbb
      exact (h.blks b2 L2 k2 h3 hk3).at hmono (setRow_ne _ _ hne2)
  · intro b1 b2 L1 L2 k1 k2 hm1 hm2 hk1 hk2 hne hbb
    rcases old b1 L1 hm1 with ⟨rfl, rfl⟩ | ⟨hn1, h1⟩
    · rcases old b2 L2 hm2 with ⟨rfl, rfl⟩ | ⟨hn2, h2⟩
      · exact (hbb rfl).elim
      · obtain ⟨hb2, hk3⟩ := back b2 k2 (h.dom b2 L2 h2).1 hk2
        exact h.inj b b2 L L2 k k2 hm h2 hb hk3 hk' hb2
    · obtain ⟨hb1, hk3⟩ := back b1 k1 (h.dom b1 L1 h1).1 hk1
      rcases old b2 L2 hm2 with ⟨rfl, rfl⟩ | ⟨hn2, h2⟩
      · exact h.inj b1 b L1 L k1 k h1 hm hk3 hb hne (Ne.symm hb1)
      · obtain ⟨_, hk4⟩ := back b2 k2 (h.dom b2 L2 h2).1 hk2
        exact h.inj b1 b2 L1 L2 k1 k2 h1 h2 hk3 hk4 hne hbb
end
end Go.AM
namespace Go.AM
open Go.RowKit
section
variable {P : Program} {B0 : Nat} {w0 : World} {m : Mp} {H : AH} {w : World}
/-- The object of a block of the call's own is another. -/
theorem Rel.turn (h : Rel P B0 w0 m H w) {b : Nat} {L : Loc} {k : Blk} (hm : m b = some L) (hb : blk H b = some k) (hk : k.kind ≠ .ro) (cs : List Value) (o : Obj)
    (hB' : BRel P B0 m L ⟨cs, k.elem, k.kind⟩ (w.putObj L.blk o)) :
    Rel P B0 w0 m (put H b k cs) (w.putObj L.blk o) ∧ Ext m H w m (put H b k cs) (w.putObj L.blk o) := by
  have hB := (h.blks b L k hm hb)
  have hfr : Ext m H w m (put H b k cs) (w.putObj L.blk o) := by
    refine ⟨fun _ _ h => h, Nat.le_of_eq (length_put' ..).symm, Nat.le_of_eq World.putObj_size.symm, ?_, fun _ _ h => .inl h, ?_⟩
    · intro b2 k2 _ hk2
      by_cases hbb : b = b2
      · subst hbb
        rw [blk_put_same _ _ (blk_lt' hb)] at hk2
        cases hk2
        exact ⟨k, hb, rfl⟩
      · rw [blk_put_ne _ _ hbb] at hk2
        exact ⟨k2, hk2, rfl⟩
    · intro B _ hr
      exact World.putObj_heap_other (Ne.symm (hr b L k hm hb hk))
  refine ⟨⟨?_, ?_, ?_, ?_, ?_⟩, hfr⟩
  · refine h.below.trans ⟨rfl, rfl, rfl, hfr.size, fun j hj => World.putObj_heap_other ?_⟩
    have := hB.own hk
    omega
  · rw [World.putObj_size]; exact h.hB
  · intro b2 L2 h2
    rw [length_put', World.putObj_size]
    exact h.dom b2 L2 h2
  · intro b2 L2 k2 hm2 hk2
    by_cases hbb : b = b2
    · subst hbb
      rw [hm] at hm2
      cases hm2
      rw [blk_put_same _ _ (blk_lt' hb)] at hk2
      cases hk2
      exact hB'
    · rw [blk_put_ne _ _ hbb] at hk2
      have hne : L.blk ≠ L2.blk := h.inj b b2 L L2 k k2 hm hm2 hb hk2 hk hbb
      exact (h.blks b2 L2 k2 hm2 hk2).at (fun _ _ h => h) (World.putObj_heap_other (Ne.symm hne))
  · intro b1 b2 L1 L2 k1 k2 hm1 hm2 hk1 hk2 hne hbb
    have up : ∀ b3 k3, blk (put H b k cs) b3 = some k3 → ∃ k4, blk H b3 = some k4 ∧ k4.kind = k3.kind := fun b3 k3 h3 => hfr.alive b3 k3 (by have := blk_lt' h3; rwa [length_put'] at this) h3
    obtain ⟨k3, h3, h4⟩ := up b1 k1 hk1
    obtain ⟨k4, h5, _⟩ := up b2 k2 hk2
    exact h.inj b1 b2 L1 L2 k3 k4 hm1 hm2 h3 h5 (by rw [h4]; exact hne) hbb
/-- A block that is no row is made. -/
theorem Rel.makeO (h : Rel P B0 w0 m H w) (cs : List Value) (e : TypeId) (kd : BK) (o : Obj) (L : Loc) (hL : L.blk = w.heap.size) (hnew : ∀ m', (∀ b L, m b = some L → m' b = some L) → BRel P B0 m' L ⟨cs, e, kd⟩ (w.alloc o)) :
    Rel P B0 w0 (upd m H.length L) (mkB H cs e kd) (w.alloc o) ∧ Ext m H w (upd m H.length L) (mkB H cs e kd) (w.alloc o) := by
  have hmono := upd_mono (m := m) (H := H) (fun b L hb => (h.dom b L hb).1) L
  have old : ∀ b2 L2, upd m H.length L b2 = some L2 → (b2 = H.length ∧ L2 = L) ∨ (b2 ≠ H.length ∧ m b2 = some L2) := by
    intro b2 L2 h2
    unfold upd at h2
    split at h2
    · rename_i hb; cases h2; exact .inl ⟨hb, rfl⟩
    · rename_i hb; exact .inr ⟨hb, h2⟩
  have hfr : Ext m H w (upd m H.length L) (mkB H cs e kd) (w.alloc o) := by
    refine ⟨hmono, by rw [length_mkB']; omega, by simp, ?_, ?_, fun B hB _ => Below.heap_alloc w _ _ hB⟩
    · intro b2 k2 hb2 hk2
      rw [blk_mkB_old' _ _ _ hb2] at hk2
      exact ⟨k2, hk2, rfl⟩
    · intro b2 L2 h2
      rcases old b2 L2 h2 with ⟨rfl, rfl⟩ | ⟨_, h3⟩
      · exact .inr ⟨Nat.le_refl _, .inl (Nat.le_of_eq hL.symm)⟩
      · exact .inl h3
  refine ⟨⟨h.below.alloc h.hB _, by simp; exact Nat.le_succ_of_le h.hB, ?_, ?_, ?_⟩, hfr⟩
  · intro b2 L2 h2
    rw [length_mkB']
    simp only [World.size_alloc]
    rcases old b2 L2 h2 with ⟨rfl, rfl⟩ | ⟨_, h3⟩
    · exact ⟨by omega, by omega⟩
    · have := h.dom b2 L2 h3; omega
  · intro b2 L2 k2 h2 hk2
    rcases old b2 L2 h2 with ⟨rfl, rfl⟩ | ⟨hne, h3⟩
    · rw [blk_mkB_new'] at hk2
      cases hk2
      exact hnew _ hmono
    · have hlt := (h.dom b2 L2 h3)
      rw [blk_mkB_old' _ _ _ hlt.1] at hk2
      exact (h.blks b2 L2 k2 h3 hk2).at hmono (Below.heap_alloc w _ _ hlt.2)
  · intro b1 b2 L1 L2 k1 k2 hm1 hm2 hk1 hk2 hne hbb
    rcases old b1 L1 hm1 with ⟨rfl, rfl⟩ | ⟨hn1, h1⟩
    · rcases old b2 L2 hm2 with ⟨rfl, rfl⟩ | ⟨hn2, h2⟩
      · exact (hbb rfl).elim
      · have := (h.dom b2 L2 h2).2
        omega
    · have hd1 := h.dom b1 L1 h1
      rw [blk_mkB_old' _ _ _ hd1.1] at hk1
      rcases old b2 L2 hm2 with ⟨rfl, rfl⟩ | ⟨hn2, h2⟩
      · omega
      · have hd2 := h.dom b2 L2 h2
        rw [blk_mkB_old' _ _ _ hd2.1] at hk2
        exact h.inj b1 b2 L1 L2 k1 k2 h1 h2 hk1 hk2 hne hbb
end
end Go.AM
set_option linter.unusedVariables false
set_option linter.unusedSimpArgs false
namespace Go.AM
open Go.RowKit

theorem info_of_underlying {P : Program} {t : TypeId} {d : TypeDesc} (h : P.underlying t = some d) : ∃ i, P.info? t = some i := by
  unfold Program.underlying at h
  cases hi : P.info? t with
  | none => rw [hi] at h; cases h
  | some i => exact ⟨i, rfl⟩
theorem szT_eq {P : Program} {t : TypeId} {i : TypeInfo} (h : P.info? t = some i) : szT P t = i.size := by simp [szT, Program.cellsOf, h]
theorem byT_eq {P : Program} {t : TypeId} {i : TypeInfo} (h : P.info? t = some i) : byT P t = i.bytes := by simp [byT, Program.bytesOf, h]
theorem run_sizeOf {P : Program} {t : TypeId} {i : TypeInfo} (h : P.info? t = some i) (w : World) : (sizeOf t).run P w = .ok (szT P t) w := by
  simp [sizeOf, typeInfo, h, szT_eq h]
theorem aggT_true {P : Program} {t : TypeId} (h : aggT P t = some true) (w : World) : (isAgg t).run P w = .ok true w ∧ ∃ i, P.info? t = some i := by
  unfold aggT at h
  split at h
  · rename_i fs hd; exact ⟨by simp [isAgg, run_underlying hd], info_of_underlying hd⟩
  · rename_i n e hd; exact ⟨by simp [isAgg, run_underlying hd], info_of_underlying hd⟩
  · cases h
  · cases h
theorem aggT_false {P : Program} {t : TypeId} (h : aggT P t = some false) (w : World) : (isAgg t).run P w = .ok false w ∧ ∃ i, P.info? t = some i := by
  unfold aggT at h
  split at h
  · cases h
  · cases h
  · rename_i d h1 h2 hd
    refine ⟨?_, info_of_underlying hd⟩
    cases d <;> first | (simp [isAgg, run_underlying hd]; done) | exact (h1 _ rfl).elim | exact (h2 _ _ rfl).elim
  · cases h
theorem zeroT_inv {P : Program} {t : TypeId} {z : Value} (h : zeroT P t = some z) : ∃ i, P.info? t = some i ∧ i.zero = some z ∧ flat z = true := by
  unfold zeroT at h
  cases hi : P.info? t with
  | none => rw [hi] at h; cases h
  | some i =>
    rw [hi] at h
    cases hz : i.zero with
    | none => simp [hz] at h
    | some z' =>
      simp only [hz, Option.bind_some] at h
      split at h
      · rename_i hf; cases h; exact ⟨i, rfl, hz, hf⟩
      · cases h
theorem run_zeroValue {P : Program} {t : TypeId} {z : Value} {i : TypeInfo} (h : P.info? t = some i) (hz : i.zero = some z) (w : World) : (zeroValue t).run P w = .ok z w := by
  simp [zeroValue, typeInfo, h, hz]

section
variable {P : Program} {B0 : Nat} {w0 : World} {m : Mp} {H : AH} {w : World}

theorem ldC_inv {a v : Value} (h : ldC H a = some v) : ∃ b off k, a = .pointer (some ⟨b, off, none⟩) ∧ blk H b = some k ∧ k.cells[off]? = some v := by
  unfold ldC at h
  split at h
  · rename_i b off
    cases hb : blk H b with
    | none => rw [hb] at h; cases h
    | some k => rw [hb] at h; exact ⟨b, off, k, rfl, hb, h⟩
  · cases h
theorem ld_sound (R : Rel P B0 w0 m H w) {t : TypeId} {a a' v : Value} (ha : VRel m a a') (h : ld P t H a = some v) :
    ∃ v', (Instr.loadAt t a').run P w = .ok v' w ∧ VRel m v v' := by
  unfold ld at h
  split at h
  · rename_i hg
    obtain ⟨h1, i, hi⟩ := aggT_true hg w
    unfold ldA at h
    split at h
    · rename_i b off
      cases hb : blk H b with
      | none => rw [hb] at h; cases h
      | some k =>
        rw [hb] at h
        simp only [Option.bind_some] at h
        cases hr : rdN k off (szT P t) with
        | none => rw [hr] at h; cases h
        | some cs =>
          rw [hr] at h
          cases h
          obtain ⟨L, hm, rfl, hnm⟩ := ha.ptr_inv
          obtain ⟨ds, hl, hc⟩ := (R.blks b L k hm hb).row hnm hr
          have hlen : ds.length = szT P t := by
            rw [← hl.1]
            unfold rdN at hr
            split at hr
            · cases hr; simp; omega
            · cases hr
          refine ⟨.agg ds.toArray, ?_, VRel.aggL (by simpa using hl)⟩
          have := run_loadCells_list (P := P) w _ ds hc
          rw [hlen] at this
          simp [Instr.loadAt, Instr.sureAddr, loadVar, h1, run_sizeOf hi, this]
    · cases h
  · rename_i hg
    obtain ⟨h1, i, hi⟩ := aggT_false hg w
    obtain ⟨b, off, k, rfl, hb, hx⟩ := ldC_inv h
    obtain ⟨L, hm, rfl, hnm⟩ := ha.ptr_inv
    obtain ⟨y, hy, hc⟩ := (R.blks b L k hm hb).cell hnm hx
    exact ⟨y, by simp [Instr.loadAt, Instr.sureAddr, loadVar, h1, hc], hy⟩
  · cases h

/-- Cells are stored into a block of the call's own. -/
theorem store_sound (R : Rel P B0 w0 m H w) {b off : Nat} {k : Blk} {L : Loc} (hm : m b = some L) (hb : blk H b = some k) (hkw : k.kind.wr = true) {cs ds : List Value} (hle : off + cs.length ≤ k.cells.length) (hl : LRel m cs ds) (h1 : ∀ u ∈ ds, u.oneCell' = true) :
    ∃ w', (storeCells ⟨L.blk, L.base + off, none⟩ ds).run P w = .ok () w' ∧ Rel P B0 w0 m (put H b k (spl k.cells off cs)) w' ∧ Ext m H w m (put H b k (spl k.cells off cs)) w' := by
  have hk := (BK.wr_row hkw).2.1
  obtain ⟨c, e, fr, hw, hlr, h3, h4, h5⟩ := (R.blks b L k hm hb).there (BK.wr_row hkw).1
  obtain ⟨h3a, _, hbs⟩ := h3 hk
  obtain rfl := h3a (BK.wr_row hkw).2.2
  have hsz : L.base + k.cells.length ≤ c.size := by
    have := hlr.1
    simp at this
    omega
  have hst := run_storeCells_at P L.blk (L.base + off) e ds 0 c w hw (by have := hl.1; omega) h1
  have hlen := length_spl k.cells off cs hle
  refine ⟨_, hst, R.write hm hb hk hw _ _ ?_ hlen ?_⟩
  · have := hl.1
    simp
    omega
  · rw [hlen]
    have e1 : ((c.toList.take (L.base + off + 0) ++ ds ++ c.toList.drop (L.base + off + 0 + ds.length)).toArray.toList.drop L.base).take k.cells.length = spl ((c.toList.drop L.base).take k.cells.length) off ds := by
      have hd := hl.1
      have hcl : c.toList.length = c.size := by simp
      apply List.ext_getElem?
      intro j
      unfold AM.spl
      simp only [List.getElem?_take, List.getElem?_drop, List.getElem?_append, List.length_take, List.length_drop, Nat.add_zero, List.length_append]
      rw [hcl]
      by_cases hj : j < k.cells.length
      · rw [if_pos hj]
        by_cases h6 : j < off
        · rw [if_pos (by omega), if_pos (by omega), if_pos (by omega), if_pos (by omega), if_pos (by omega), if_pos (by omega)]
        · by_cases h7 : j < off + ds.length
          · rw [if_pos (by omega), if_neg (by omega), if_neg (by omega), if_pos (by omega)]
            congr 1
            omega
          · rw [if_neg (by omega), if_neg (by omega), if_neg (by omega), if_pos (by omega)]
            congr 1
            omega
      · rw [if_neg hj]
        by_cases h7 : j < off + ds.length
        · omega
        · rw [if_neg (by omega), if_neg (by omega), if_neg (by omega)]
    rw [e1]
    exact hlr.spl hl off
theorem st_sound (R : Rel P B0 w0 m H w) {t : TypeId} {a a' v v' : Value} {H' : AH} (ha : VRel m a a') (hv : VRel m v v') (h : st P t H a v = some H') :
    ∃ w', (Instr.storeAt t a' v').run P w = .ok () w' ∧ Rel P B0 w0 m H' w' ∧ Ext m H w m H' w' := by
  unfold st at h
  split at h
  · rename_i hg
    obtain ⟨h1, i, hi⟩ := aggT_true hg w
    unfold stA at h
    split at h
    · rename_i b off cs
      cases hb : blk H b with
      | none => rw [hb] at h; cases h
      | some k =>
        rw [hb] at h
        simp only [Option.bind_some] at h
        split at h
        · rename_i hc
          obtain ⟨c1, c2, c3, c4⟩ := hc
          cases h
          obtain ⟨L, hm, rfl, hnm⟩ := ha.ptr_inv
          obtain ⟨q1, q2⟩ := hv.cells (x := .agg cs) c4
          obtain ⟨w', h5, h6, h7⟩ := store_sound R hm hb c1 (off := off) (cs := cs.toList) (by simpa [c3] using c2) q1 q2
          have hsz : v'.cells.size = szT P t := by have := q1.1; simp [Value.cells] at this; simp [Value.cells]; omega
          exact ⟨w', by simp [Instr.storeAt, Instr.sureAddr, storeVar, run_sizeOf hi, hsz, h5], h6, h7⟩
        · cases h
    · cases h
  · rename_i hg
    obtain ⟨h1, i, hi⟩ := aggT_false hg w
    split at h
    · rename_i hs
      unfold stC at h
      split at h
      · rename_i b off
        cases hb : blk H b with
        | none => rw [hb] at h; cases h
        | some k =>
          rw [hb] at h
          simp only [Option.bind_some] at h
          split at h
          · rename_i hc
            obtain ⟨c1, c2, c3⟩ := hc
            cases h
            obtain ⟨L, hm, rfl, hnm⟩ := ha.ptr_inv
            obtain ⟨q1, q2⟩ := hv.isCell c3
            obtain ⟨w', h5, h6, h7⟩ := store_sound R hm hb c1 (off := off) (cs := [v]) (ds := [v']) (by simp; omega) (LRel.cons hv (LRel.nil m)) (by simp [q1])
            have e1 : spl k.cells off [v] = k.cells.set off v := by
              unfold spl
              rw [List.set_eq_take_append_cons_drop, if_pos c2]
              simp
            rw [e1] at h6 h7
            exact ⟨w', by simp [Instr.storeAt, Instr.sureAddr, storeVar, run_sizeOf hi, hs, q2, h5], h6, h7⟩
          · cases h
      · cases h
    · cases h
  · cases h
theorem VRel.newPtr {L : Loc} {b : Nat} (hm : m b = some L) (h0 : L.base = 0) (hnm : L.kind.row = true := by simp [BK.row]) : VRel m (AM.ptr b 0) (.pointer (some ⟨L.blk, 0, none⟩)) := by
  have := VRel.ptr (m := m) b 0 L hm hnm
  rw [h0] at this
  exact this
theorem box_sound (R : Rel P B0 w0 m H w) {t : TypeId} {v v' u : Value} {H' : AH} (hv : VRel m v v') (h : box t H v = some (u, H')) :
    ∃ u' m' w', (Instr.box t v').run P w = .ok u' w' ∧ VRel m' u u' ∧ Rel P B0 w0 m' H' w' ∧ Ext m H w m' H' w' := by
  unfold box at h
  split at h
  · rename_i hc
    cases h
    obtain ⟨q1, q2⟩ := hv.cells hc
    have hsz : v'.cells.size = v.cells.toList.length := by have := q1.1; simp at this ⊢; omega
    obtain ⟨h1, h2⟩ := R.make (P := P) v.cells.toList t .fix v'.cells (by decide) (by rw [List.take_of_length_le (by simp; simp at hsz; omega)]; exact q1) (fun _ => hsz)
    exact ⟨_, _, _, by simp [Instr.box, newVar, newRow], VRel.newPtr (upd_same _ _ _) rfl, h1, h2⟩
  · cases h
theorem newV_sound (R : Rel P B0 w0 m H w) {t : TypeId} {u : Value} {H' : AH} (h : newV P t H = some (u, H')) (old : Value) :
    ∃ u' m' w', (Instr.alloc t true old).run P w = .ok u' w' ∧ VRel m' u u' ∧ Rel P B0 w0 m' H' w' ∧ Ext m H w m' H' w' := by
  unfold newV at h
  cases hz : zeroT P t with
  | none => rw [hz] at h; cases h
  | some z =>
    rw [hz] at h
    obtain ⟨i, hi, h1, h2⟩ := zeroT_inv hz
    obtain ⟨u', m', w', h3, h4⟩ := box_sound R (VRel.of_flat h2) h
    refine ⟨u', m', w', ?_, h4⟩
    simp [Instr.box] at h3
    simp [Instr.alloc, run_zeroValue hi h1, h3]
end
end Go.AM
set_option linter.unusedVariables false
set_option linter.unusedSimpArgs false
namespace Go.AM
open Go.RowKit

theorem rep_length (z : List Value) : ∀ n, (rep z n).length = n * z.length
  | 0 => by simp [rep]
  | n + 1 => by rw [rep, List.length_append, rep_length z n, Nat.add_mul, Nat.one_mul, Nat.add_comm]
theorem rep_get (z : List Value) : ∀ (n j : Nat), j < n * z.length → (rep z n)[j]? = z[j % z.length]?
  | 0, j, h => by omega
  | n + 1, j, h => by
    rw [rep, List.getElem?_append]
    split
    · rename_i hj; rw [Nat.mod_eq_of_lt hj]
    · rename_i hj
      rw [rep_get z n (j - z.length) (by rw [Nat.add_mul] at h; omega)]
      congr 1
      rw [Nat.mod_eq_sub_mod (a := j) (by omega)]
theorem madeCells_toList (z : Array Value) (n : Nat) : (madeCells z (n * z.size)).toList = rep z.toList n := by
  apply List.ext_getElem?
  intro j
  have hs : (madeCells z (n * z.size)).toList.length = n * z.size := by simp [madeCells]
  by_cases hj : j < n * z.size
  · rw [rep_get z.toList n j (by simpa using hj)]
    have hz : 0 < z.size := by
      rcases Nat.eq_zero_or_pos z.size with h | h
      · rw [h] at hj; omega
      · exact h
    have hm : j % z.size < z.size := Nat.mod_lt _ hz
    simp only [madeCells, Array.toList_map, Array.toList_range, List.getElem?_map, List.getElem?_range hj, Option.map_some, Array.length_toList]
    rw [Array.getElem?_toList]
    simp [hm]
  · rw [List.getElem?_eq_none (by omega), List.getElem?_eq_none (by rw [rep_length]; simp; omega)]

section
variable {P : Program} {B0 : Nat} {w0 : World} {m : Mp} {H : AH} {w : World}

theorem flat_cells {z : Value} (h : flat z = true) : LRel m z.cells.toList z.cells.toList := by
  have := VRel.of_flat (m := m) h
  unfold flat at h
  split at h
  · exact LRel.of_flat _ h
  · rename_i hz
    have : z.cells = #[z] := by cases z <;> first | rfl | exact (hz _ rfl).elim
    rw [this]
    exact LRel.cons (.flat _ h) (LRel.nil m)
theorem LRel.rep {xs ys : List Value} (h : LRel m xs ys) : ∀ n, LRel m (rep xs n) (rep ys n)
  | 0 => LRel.nil m
  | n + 1 => h.append (LRel.rep h n)
theorem VRel.int_inv {k : IntKind} {n : Int} {v : Value} (h : VRel m (.int k n) v) : v = .int k n := h.flat_inv rfl
theorem VRel.bool_inv {b : Bool} {v : Value} (h : VRel m (.bool b) v) : v = .bool b := h.flat_inv rfl
theorem VRel.str_inv {s : ByteArray} {v : Value} (h : VRel m (.string s) v) : v = .string s := h.flat_inv rfl
theorem VRel.newSl {L : Loc} {b n c c' : Nat} (hm : m b = some L) (h0 : L.base = 0) (h1 : n ≤ c) (h2 : n ≤ c') (h3 : L.kind = .fix → c' = c) (h4 : L.kind.gr = true → c' * L.esz ≤ L.csize) (h5 : L.kind ≠ .fix → n < c) (hnm : L.kind.row = true := by simp [BK.row]) : VRel m (sl b 0 n c) (.slice (some ⟨L.blk, 0, none⟩) n c') :=
  .slice b 0 0 n c c' L hm hnm h1 h2 (.inl (by omega)) (fun hk => ⟨by omega, h3 hk⟩) (fun hk _ _ => by have := h4 hk; omega) (fun hk => .inl (h5 hk))
theorem mkS_sound (R : Rel P B0 w0 m H w) {t : TypeId} {l l' c c' u : Value} {H' : AH} (hl : VRel m l l') (hc : VRel m c c') (h : mkS P t H l c = some (u, H')) :
    ∃ u' m' w', (Instr.makeSlice t l' c').run P w = .ok u' w' ∧ VRel m' u u' ∧ Rel P B0 w0 m' H' w' ∧ Ext m H w m' H' w' := by
  unfold mkS at h
  split at h
  · rename_i e k1 n k2 q hd
    cases hz : zeroT P e with
    | none => rw [hz] at h; cases h
    | some z =>
      rw [hz] at h
      simp only [Option.bind_some] at h
      split at h
      · rename_i hcond
        obtain ⟨c1, c2, c3, c4, c5, c6⟩ := hcond
        cases h
        obtain ⟨i, hi, hz1, hz2⟩ := zeroT_inv hz
        cases hl.int_inv
        cases hc.int_inv
        rw [byT_eq hi] at c3
        rw [szT_eq hi] at c5
        have hrun := run_make (P := P) w t e i z hd hi hz1 k1 k2 n q c1 c2 (by rw [Int.mul_comm]; exact c3) c4
        rw [← c5] at hrun
        have hml := madeCells_toList z.cells q.toNat
        obtain ⟨h1, h2⟩ := R.make (P := P) (rep z.cells.toList q.toNat) e .fix (madeCells z.cells (q.toNat * z.cells.size)) (by decide)
          (by rw [hml, List.take_of_length_le (Nat.le_refl _)]; exact (flat_cells hz2).rep _) (fun _ => by rw [size_madeCells, rep_length]; simp)
        exact ⟨_, _, _, hrun, VRel.newSl (upd_same _ _ _) rfl (by omega) (by omega) (fun _ => rfl) (fun hk => by cases hk) (fun hk => (hk rfl).elim), h1, h2⟩
      · cases h
  · cases h
theorem fldA_sound (R : Rel P B0 w0 m H w) {s : TypeId} {a a' v : Value} {i : Nat} (ha : VRel m a a') (h : fldA P s a i = some v) : ∃ v', (Instr.fieldAt s a' i).run P w = .ok v' w ∧ VRel m v v' := by
  unfold fldA at h
  split at h
  · rename_i fs b off hd
    cases hf : fs[i]? with
    | none => rw [hf] at h; cases h
    | some f =>
      rw [hf] at h
      simp only [Option.bind_some] at h
      split at h
      · cases h
      · rename_i hz
        cases h
        obtain ⟨L, hm, rfl, hnm⟩ := ha.ptr_inv
        have hinfo : ∃ j, P.info? f.type = some j := by
          cases hj : P.info? f.type with
          | some j => exact ⟨j, rfl⟩
          | none => exfalso; apply hz; simp [szT, Program.cellsOf, hj]
        obtain ⟨j, hj⟩ := hinfo
        refine ⟨.pointer (some ⟨L.blk, L.base + (off + f.offset), none⟩), ?_, .ptr b (off + f.offset) L hm hnm⟩
        simp [Instr.fieldAt, run_underlying hd, hf, Instr.sureAddr, fieldPlace, run_sizeOf hj, hz, Addr.add_lit, Nat.add_assoc]
  · cases h
theorem prt_sound {t : TypeId} {cs ds : List Value} {off : Nat} {v : Value} (hl : LRel m cs ds) (h : prt P t cs off = some v) : ∃ v', (part t ds.toArray off).run P w = .ok v' w ∧ VRel m v v' := by
  unfold prt at h
  split at h
  · rename_i hg
    obtain ⟨h1, i, hi⟩ := aggT_true hg w
    cases h
    refine ⟨.agg ((ds.drop off).take (szT P t)).toArray, ?_, VRel.aggL (by simpa using (hl.drop off).take _)⟩
    simp [part, h1, run_sizeOf hi]
  · rename_i hg
    obtain ⟨h1, i, hi⟩ := aggT_false hg w
    have hlt := (List.getElem?_eq_some_iff.1 h).1
    have hd : ds[off]? = some (ds[off]'(by rw [← hl.1]; exact hlt)) := List.getElem?_eq_getElem _
    exact ⟨_, by simp [part, h1, hd], hl.2 off _ _ h hd⟩
  · cases h
theorem fld_sound {s : TypeId} {x x' v : Value} {i : Nat} (hx : VRel m x x') (h : fld P s x i = some v) : ∃ v', (Instr.field s x' i).run P w = .ok v' w ∧ VRel m v v' := by
  unfold fld at h
  split at h
  · rename_i fs cs hd
    cases hf : fs[i]? with
    | none => rw [hf] at h; cases h
    | some f =>
      rw [hf] at h
      obtain ⟨ys, rfl, hl⟩ := hx.agg_inv
      obtain ⟨v', h1, h2⟩ := prt_sound (P := P) (w := w) hl h
      exact ⟨v', by simpa [Instr.field, run_underlying hd, hf, asAgg] using h1, h2⟩
  · cases h
theorem isSome_info {t : TypeId} (h : (P.info? t).isSome = true) : ∃ i, P.info? t = some i := Option.isSome_iff_exists.1 h
theorem ixA_sound {t : TypeId} {x x' i i' v : Value} (hx : VRel m x x') (hi : VRel m i i') (h : ixA P t x i = some v) : ∃ v', (Instr.indexAt t x' i').run P w = .ok v' w ∧ VRel m v v' := by
  unfold ixA at h
  split at h
  · rename_i e b off len cap k n hd
    split at h
    · rename_i hc
      cases h
      cases hi.int_inv
      obtain ⟨L, off', cap', hm, rfl, h1, h2, h3, h4, h5, h6, hnm⟩ := hx.slice_inv
      obtain ⟨ie, hie⟩ := isSome_info hc.1
      rcases h3 with h3 | h3
      · subst h3
        refine ⟨.pointer (some ⟨L.blk, L.base + (off + n.toNat * szT P e), none⟩), ?_, .ptr b _ L hm hnm⟩
        simp [Instr.indexAt, asIntOf, run_underlying hd, hc.2, run_sizeOf hie, Addr.add_lit, Nat.add_assoc]
      · omega
    · cases h
  · rename_i len e b off k n hd
    split at h
    · rename_i hc
      cases h
      cases hi.int_inv
      obtain ⟨L, hm, rfl, hnm⟩ := hx.ptr_inv
      obtain ⟨ie, hie⟩ := isSome_info hc.1
      refine ⟨.pointer (some ⟨L.blk, L.base + (off + n.toNat * szT P e), none⟩), ?_, .ptr b _ L hm hnm⟩
      simp [Instr.indexAt, asIntOf, run_underlying hd, hc.2, Instr.sureAddr, run_sizeOf hie, Addr.add_lit, Nat.add_assoc]
    · cases h
  · cases h
theorem ix_sound {t : TypeId} {x x' i i' v : Value} (hx : VRel m x x') (hi : VRel m i i') (h : ix P t x i = some v) : ∃ v', (Instr.index t x' i').run P w = .ok v' w ∧ VRel m v v' := by
  unfold ix at h
  split at h
  · rename_i s k n hd
    split at h
    · rename_i hc
      cases h
      cases hi.int_inv
      cases hx.str_inv
      have hlt : n.toNat < s.size := by omega
      have e1 : s[n.toNat]? = some s[n.toNat] := by rw [getElem?_pos s n.toNat hlt]
      have e2 : s.data[n.toNat]?.getD 0 = s[n.toNat] := by
        rw [Array.getElem?_eq_getElem (by exact hlt)]; rfl
      exact ⟨_, by simp [Instr.index, asIntOf, run_underlying hd, hc.1, e1]; rfl, by rw [e2]; exact .flat _ rfl⟩
    · cases h
  · rename_i len e cs k n hd
    split at h
    · rename_i hc
      cases hi.int_inv
      obtain ⟨ys, rfl, hl⟩ := hx.agg_inv
      obtain ⟨ie, hie⟩ := isSome_info hc.1
      obtain ⟨v', h1, h2⟩ := prt_sound (P := P) (w := w) hl h
      exact ⟨v', by simpa [Instr.index, asIntOf, run_underlying hd, hc.2, run_sizeOf hie] using h1, h2⟩
    · cases h
  · cases h
/-- An optional bound. -/
def ORel (m : Mp) (x x' : Option Value) : Prop := (x = none ∧ x' = none) ∨ ∃ v v', x = some v ∧ x' = some v' ∧ VRel m v v'
theorem intOr_inv {x x' : Option Value} {d : Nat} {n : Int} (hx : ORel m x x') (h : intOr x d = some n) : (x' = none ∧ n = d) ∨ ∃ k, x' = some (.int k n) := by
  rcases hx with ⟨rfl, rfl⟩ | ⟨v, v', rfl, rfl, hv⟩
  · simp [intOr] at h; exact .inl ⟨rfl, h.symm⟩
  · unfold intOr at h
    split at h
    · rename_i he; cases he
    · rename_i k n' he; cases he; cases h; cases hv.int_inv; exact .inr ⟨k, rfl⟩
    · cases h
theorem sliceBounds_run {lo hi : Option Value} {l h : Int} {len cap d : Nat} (s : Bool) (hl : (lo = none ∧ l = 0) ∨ ∃ k, lo = some (.int k l)) (hh : (hi = none ∧ h = len) ∨ ∃ k, hi = some (.int k h)) (h0 : 0 ≤ l) (h1 : l ≤ h) (h2 : h ≤ cap) :
    (Instr.sliceBounds s len cap lo hi none).run P w = .ok (l.toNat, h.toNat, cap) w := by
  have e1 : (0 : Int) ≤ h := by omega
  rcases hl with ⟨rfl, rfl⟩ | ⟨k, rfl⟩ <;> rcases hh with ⟨rfl, rfl⟩ | ⟨k2, rfl⟩
  · simp [Instr.sliceBounds]
  · simp [Instr.sliceBounds, Instr.sliceBound, asIntOf, e1, h2]
  · simp [Instr.sliceBounds, Instr.sliceBound, asIntOf, h0]
    omega
  · have : l ≤ (h.toNat : Int) := by omega
    simp only [Instr.sliceBounds, Instr.sliceBound, asIntOf, Sem.run_bind, Sem.run_pure, Result.andThen_ok, Sem.run_ite, h0, e1, h2, this, and_self, if_true, Option.isSome_none, Bool.false_eq_true, if_false]
theorem slc_sound {t : TypeId} {x x' v : Value} {lo lo' hi hi' : Option Value} (hx : VRel m x x') (hlo : ORel m lo lo') (hhi : ORel m hi hi') (h : slc P t x lo hi = some v) :
    ∃ v', (Instr.sliceAt t x' lo' hi' none).run P w = .ok v' w ∧ VRel m v v' := by
  unfold slc at h
  split at h
  · rename_i s hd
    cases hl : intOr lo 0 with
    | none => rw [hl] at h; cases h
    | some l =>
      rw [hl] at h
      simp only [Option.bind_some] at h
      cases hh : intOr hi s.size with
      | none => rw [hh] at h; cases h
      | some q =>
        rw [hh] at h
        simp only [Option.bind_some] at h
        split at h
        · rename_i hc
          cases h
          cases hx.str_inv
          have := sliceBounds_run (P := P) (w := w) (d := 0) (len := s.size) (cap := s.size) false (by simpa using intOr_inv hlo hl) (intOr_inv hhi hh) hc.1 hc.2.1 hc.2.2
          exact ⟨_, by simp [Instr.sliceAt, Instr.slice, run_underlying hd, this], .flat _ rfl⟩
        · cases h
  · rename_i e b off len cap hd
    cases hl : intOr lo 0 with
    | none => rw [hl] at h; cases h
    | some l =>
      rw [hl] at h
      simp only [Option.bind_some] at h
      cases hh : intOr hi len with
      | none => rw [hh] at h; cases h
      | some q =>
        rw [hh] at h
        simp only [Option.bind_some] at h
        split at h
        · rename_i hc
          cases h
          obtain ⟨L, off', cap', hm, rfl, h1, h2, h3, h4, h5, h6, hnm⟩ := hx.slice_inv
          obtain ⟨ie, hie⟩ := isSome_info hc.1
          have := sliceBounds_run (P := P) (w := w) (d := 0) (len := len) (cap := cap') true (by simpa using intOr_inv hlo hl) (intOr_inv hhi hh) hc.2.1 hc.2.2.1 (by omega)
          refine ⟨.slice (some ⟨L.blk, if cap' = l.toNat then off' else off' + l.toNat * szT P e, none⟩) (q.toNat - l.toNat) (cap' - l.toNat), ?_, ?_⟩
          · simp only [Instr.sliceAt, Instr.slice, Sem.run_bind, run_underlying hd, Result.andThen_ok, this, run_sizeOf hie, Sem.run_pure]
            by_cases he : cap' = l.toNat
            · simp [he]
            · simp [he, Addr.add_lit]
          · refine .slice _ _ _ _ _ _ L hm hnm (by omega) (by omega) ?_ ?_ ?_ (fun hk => by rcases h6 hk with h7 | h7 <;> omega)
            · rcases h3 with h3 | h3
              · by_cases he : cap' = l.toNat
                · exact .inr (by omega)
                · by_cases he2 : cap = l.toNat
                  · exact .inr (by omega)
                  · rw [if_neg he, if_neg he2]; exact .inl (by omega)
              · exact .inr (by omega)
            · intro hk
              obtain ⟨h8, h7⟩ := h4 hk
              subst h7
              refine ⟨?_, rfl⟩
              split <;> omega
            · intro hk ho hcp
              have hle : (cap' - l.toNat) * L.esz ≤ cap' * L.esz := Nat.mul_le_mul_right _ (Nat.sub_le _ _)
              rw [if_neg (by omega)] at ho
              have h8 := h5 hk (by omega) (by omega)
              have hz : l.toNat * szT P e = 0 := by omega
              rw [hz]
              split <;> omega
        · cases h
  · rename_i e hd
    cases hl : intOr lo 0 with
    | none => rw [hl] at h; cases h
    | some l =>
      rw [hl] at h
      simp only [Option.bind_some] at h
      cases hh : intOr hi 0 with
      | none => rw [hh] at h; cases h
      | some q =>
        rw [hh] at h
        simp only [Option.bind_some] at h
        split at h
        · rename_i hc
          cases h
          obtain ⟨hc1, rfl, rfl⟩ := hc
          obtain ⟨ie, hie⟩ := isSome_info hc1
          cases hx.flat_inv rfl
          have := sliceBounds_run (P := P) (w := w) (d := 0) (len := 0) (cap := 0) true (l := 0) (h := 0) (intOr_inv hlo hl) (intOr_inv hhi hh) (by omega) (by omega) (by omega)
          exact ⟨.slice none 0 0, by simp [Instr.sliceAt, Instr.slice, run_underlying hd, this, run_sizeOf hie], .flat _ rfl⟩
        · cases h
  · cases h
theorem slc3_sound {t : TypeId} {x x' v mx mx' : Value} {lo lo' hi hi' : Option Value} (hx : VRel m x x') (hlo : ORel m lo lo') (hhi : ORel m hi hi') (hmx : VRel m mx mx') (h : slc3 P t x lo hi mx = some v) :
    ∃ v', (Instr.sliceAt t x' lo' hi' (some mx')).run P w = .ok v' w ∧ VRel m v v' := by
  unfold slc3 at h
  split at h
  · rename_i e b off len cap k k2 hd hl0
    split at h
    · rename_i hc
      cases h
      obtain ⟨ie, hie⟩ := isSome_info hc
      obtain ⟨L, off', cap', hm, rfl, h1, h2, h3, h4, h5, h6, hnm⟩ := hx.slice_inv
      cases hmx.int_inv
      obtain ⟨u, rfl, hu⟩ : ∃ u, hi' = some u ∧ VRel m (.int k 0) u := by
        rcases hhi with ⟨hh, _⟩ | ⟨v, v', hh, rfl, hv⟩
        · cases hh
        · cases hh; exact ⟨v', rfl, hv⟩
      cases hu.int_inv
      refine ⟨.slice (some ⟨L.blk, off', none⟩) 0 0, ?_, .slice b off off' 0 0 0 L hm hnm (Nat.le_refl _) (Nat.le_refl _) (.inr rfl) (fun hk => ⟨(h4 hk).1, rfl⟩) (fun _ _ hh => absurd hh (by decide)) (fun _ => .inr ⟨rfl, rfl⟩)⟩
      rcases intOr_inv hlo hl0 with ⟨rfl, _⟩ | ⟨k3, rfl⟩ <;> simp [Instr.sliceAt, Instr.slice, run_underlying hd, Instr.sliceBounds, Instr.sliceBound, asIntOf, run_sizeOf hie]
    · cases h
  · rename_i e k k2 hd hl0
    split at h
    · rename_i hc
      cases h
      obtain ⟨ie, hie⟩ := isSome_info hc
      cases hx.flat_inv rfl
      cases hmx.int_inv
      obtain ⟨u, rfl, hu⟩ : ∃ u, hi' = some u ∧ VRel m (.int k 0) u := by
        rcases hhi with ⟨hh, _⟩ | ⟨v, v', hh, rfl, hv⟩
        · cases hh
        · cases hh; exact ⟨v', rfl, hv⟩
      cases hu.int_inv
      refine ⟨.slice none 0 0, ?_, .flat _ rfl⟩
      rcases intOr_inv hlo hl0 with ⟨rfl, _⟩ | ⟨k3, rfl⟩ <;> simp [Instr.sliceAt, Instr.slice, run_underlying hd, Instr.sliceBounds, Instr.sliceBound, asIntOf, run_sizeOf hie]
    · cases h
  · cases h
end
end Go.AM
set_option linter.unusedVariables false
set_option linter.unusedSimpArgs false
namespace Go.AM
open Go.RowKit

section
variable {P : Program} {B0 : Nat} {w0 : World} {m : Mp} {H : AH} {w : World}

theorem foldl_set_spl : ∀ (l : List Value) (j off : Nat) (cs : Array Value), off + j + l.length ≤ cs.size →
    ((l.zipIdx j).foldl (fun (cs : Array Value) (p : Value × Nat) => cs.setIfInBounds (off + p.2) p.1) cs).toList = spl cs.toList (off + j) l
  | [], j, off, cs, _ => by simp [spl]
  | v :: l, j, off, cs, h => by
    simp only [List.length_cons] at h
    rw [List.zipIdx_cons, List.foldl_cons, foldl_set_spl l (j + 1) off _ (by simp; omega)]
    have hcl : cs.toList.length = cs.size := by simp
    unfold spl
    rw [Array.toList_setIfInBounds]
    apply List.ext_getElem?
    intro i
    simp only [List.getElem?_append, List.getElem?_take, List.getElem?_drop, List.getElem?_set, List.length_take, List.length_set, List.length_cons]
    rw [hcl]
    by_cases h1 : i < off + j
    · rw [if_pos (by omega), if_pos (by omega), if_neg (by omega), if_pos (by omega), if_pos (by omega)]
    · by_cases h2 : i = off + j
      · subst h2
        have e1 : min (off + (j + 1)) cs.size = off + (j + 1) := by omega
        have e2 : min (off + j) cs.size = off + j := by omega
        rw [e1, e2]
        simp [show off + j < off + (j + 1) by omega, show off + j < cs.size by omega]
      · by_cases h3 : i < off + j + 1 + l.length
        · rw [if_neg (by omega), if_pos (by omega), if_neg (by omega), if_pos (by omega)]
          rw [show i - min (off + j) cs.size = (i - min (off + (j + 1)) cs.size) + 1 by omega, List.getElem?_cons_succ]
        · rw [if_neg (by omega), if_neg (by omega), if_neg (by omega), if_neg (by omega)]
          rw [if_neg (by omega)]
          congr 1
          omega
def PRel (m : Mp) : List (Nat × Value) → List (Nat × Value) → Prop
  | [], [] => True
  | p :: ps, q :: qs => p.1 = q.1 ∧ VRel m p.2 q.2 ∧ PRel m ps qs
  | _, _ => False
theorem fill_sound (place : Nat → Option (Nat × Nat)) : ∀ (ps qs : List (Nat × Value)) (cs : List Value) (ds : Array Value) (es : List Value), PRel m ps qs → LRel m cs ds.toList → fillB place cs ps = some es →
    ∃ fs, Instr.fill place ds qs = some fs ∧ LRel m es fs.toList
  | [], [], cs, ds, es, _, hl, h => by
    cases h
    exact ⟨ds, rfl, hl⟩
  | (i, v) :: ps, (j, u) :: qs, cs, ds, es, hp, hl, h => by
    obtain ⟨rfl, hv, hr⟩ := hp
    unfold fillB at h
    unfold Instr.fill
    cases hpl : place i with
    | none => rw [hpl] at h; cases h
    | some on =>
      obtain ⟨off, n⟩ := on
      rw [hpl] at h
      simp only at h ⊢
      split at h
      · rename_i hc
        obtain ⟨c1, c2, c3⟩ := hc
        obtain ⟨q1, q2⟩ := hv.cells c3
        have hsz : u.cells.size = n := by have := q1.1; simp at this; omega
        have hds : ds.size = cs.length := by have := hl.1; simp at this; omega
        rw [if_neg (by simp [hsz]; omega)]
        refine fill_sound place ps qs _ _ es hr ?_ h
        rw [← Array.foldl_toList, Array.toList_zipIdx]
        have := foldl_set_spl u.cells.toList 0 off ds (by simp [hsz]; omega)
        rw [this]
        exact hl.spl q1 _
      · cases h
  | [], _ :: _, _, _, _, hp, _, _ => hp.elim
  | _ :: _, [], _, _, _, hp, _, _ => hp.elim
theorem build_sound {t : TypeId} {ps qs : List (Nat × Value)} {v : Value} (hp : PRel m ps qs) (h : build P t ps = some v) : ∃ v', (Instr.build t qs.toArray).run P w = .ok v' w ∧ VRel m v v' := by
  unfold build at h
  cases hz : zeroT P t with
  | none => rw [hz] at h; cases h
  | some z =>
    rw [hz] at h
    simp only [Option.bind_some] at h
    obtain ⟨i, hi, hz1, hz2⟩ := zeroT_inv hz
    split at h
    · rename_i fs hd
      split at h
      · cases h
      · rename_i hall
        simp only [Bool.not_eq_false] at hall
        cases hf : fillB (fun i => (fs[i]?).map fun f => (f.offset, szT P f.type)) z.cells.toList ps with
        | none => rw [hf] at h; cases h
        | some cs =>
          rw [hf] at h
          cases h
          obtain ⟨es, h1, h2⟩ := fill_sound (m := m) _ ps qs _ z.cells _ hp (flat_cells hz2) hf
          refine ⟨.agg es, run_build w t qs.toArray es ?_, VRel.aggL (by simpa using h2)⟩
          unfold Program.built
          rw [hi, hd]
          simp only
          have hm : fs.toList.mapM (fun f => (P.info? f.type).map fun i => (f.offset, i.size)) = some (fs.toList.map fun f => (f.offset, szT P f.type)) := by
            have : ∀ l : List Field, l.all (fun f => (P.info? f.type).isSome) = true → l.mapM (fun f => (P.info? f.type).map fun i => (f.offset, i.size)) = some (l.map fun f => (f.offset, szT P f.type)) := by
              intro l
              induction l with
              | nil => intro _; rfl
              | cons f l ih =>
                intro h
                simp only [List.all_cons, Bool.and_eq_true] at h
                obtain ⟨j, hj⟩ := isSome_info h.1
                simp [List.mapM_cons, hj, ih h.2, szT_eq hj]
            exact this _ hall
          rw [hz1, hm]
          simp only
          rw [← h1]
          congr 1
          funext x
          simp
    · rename_i n e hd
      split at h
      · cases h
      · rename_i hall
        simp only [Bool.not_eq_false] at hall
        obtain ⟨j, hj⟩ := isSome_info hall
        cases hf : fillB (fun i => some (i * szT P e, szT P e)) z.cells.toList ps with
        | none => rw [hf] at h; cases h
        | some cs =>
          rw [hf] at h
          cases h
          obtain ⟨es, h1, h2⟩ := fill_sound (m := m) _ ps qs _ z.cells _ hp (flat_cells hz2) hf
          refine ⟨.agg es, run_build w t qs.toArray es ?_, VRel.aggL (by simpa using h2)⟩
          unfold Program.built
          rw [hi, hd]
          simp only [hz1, hj]
          rw [szT_eq hj] at h1
          exact h1
    · cases h
theorem buildS_sound (R : Rel P B0 w0 m H w) {t : TypeId} {len : Nat} {ps qs : List (Nat × Value)} {u : Value} {H' : AH} (hp : PRel m ps qs) (h : buildS P t H len ps = some (u, H')) :
    ∃ u' m' w', (Instr.buildSlice t len qs.toArray).run P w = .ok u' w' ∧ VRel m' u u' ∧ Rel P B0 w0 m' H' w' ∧ Ext m H w m' H' w' := by
  unfold buildS at h
  split at h
  · rename_i e hd
    cases hz : zeroT P e with
    | none => rw [hz] at h; cases h
    | some z =>
      rw [hz] at h
      simp only [Option.bind_some] at h
      obtain ⟨i, hi, hz1, hz2⟩ := zeroT_inv hz
      split at h
      · rename_i hc
        cases hf : fillB (fun i => some (i * szT P e, szT P e)) (rep z.cells.toList len) ps with
        | none => rw [hf] at h; cases h
        | some cs =>
          rw [hf] at h
          cases h
          have hml := madeCells_toList z.cells len
          rw [hc.2] at hml
          obtain ⟨es, h1, h2⟩ := fill_sound (m := m) _ ps qs _ (madeCells z.cells (len * szT P e)) _ hp (by rw [hml]; exact (flat_cells hz2).rep _) hf
          obtain ⟨h3, h4⟩ := R.make (P := P) cs e .fix es (by decide) (by rw [List.take_of_length_le (by have := h2.1; simp at this ⊢; omega)]; exact h2) (fun _ => by have := h2.1; simp at this; omega)
          refine ⟨_, _, _, ?_, VRel.newSl (upd_same _ _ _) rfl (Nat.le_refl _) (Nat.le_refl _) (fun _ => rfl) (fun hk => by cases hk) (fun hk => (hk rfl).elim), h3, h4⟩
          have hle : ¬ (16777216 < len * szT P e) := by omega
          by_cases h0 : len * szT P e = 0
          · have e0 : madeCells z.cells 0 = #[] := by simp [madeCells]
            rw [h0, e0] at h1
            simp [Instr.buildSlice, run_underlying hd, run_sizeOf hi, h0, newRow, Array.range_zero']
            rw [h1]
            simp
          · simp [Instr.buildSlice, run_underlying hd, run_sizeOf hi, h0, hle, run_zeroValue hi hz1, newRow]
            unfold madeCells at h1
            rw [h1]
            simp
      · cases h
  · cases h
theorem still_run {α : Type} : ∀ (s : Sem α) (a : α), still P s = some a → ∀ w, s.run P w = .ok a w := by
  intro s
  induction s with
  | pure a => intro b h w; cases h; rfl
  | program k ih => intro b h w; exact ih P b h w
  | _ => intro b h; cases h
theorem VRel.ptr_some {ad : Addr} {v : Value} (h : VRel m (.pointer (some ad)) v) : ∃ ad', v = .pointer (some ad') := by
  cases h with
  | flat v h => simp [flat1] at h
  | ptr b off L h => exact ⟨_, rfl⟩
theorem VRel.slice_some {ad : Addr} {n c : Nat} {v : Value} (h : VRel m (.slice (some ad) n c) v) : ∃ ad' c', v = .slice (some ad') n c' := by
  cases h with
  | flat v h => simp [flat1] at h
  | slice b off off' len cap cap' L h h1 h2 h3 h4 h5 h6 => exact ⟨_, _, rfl⟩
theorem VRel.func_some {f : Fn} {a b : Array Value} {v : Value} (h : VRel m (.func f a b) v) : ∃ f' a' b', v = .func f' a' b' := by
  cases h with
  | flat v h => simp [flat1] at h
  | func f a b a' b' h1 h2 h3 h4 => exact ⟨_, _, _, rfl⟩
  | yld b L h h0 => exact ⟨_, _, _, rfl⟩
theorem VRel.func_someF {f : FuncId} {a b : Array Value} {v : Value} (h : VRel m (.func (.func f) a b) v) : ∃ a' b', v = .func (.func f) a' b' := by
  cases h with
  | flat v h => simp [flat1] at h
  | func f a b a' b' h1 h2 h3 h4 => exact ⟨_, _, rfl⟩
theorem eqGuard_of {op : BinOp} {t : TypeId} {x y : Operand} {a b : Value} (h : (match a with | .nilIface => false | .agg _ => false | _ => true) = true) : eqGuard op t x y a b = pure () := by
  cases a <;> first | (simp at h; done) | (cases op <;> rfl)
theorem nilEq_sound {t : TypeId} {D : TypeDesc} {a b a' b' : Value} {c : Bool} (hd : P.underlying t = some D) (ha : VRel m a a') (hb : VRel m b b') (h : nilEq D a b = some c) :
    (Op.equal t a' b').run P w = .ok c w ∧ ∀ (op : BinOp) (x y : Operand), eqGuard op t x y a' b' = pure () := by
  obtain ⟨d, e0⟩ : ∃ d, ∀ x y : Value, Op.equal t x y = Op.equalIn (d + 1) t x y := ⟨9999, fun _ _ => rfl⟩
  unfold nilEq at h
  split at h
  · cases h
    obtain ⟨ad', rfl⟩ := ha.ptr_some
    cases hb.flat_inv rfl
    exact ⟨by rw [e0]; simp only [Op.equalIn, Sem.run_bind, run_underlying hd, Result.andThen_ok, Sem.run_pure], fun _ _ _ => eqGuard_of rfl⟩
  · cases h
    obtain ⟨ad', rfl⟩ := hb.ptr_some
    cases ha.flat_inv rfl
    exact ⟨by rw [e0]; simp only [Op.equalIn, Sem.run_bind, run_underlying hd, Result.andThen_ok, Sem.run_pure, Option.isNone_some], fun _ _ _ => eqGuard_of rfl⟩
  · cases h
    obtain ⟨ad', c', rfl⟩ := ha.slice_some
    cases hb.flat_inv rfl
    exact ⟨by rw [e0]; simp only [Op.equalIn, Sem.run_bind, run_underlying hd, Result.andThen_ok, Sem.run_pure], fun _ _ _ => eqGuard_of rfl⟩
  · cases h
    obtain ⟨ad', c', rfl⟩ := hb.slice_some
    cases ha.flat_inv rfl
    exact ⟨by rw [e0]; simp only [Op.equalIn, Sem.run_bind, run_underlying hd, Result.andThen_ok, Sem.run_pure, Option.isNone_some], fun _ _ _ => eqGuard_of rfl⟩
  · cases h
    obtain ⟨f', a', b', rfl⟩ := ha.func_some
    cases hb.flat_inv rfl
    exact ⟨by rw [e0]; simp only [Op.equalIn, Sem.run_bind, run_underlying hd, Result.andThen_ok, Sem.run_pure], fun _ _ _ => eqGuard_of rfl⟩
  · cases h
    obtain ⟨f', a', b', rfl⟩ := hb.func_some
    cases ha.flat_inv rfl
    exact ⟨by rw [e0]; simp only [Op.equalIn, Sem.run_bind, run_underlying hd, Result.andThen_ok, Sem.run_pure], fun _ _ _ => eqGuard_of rfl⟩
  · cases h
theorem binOp_eql (t : TypeId) (a b : Value) (h : ∀ k n, a ≠ .int k n) (h2 : ∀ k n, a ≠ .float k n) (h3 : ∀ s, a ≠ .string s) (h4 : ∀ k n q, a ≠ .complex k n q) : binOp .eql t a b = (do pure (.bool (← Op.equal t a b))) := by
  cases a <;> first
    | exact (h _ _ rfl).elim
    | exact (h2 _ _ rfl).elim
    | exact (h3 _ rfl).elim
    | exact (h4 _ _ _ rfl).elim
    | rfl
theorem binOp_neq (t : TypeId) (a b : Value) (h : ∀ k n, a ≠ .int k n) (h2 : ∀ k n, a ≠ .float k n) (h3 : ∀ s, a ≠ .string s) (h4 : ∀ k n q, a ≠ .complex k n q) : binOp .neq t a b = (do pure (.bool (!(← Op.equal t a b)))) := by
  cases a <;> first
    | exact (h _ _ rfl).elim
    | exact (h2 _ _ rfl).elim
    | exact (h3 _ rfl).elim
    | exact (h4 _ _ _ rfl).elim
    | rfl
theorem nilEq_left {D : TypeDesc} {a b a' : Value} {c : Bool} (ha : VRel m a a') (h : nilEq D a b = some c) : (∀ k n, a' ≠ .int k n) ∧ (∀ k n, a' ≠ .float k n) ∧ (∀ s, a' ≠ .string s) ∧ (∀ k n q, a' ≠ .complex k n q) := by
  unfold nilEq at h
  split at h
  · obtain ⟨ad', rfl⟩ := ha.ptr_some; simp
  · cases ha.flat_inv rfl; simp
  · obtain ⟨ad', c', rfl⟩ := ha.slice_some; simp
  · cases ha.flat_inv rfl; simp
  · obtain ⟨f', a', b', rfl⟩ := ha.func_some; simp
  · cases ha.flat_inv rfl; simp
  · cases h
theorem bin_sound {op : BinOp} {t : TypeId} {ρ : Operand → Value} {x y : Operand} {a b v : Value} (ha : VRel m a (ρ x)) (hb : VRel m b (ρ y)) (h : bin P op t a b = some v) :
    ∃ v', (do eqGuard op t x y (ρ x) (ρ y); binOp op t (ρ x) (ρ y)).run P w = .ok v' w ∧ VRel m v v' := by
  unfold bin at h
  split at h
  · rename_i hf
    obtain ⟨f1, f2, f3⟩ := hf
    rw [ha.flat_inv f1, hb.flat_inv f2]
    cases hs : still P (binOp op t a b) with
    | none => rw [hs] at h; cases h
    | some u =>
      rw [hs] at h
      simp only [Option.bind_some] at h
      split at h
      · rename_i hfu
        cases h
        refine ⟨v, ?_, .flat _ hfu⟩
        have hg : eqGuard op t x y a b = pure () := by
          cases a <;> first | (simp [isNilI] at f3; done) | (simp [flat1] at f1; done) | (cases op <;> rfl)
        rw [hg]
        simp [still_run _ _ hs w]
      · cases h
  · split at h
    · cases hd : P.underlying t with
      | none => rw [hd] at h; cases h
      | some D =>
        rw [hd] at h
        simp only [Option.bind_some] at h
        cases hn : nilEq D a b with
        | none => rw [hn] at h; cases h
        | some c =>
          rw [hn] at h
          cases h
          obtain ⟨h1, h2⟩ := nilEq_sound (w := w) hd ha hb hn
          obtain ⟨q1, q2, q3, q4⟩ := nilEq_left ha hn
          refine ⟨.bool c, ?_, .flat _ rfl⟩
          rw [h2, binOp_eql _ _ _ q1 q2 q3 q4]
          simp [h1]
    · cases hd : P.underlying t with
      | none => rw [hd] at h; cases h
      | some D =>
        rw [hd] at h
        simp only [Option.bind_some] at h
        cases hn : nilEq D a b with
        | none => rw [hn] at h; cases h
        | some c =>
          rw [hn] at h
          cases h
          obtain ⟨h1, h2⟩ := nilEq_sound (w := w) hd ha hb hn
          obtain ⟨q1, q2, q3, q4⟩ := nilEq_left ha hn
          refine ⟨.bool !c, ?_, .flat _ rfl⟩
          rw [h2, binOp_neq _ _ _ q1 q2 q3 q4]
          simp [h1]
    · cases h
theorem un_sound {op : UnOp} {a a' v : Value} (ha : VRel m a a') (h : un P op a = some v) : ∃ v', (Op.unary op a').run P w = .ok v' w ∧ VRel m v v' := by
  unfold un at h
  split at h
  · rename_i hf
    rw [ha.flat_inv hf]
    cases hs : still P (Op.unary op a) with
    | none => rw [hs] at h; cases h
    | some u =>
      rw [hs] at h
      simp only [Option.bind_some] at h
      split at h
      · rename_i hfu; cases h; exact ⟨v, still_run _ _ hs w, .flat _ hfu⟩
      · cases h
  · cases h
theorem cv_sound {s d : TypeId} {a a' v : Value} (ha : VRel m a a') (h : cv P s d a = some v) : ∃ v', (convert s d a').run P w = .ok v' w ∧ VRel m v v' := by
  unfold cv at h
  split at h
  · rename_i hs hd
    cases h
    cases ha.int_inv
    exact ⟨_, by simp [convert, run_underlying hs, run_underlying hd, Conv.intToInt], .flat _ rfl⟩
  · rename_i hs hd
    cases h
    cases ha.str_inv
    refine ⟨_, ?_, .flat _ rfl⟩
    simp [convert, run_underlying hs, run_underlying hd]
  · cases h
end
end Go.AM
set_option linter.unusedVariables false
set_option linter.unusedSimpArgs false
namespace Go.AM
open Go.RowKit

section
variable {P : Program} {B0 : Nat} {w0 : World} {m : Mp} {H : AH} {w : World}

theorem rdN_len {k : Blk} {off n : Nat} {cs : List Value} (h : rdN k off n = some cs) : cs.length = n := by
  unfold rdN at h
  split at h
  · cases h; simp; omega
  · cases h
theorem cellsOfBytes_len (s : ByteArray) : (cellsOfBytes s).length = s.size := by simp [cellsOfBytes]
theorem cells_sound (R : Rel P B0 w0 m H w) {sz n : Nat} {x x' : Value} {cs : List Value} (hx : VRel m x x') (h : sliceCells sz H x n = some cs) :
    ∃ ds, LRel m cs ds ∧ (Builtin.firstCells sz n x').run P w = .ok ds.toArray w ∧ (Builtin.firstCells sz n x').run P w.drew = .ok ds.toArray w.drew ∧ ((∀ s, x ≠ .string s) ∨ sz = 1 → ds.length = n * sz) := by
  unfold sliceCells at h
  split at h
  · split at h
    · rename_i h0
      subst h0
      cases h
      cases hx.flat_inv rfl
      exact ⟨[], LRel.nil m, by simp [Builtin.firstCells], by simp [Builtin.firstCells], fun _ => by simp⟩
    · cases h
  · rename_i b off len cap
    obtain ⟨L, off', cap', hm, rfl, h1, h2, h3, h4, h5, h6, hnm⟩ := hx.slice_inv
    split at h
    · rename_i h0
      subst h0
      cases h
      exact ⟨[], LRel.nil m, by simp [Builtin.firstCells, loadCells, loadCellsFrom], by simp [Builtin.firstCells, loadCells, loadCellsFrom], fun _ => by simp⟩
    · split at h
      · cases hb : blk H b with
        | none => rw [hb] at h; cases h
        | some k =>
          rw [hb] at h
          simp only [Option.bind_some] at h
          obtain ⟨ds, hl, hc⟩ := (R.blks b L k hm hb).row hnm h
          have hlen : ds.length = n * sz := by rw [← hl.1]; exact rdN_len h
          rcases h3 with rfl | h3
          · have e1 := run_loadCells_list (P := P) w _ ds hc
            have e2 := run_loadCells_list (P := P) w.drew _ ds hc
            rw [hlen] at e1 e2
            exact ⟨ds, hl, by simp [Builtin.firstCells, e1], by simp [Builtin.firstCells, e2], fun _ => hlen⟩
          · omega
      · cases h
  · rename_i s
    split at h
    · rename_i hn
      cases h
      cases hx.str_inv
      have e : ((s.extract 0 n).data.map fun b => Value.int .u8 b.toNat) = ((cellsOfBytes s).take n).toArray := by
        apply Array.ext'
        simp [cellsOfBytes, ByteArray.data_extract]
      refine ⟨_, LRel.of_flat _ ?_, by simp only [Builtin.firstCells]; rw [e]; rfl, by simp only [Builtin.firstCells]; rw [e]; rfl, fun hh => ?_⟩
      · rw [List.all_eq_true]
        intro v hv
        have := List.mem_of_mem_take hv
        simp only [cellsOfBytes, List.mem_map] at this
        obtain ⟨b, _, rfl⟩ := this
        rfl
      · rcases hh with hh | rfl
        · exact (hh s rfl).elim
        · rw [List.length_take, cellsOfBytes_len]; omega
    · cases h
  · cases h
theorem bytesOf_inv : ∀ (cs : List Value) (l : List UInt8), bytesOf cs = some l → ∃ ns : List Int, cs = ns.map (Value.int .u8) ∧ l = ns.map fun n => UInt8.ofNat n.toNat
  | [], l, h => by cases h; exact ⟨[], rfl, rfl⟩
  | v :: r, l, h => by
    unfold bytesOf at h
    split at h
    · rename_i he; cases he
    · rename_i n r' he
      cases he
      cases hr : bytesOf r with
      | none => rw [hr] at h; cases h
      | some l' =>
        rw [hr] at h
        cases h
        obtain ⟨ns, h1, h2⟩ := bytesOf_inv r l' hr
        exact ⟨n :: ns, by simp [h1], by simp [h2]⟩
    · cases h
theorem foldl_push (ns : List Int) : ∀ r : ByteArray, ns.foldl (fun r n => r.push (UInt8.ofNat n.toNat)) r = ⟨r.data ++ (ns.map fun n => UInt8.ofNat n.toNat).toArray⟩ := by
  induction ns with
  | nil => intro r; simp
  | cons n ns ih => intro r; rw [List.foldl_cons, ih]; simp [ByteArray.push]
theorem LRel.flat_eq {ns : List Int} {ds : List Value} (h : LRel m (ns.map (Value.int .u8)) ds) : ds = ns.map (Value.int .u8) := by
  apply List.ext_getElem?
  intro i
  rcases Nat.lt_or_ge i ns.length with h1 | h1
  · have h2 : i < ds.length := by rw [← h.1]; simpa using h1
    have e1 : (ns.map (Value.int .u8))[i]? = some (.int .u8 ns[i]) := by simp [h1]
    have := h.2 i _ _ e1 (List.getElem?_eq_getElem h2)
    rw [e1, List.getElem?_eq_getElem h2, this.int_inv]
  · rw [List.getElem?_eq_none (by rw [← h.1]; simpa using h1), List.getElem?_eq_none (by simpa using h1)]
theorem cvS_sound (R : Rel P B0 w0 m H w) {s d : TypeId} {a a' v : Value} (ha : VRel m a a') (h : cvS P s d H a = some v) : ∃ v', (convert s d a').run P w = .ok v' w ∧ VRel m v v' := by
  unfold cvS at h
  split at h
  · rename_i e ad len cap hs hd
    split at h
    · rename_i he
      cases hc : sliceCells 1 H (.slice ad len cap) len with
      | none => rw [hc] at h; cases h
      | some cs =>
        rw [hc] at h
        simp only [Option.bind_some] at h
        cases hb : bytesOf cs with
        | none => rw [hb] at h; cases h
        | some l =>
          rw [hb] at h
          cases h
          obtain ⟨ns, rfl, rfl⟩ := bytesOf_inv cs l hb
          obtain ⟨ds, h1, h2, _, h3⟩ := cells_sound R ha hc
          have hds := h1.flat_eq
          subst hds
          refine ⟨_, ?_, .flat _ rfl⟩
          cases ad with
          | none =>
            have hz : len = 0 ∧ cap = 0 := by
              unfold sliceCells at hc
              split at hc
              · rename_i he; cases he; exact ⟨rfl, rfl⟩
              · rename_i he; cases he
              · rename_i he; cases he
              · cases hc
            obtain ⟨rfl, rfl⟩ := hz
            have hn : ns = [] := by have := h3 (.inl fun s hs => by cases hs); simpa using this
            subst hn
            cases ha.flat_inv rfl
            rw [run_convert_bytes_string w s d e none 0 0 hs he hd]
            simp [Conv.bytesToString]
            rfl
          | some ad =>
            obtain ⟨ad', c', rfl⟩ := ha.slice_some
            rw [run_convert_bytes_string w s d e (some ad') len c' hs he hd]
            have e1 : (loadCells ad' len).run P w = .ok (ns.map (Value.int .u8)).toArray w := by simpa [Builtin.firstCells] using h2
            rw [run_bytesToString w ad' len c' ns e1, foldl_push]
            simp
    · cases h
  · cases h
theorem lenOf_sound {x x' : Value} {n : Nat} (hx : VRel m x x') (h : lenOf x = some n) (w : World) : (Builtin.lenOf x').run P w = .ok n w := by
  unfold lenOf at h
  split at h
  · cases h; cases hx.flat_inv rfl; rfl
  · cases h
    rename_i ad n c
    cases hx with
    | flat v hf => simp [flat1] at hf
    | slice => rfl
  · cases h; cases hx.str_inv; rfl
  · cases h
/-- append, where there is room. -/
theorem run_ap_room {t u ty e : TypeId} {i : TypeInfo} {D : TypeDesc} (ht : P.underlying t = some (.slice e)) (hu : P.underlying u = some D) (hD : (∃ e', D = .slice e') ∨ D = .string) (hi : P.info? e = some i) {x : Value} {n : Nat} (hn : (Builtin.lenOf x).run P w = .ok n w)
    {g o sLen sCap : Nat} {news : List Value} (hf : (Builtin.firstCells i.size n x).run P w = .ok news.toArray w) (hroom : sLen + n ≤ sCap) {w' : World} (hst : (storeCells ⟨g, o + sLen * i.size, none⟩ news).run P w = .ok () w') :
    (Builtin.append_ #[t, u] ty #[.slice (some ⟨g, o, none⟩) sLen sCap, x]).run P w = .ok (.slice (some ⟨g, o, none⟩) (sLen + n) sCap) w' := by
  rcases hD with ⟨e', rfl⟩ | rfl <;> simp [Builtin.append_, run_underlying ht, run_underlying hu, sizeOf, typeInfo, hi, hn, hroom, hf, Addr.add_lit, hst]
/-- append, where there is none. -/
theorem run_ap_grow {t u ty e : TypeId} {i : TypeInfo} {z : Value} {D : TypeDesc} (ht : P.underlying t = some (.slice e)) (hu : P.underlying u = some D) (hD : (∃ e', D = .slice e') ∨ D = .string) (hi : P.info? e = some i) (hz : i.zero = some z) {x : Value} {n : Nat} (hn : (Builtin.lenOf x).run P w = .ok n w)
    {b : Option Addr} {sLen sCap : Nat} {olds news : List Value} (hfo : (Builtin.firstCells i.size sLen (.slice b sLen sCap)).run P w.drew = .ok olds.toArray w.drew) (hf : (Builtin.firstCells i.size n x).run P w.drew = .ok news.toArray w.drew)
    (hg : sCap < sLen + n) (h63 : sLen + n ≤ 9223372036854775807) (hfit : (sLen + n) * i.bytes ≤ 140737488355328) :
    (Builtin.append_ #[t, u] ty #[.slice b sLen sCap, x]).run P w =
      .ok (.slice (some ⟨w.heap.size, 0, none⟩) (sLen + n) (grownCap w (sLen + n) sCap e))
        (w.drew.alloc (.cells (olds ++ news ++ (Builtin.zeroCells z.cells (grownCap w (sLen + n) sCap e - (sLen + n))).toList).toArray e)) := by
  have hnn : ¬ (sLen + n ≤ sCap) := by omega
  have h63' : ¬ (9223372036854775807 < ((sLen : Int) + (n : Int))) := by omega
  have h48 := growslice_fits hg hfit
  have h48' : ¬ (281474976710656 < Builtin.nextslicecap (sLen + n) sCap * i.bytes) := by omega
  rcases hD with ⟨e', rfl⟩ | rfl <;> (simp [Builtin.append_, run_underlying ht, run_underlying hu, sizeOf, typeInfo, zeroValue, hi, hz, hn, hnn, h63', h48', Question.forced, hf, hfo, newRow, grownCap]; congr 2; apply Array.ext'; simp)
theorem oneCells {xs ys : List Value} (h : LRel m xs ys) (ha : xs.all isCell = true) : ∀ u ∈ ys, u.oneCell' = true := by
  intro u hu
  obtain ⟨i, hi⟩ := List.getElem?_of_mem hu
  have hlt : i < xs.length := by rw [h.1]; exact (List.getElem?_eq_some_iff.1 hi).1
  have hx := List.getElem?_eq_getElem hlt
  exact (VRel.isCell (h.2 i _ _ hx hi) (List.all_eq_true.1 ha _ (List.mem_of_getElem? hx))).1
theorem grow_new {H0 : AH} (R : Rel P B0 w0 m H0 w) {kd : BK} (hkd : kd.gr = true) {e : TypeId} {i : TypeInfo} {z : Value} (hi : P.info? e = some i) (hzs : z.cells.size = i.size) {cs ks : List Value} {N cap : Nat} (hl : LRel m cs ks) (hN : ks.length = N * i.size) (hcap : N ≤ cap) :
    ∃ m', VRel m' (sl H0.length 0 N (N + 1)) (.slice (some ⟨w.heap.size, 0, none⟩) N cap) ∧ Rel P B0 w0 m' (mkB H0 cs e kd) (w.drew.alloc (.cells (ks ++ (Builtin.zeroCells z.cells (cap - N)).toList).toArray e)) ∧
      Ext m H0 w m' (mkB H0 cs e kd) (w.drew.alloc (.cells (ks ++ (Builtin.zeroCells z.cells (cap - N)).toList).toArray e)) := by
  obtain ⟨h3, h4⟩ := R.drew.make (P := P) cs e kd (ks ++ (Builtin.zeroCells z.cells (cap - N)).toList).toArray (BK.gr_row hkd).2.1 (by
    show LRel m cs ((ks ++ _).take cs.length)
    rw [hl.1, List.take_left]
    exact hl) (fun hk => absurd hk (BK.gr_row hkd).2.2) (BK.gr_row hkd).1
  refine ⟨_, VRel.newSl (upd_same _ _ _) rfl (Nat.le_succ _) hcap (fun hk => absurd hk (BK.gr_row hkd).2.2) ?_ (fun _ => Nat.lt_succ_self _) (BK.gr_row hkd).1, h3, h4.drewL⟩
  intro _
  show cap * szT P e ≤ (ks ++ (Builtin.zeroCells z.cells (cap - N)).toList).toArray.size
  simp only [List.size_toArray, List.length_append, Array.length_toList, size_zeroCells, hN, hzs, szT_eq hi]
  rw [← Nat.add_mul]
  exact Nat.mul_le_mul_right _ (by omega)
theorem apS_sound (R : Rel P B0 w0 m H w) {t u ty e : TypeId} {i : TypeInfo} {z : Value} {D : TypeDesc} (ht : P.underlying t = some (.slice e)) (hu : P.underlying u = some D) (hD : (∃ e', D = .slice e') ∨ D = .string) (hi : P.info? e = some i) (hz : i.zero = some z)
    (hzs : z.cells.size = i.size) {s s' x x' v : Value} {n : Nat} {news : List Value} {H' : AH} (hs : VRel m s s') (hx : VRel m x x') (hsz0 : 0 < i.size) (hn : lenOf x = some n) (hc : sliceCells i.size H x n = some news) (hd1 : (∀ s, x ≠ .string s) ∨ i.size = 1) (hone : news.all isCell = true)
    {kd : BK} (hkd : kd.gr = true) (h : apS kd i.size i.bytes e H s n news = some (v, H')) :
    ∃ v' m' w', (Builtin.append_ #[t, u] ty #[s', x']).run P w = .ok v' w' ∧ VRel m' v v' ∧ Rel P B0 w0 m' H' w' ∧ Ext m H w m' H' w' := by
  have hnl := lenOf_sound (P := P) hx hn w
  obtain ⟨ds, hl, hf1, hf2, hdl⟩ := cells_sound R hx hc
  have hdl := hdl hd1
  have h1 := oneCells hl hone
  unfold apS at h
  split at h
  · cases hs.flat_inv rfl
    split at h
    · rename_i h0
      subst h0
      cases h
      have hd0 : ds = [] := by simpa using hdl
      subst hd0
      refine ⟨.slice none 0 0, m, w, ?_, .flat _ rfl, R, Ext.refl _ _ _⟩
      rcases hD with ⟨e', rfl⟩ | rfl <;> simp [Builtin.append_, run_underlying ht, run_underlying hu, sizeOf, typeInfo, hi, hnl, hf1]
    · rename_i h0
      split at h
      · rename_i hb
        cases h
        have hrun := run_ap_grow (P := P) (w := w) (ty := ty) (b := none) (sLen := 0) (sCap := 0) (olds := []) ht hu hD hi hz hnl (by simp [Builtin.firstCells]) hf2 (by omega) (by omega) (by rw [Nat.zero_add]; exact hb.1)
        simp only [Nat.zero_add, List.nil_append] at hrun
        obtain ⟨m', q1, q2, q3⟩ := grow_new R hkd hi hzs hl hdl (grownCap_ge w n 0 e)
        exact ⟨_, m', _, hrun, q1, q2, q3⟩
      · cases h
  · rename_i b off len cap
    have hs0 := hs
    obtain ⟨L, off', cap', hm, rfl, g1, g2, g3, g4, g5, g8, hnm⟩ := hs.slice_inv
    split at h
    · rename_i h0
      subst h0
      cases h
      have hd0 : ds = [] := by simpa using hdl
      subst hd0
      exact ⟨_, m, w, run_ap_room ht hu hD hi hnl hf1 (by omega) (by simp [storeCells]), hs0, R, Ext.refl _ _ _⟩
    · rename_i hn0
      split at h
      · rename_i hc0
        subst hc0
        have hl0 : len = 0 := by omega
        subst hl0
        have hc0 : cap' = 0 := by
          by_cases hk : L.kind = .fix
          · exact (g4 hk).2
          · rcases g8 hk with g9 | g9
            · omega
            · exact g9.2
        subst hc0
        split at h
        · rename_i hb
          cases h
          have hrun := run_ap_grow (P := P) (w := w) (ty := ty) (b := some ⟨L.blk, off', none⟩) (sLen := 0) (sCap := 0) (olds := []) ht hu hD hi hz hnl (by simp [Builtin.firstCells, loadCells, loadCellsFrom]) hf2 (by omega) (by omega) (by rw [Nat.zero_add]; exact hb.1)
          simp only [Nat.zero_add, List.nil_append] at hrun
          obtain ⟨m', q1, q2, q3⟩ := grow_new R hkd hi hzs hl hdl (grownCap_ge w n 0 e)
          exact ⟨_, m', _, hrun, q1, q2, q3⟩
        · cases h
      rename_i hcap0
      cases hb : blk H b with
      | none => rw [hb] at h; cases h
      | some k =>
        rw [hb] at h
        simp only [Option.bind_some] at h
        cases hr : rdN k off (len * i.size) with
        | none => rw [hr] at h; cases h
        | some old =>
          rw [hr] at h
          simp only [Option.bind_some] at h
          have hol := rdN_len hr
          -- the elder cells, as they are read
          have holds : ∃ os, LRel m old os ∧ os.length = len * i.size ∧ (Builtin.firstCells i.size len (.slice (some ⟨L.blk, off', none⟩) len cap')).run P w.drew = .ok os.toArray w.drew := by
            have hsc : sliceCells i.size H (.slice (some ⟨b, off, none⟩) len cap) len = some old := by
              unfold sliceCells
              simp only
              split
              · rename_i hl0
                subst hl0
                have : old = [] := by simpa using hol
                rw [this]
              · rw [if_pos (Nat.le_refl _), hb]
                exact hr
            obtain ⟨os, q1, _, q3, q4⟩ := cells_sound R hs0 hsc
            exact ⟨os, q1, q4 (.inl fun s hs => by cases hs), q3⟩
          obtain ⟨os, q1, q2, q3⟩ := holds
          split at h
          · rename_i hcond
            obtain ⟨c1, c2, c3⟩ := hcond
            have gr : off = 0 → ∀ (hk : k.kind.gr = true) (hfull : k.kind = .buf → k.cells.length = len * i.size), ∃ v' m' w', (Builtin.append_ #[t, u] ty #[.slice (some ⟨L.blk, off', none⟩) len cap', x']).run P w = .ok v' w' ∧ VRel m' (sl H.length 0 (len + n) (len + n + 1)) v' ∧
                Rel P B0 w0 m' (mkB (kill H b) (old ++ news) e k.kind) w' ∧ Ext m H w m' (mkB (kill H b) (old ++ news) e k.kind) w' := by
              intro hoff hk hfull
              subst hoff
              have hcp : 0 < cap := by omega
              have hkk := (R.blks b L k hm hb).kind
              have hcs := g5 (by rw [hkk]; exact hk) rfl hcp
              by_cases hle : len + n ≤ cap'
              · obtain ⟨c, e', fr, hw, hlr, h3, h4, h5⟩ := (R.blks b L k hm hb).there (BK.gr_row hk).1
                obtain ⟨h3a, he, hbs⟩ := h3 (BK.gr_row hk).2.1
                have hcsz := h5.1 hk
                have hesz : L.esz = i.size := by rw [(R.blks b L k hm hb).esz hk, c3, szT_eq hi]
                have hin : off' + len * i.size + ds.length ≤ c.size := by
                  rw [hdl, hcsz, Nat.add_assoc, ← Nat.add_mul]
                  have : (len + n) * i.size ≤ cap' * i.size := Nat.mul_le_mul_right _ hle
                  rw [hesz] at hcs
                  omega
                have hfz : fr.2 ≤ off' + len * i.size := by
                  by_cases hkb : k.kind = .buf
                  · obtain ⟨z1, z2⟩ := h5.2 hkb
                    rcases g3 with g3 | g3
                    · rw [g3]; have := hfull hkb; omega
                    · rw [z2 (List.eq_nil_of_length_eq_zero (by rw [hfull hkb, g3, Nat.zero_mul]))]; omega
                  · rw [h3a hkb]; exact Nat.zero_le _
                have hst := run_storeCells_atF P L.blk (off' + len * i.size) e' fr ds 0 c w hw (by omega) (by omega) h1
                have hrun := run_ap_room (P := P) (w := w) (ty := ty) ht hu hD hi hnl hf1 hle hst
                simp only [Nat.add_zero] at hst hrun
                have hcl : c.toList.length = c.size := by simp
                have hold : LRel m old ((c.toList.drop off').take (len * i.size)) := by
                  unfold rdN at hr
                  split at hr
                  · rename_i hle2
                    cases hr
                    rcases g3 with g3 | g3
                    · have := (hlr.drop 0).take (len * i.size)
                      simp only [List.drop_zero] at this
                      rw [List.take_take, Nat.min_eq_left (by omega)] at this
                      rw [List.drop_zero, g3, Nat.add_zero]
                      exact this
                    · subst g3
                      simp only [Nat.zero_mul, List.take_zero]
                      exact LRel.nil m
                  · cases hr
                have hcut : ((c.toList.take (off' + len * i.size) ++ ds ++ c.toList.drop (off' + len * i.size + ds.length)).toArray.toList.drop off').take (old ++ news).length = (c.toList.drop off').take (len * i.size) ++ ds := by
                  have hnl2 : (old ++ news).length = len * i.size + ds.length := by rw [List.length_append, hol, hl.1]
                  rw [hnl2]
                  apply List.ext_getElem?
                  intro j
                  simp only [List.getElem?_take, List.getElem?_drop, List.getElem?_append, List.length_take, List.length_drop, List.length_append]
                  rw [hcl]
                  by_cases j1 : j < len * i.size
                  · rw [if_pos (by omega), if_pos (by omega), if_pos (by omega), if_pos (by omega), if_pos (by omega), if_pos (by omega)]
                  · by_cases j2 : j < len * i.size + ds.length
                    · rw [if_pos (by omega), if_pos (by omega), if_neg (by omega), if_neg (by omega)]
                      congr 1
                      omega
                    · rw [if_neg (by omega), if_neg (by omega), List.getElem?_eq_none (by omega)]
                obtain ⟨r2, r3⟩ := R.regrow (P := P) hm hb hk hw off' (old ++ news) (c.toList.take (off' + len * i.size) ++ ds ++ c.toList.drop (off' + len * i.size + ds.length)).toArray (by simp; omega) (by simp; omega) (by
                  rw [hcut]
                  exact hold.append hl) (fun _ => ⟨by rw [List.length_append, hol]; omega, fun hnil => by have := congrArg List.length hnil; rw [List.length_append, hl.1, hdl] at this; have : 0 < n * i.size := Nat.mul_pos (by omega) hsz0; simp at *; omega⟩)
                rw [c3] at r2 r3
                refine ⟨_, _, _, hrun, ?_, r2, r3⟩
                refine .slice H.length 0 off' (len + n) (len + n + 1) cap' ⟨L.blk, off', k.kind, L.csize, L.esz⟩ (upd_same _ _ _) (BK.gr_row hk).1 (Nat.le_succ _) hle (.inl rfl) (fun hx => absurd hx (BK.gr_row hk).2.2) (fun _ _ _ => hcs) (fun _ => .inl (Nat.lt_succ_self _))
              · have hrun := run_ap_grow (P := P) (w := w) (ty := ty) (olds := os) ht hu hD hi hz hnl q3 hf2 (show cap' < len + n by omega) c2 c1
                obtain ⟨R2, X2⟩ := R.killed b
                obtain ⟨m', r1, r2, r3⟩ := grow_new R2 hk hi hzs (q1.append hl) (N := len + n) (cap := grownCap w (len + n) cap' e) (by rw [List.length_append, q2, hdl, Nat.add_mul]) (grownCap_ge w _ _ e)
                rw [length_kill'] at r1
                exact ⟨_, m', _, hrun, r1, r2, Ext.trans (fun b L hb => (R.dom b L hb).1) X2 r3⟩
            split at h
            · rename_i hk
              have hLk : L.kind = .fix := by rw [(R.blks b L k hm hb).kind]; exact hk
              obtain ⟨g6, g7⟩ := g4 hLk
              subst g7 g6
              split at h
              · rename_i hle
                split at h
                · rename_i hfit
                  cases h
                  have hnews : news.length = n * i.size := by rw [hl.1, hdl]
                  have hfit' : off + len * i.size + news.length ≤ k.cells.length := by rw [hnews, Nat.add_assoc, ← Nat.add_mul]; exact hfit
                  obtain ⟨w', r1, r2, r3⟩ := store_sound R hm hb (by rw [hk]; rfl) (off := off + len * i.size) hfit' hl h1
                  rw [← Nat.add_assoc] at r1
                  refine ⟨_, m, w', run_ap_room ht hu hD hi hnl hf1 hle r1, ?_, r2, r3⟩
                  exact .slice b off _ (len + n) cap' cap' L hm hnm hle hle (.inl rfl) (fun _ => ⟨rfl, rfl⟩) (fun hx => by rw [hLk] at hx; cases hx) (fun hx => (hx hLk).elim)
                · cases h
              · rename_i hle
                cases h
                have hrun := run_ap_grow (P := P) (w := w) (ty := ty) (olds := os) ht hu hD hi hz hnl q3 hf2 (show cap' < len + n by omega) c2 c1
                obtain ⟨m', r1, r2, r3⟩ := grow_new R hkd hi hzs (q1.append hl) (N := len + n) (cap := grownCap w (len + n) cap' e) (by rw [List.length_append, q2, hdl, Nat.add_mul]) (grownCap_ge w _ _ e)
                exact ⟨_, m', _, hrun, r1, r2, r3⟩
            · rename_i hk
              split at h
              · rename_i hoff
                cases h
                have := gr hoff (by rw [hk]; rfl) (fun hx => by rw [hk] at hx; cases hx)
                rw [hk] at this
                exact this
              · cases h
            · rename_i hk
              split at h
              · rename_i hoff
                cases h
                have := gr hoff.1 (by rw [hk]; rfl) (fun _ => hoff.2)
                rw [hk] at this
                exact this
              · cases h
            · cases h
          · cases h
  · cases h
end
theorem zeroCells_one (a : Array Value) (ha : a.size = 1) (n : Nat) : (Builtin.zeroCells a n).toList = rep a.toList n := by
  obtain ⟨l⟩ := a
  obtain ⟨c, rfl⟩ := List.length_eq_one_iff.mp (show l.length = 1 from ha)
  have e : rep [c] n = List.replicate n c := by
    induction n with
    | zero => rfl
    | succ n ih => rw [rep, ih]; rfl
  show _ = rep [c] n
  rw [e]
  unfold Builtin.zeroCells
  have h1 : (⟨[c]⟩ : Array Value).size = 1 := rfl
  rw [h1, Nat.mul_one]
  apply List.ext_getElem?
  intro i
  by_cases h : i < n
  · simp [h, Nat.mod_one]
  · simp [h]
theorem apZ_sound {kd : BK} (hkd : kd.gr = true) {P : Program} {B0 : Nat} {w0 : World} {m : Mp} {H : AH} {w : World} (R : Rel P B0 w0 m H w) {t u ty e : TypeId} {i : TypeInfo} {z : Value} {kn k : IntKind} {n : Int} (ht : P.underlying t = some (.slice e)) (hu : P.underlying u = some (.int kn)) (hi : P.info? e = some i) (hz : i.zero = some z) (hz2 : flat z = true)
    (hzs : z.cells.size = 1) (hsz : i.size = 1) {s' x' : Value} (hs : VRel m (.slice none 0 0) s') (hx : VRel m (.int k n) x') (h0 : 0 < n) (h63 : n ≤ 9223372036854775807) (h48 : n * i.bytes ≤ 140737488355328) :
    ∃ v' m' w', (Builtin.append_ #[t, u] ty #[s', x']).run P w = .ok v' w' ∧ VRel m' (sl H.length 0 n.toNat (n.toNat + 1)) v' ∧ Rel P B0 w0 m' (mkB H (rep z.cells.toList n.toNat) e kd) w' ∧ Ext m H w m' (mkB H (rep z.cells.toList n.toNat) e kd) w' := by
  cases hs.flat_inv rfl
  cases hx.int_inv
  obtain ⟨q, rfl⟩ := Int.eq_ofNat_of_zero_le (show 0 ≤ n by omega)
  rw [Int.toNat_natCast]
  have h48' : q * i.bytes ≤ 140737488355328 := by
    rw [← Int.natCast_mul] at h48
    omega
  have hrun := Lib.run_append_nil_zeros (P := P) w t u ty e i z k kn ht hu hi hz q (by omega) (by omega) h63 (by omega)
  have hzc := zeroCells_one z.cells hzs q
  have hN : (rep z.cells.toList q).length = q * i.size := by rw [← hzc, Array.length_toList, size_zeroCells, hzs, hsz]
  obtain ⟨m', q1, q2, q3⟩ := grow_new (cs := rep z.cells.toList q) (ks := rep z.cells.toList q) R hkd hi (by rw [hzs, hsz]) ((flat_cells hz2).rep q) hN (grownCap_ge w q 0 e)
  have harr : Builtin.zeroCells z.cells q ++ Builtin.zeroCells z.cells (grownCap w q 0 e - q) = (rep z.cells.toList q ++ (Builtin.zeroCells z.cells (grownCap w q 0 e - q)).toList).toArray := by
    apply Array.ext'
    simp [hzc]
  rw [harr] at hrun
  exact ⟨_, m', _, hrun, q1, q2, q3⟩
end Go.AM
set_option linter.unusedVariables false
set_option linter.unusedSimpArgs false
namespace Go.AM
open Go.RowKit

section
variable {P : Program} {B0 : Nat} {w0 : World} {m : Mp} {H : AH} {w : World}

theorem run_cpy {t u ty e : TypeId} {i : TypeInfo} (hd : P.underlying t = some (.slice e)) (hi : P.info? e = some i) {x : Value} {n len cap : Nat} {ad : Option Addr} {ds : List Value} {w' : World} (hn : (Builtin.lenOf x).run P w = .ok n w)
    (hf : (Builtin.firstCells i.size (min n len) x).run P w = .ok ds.toArray w) (hst : ∀ a, ad = some a → (storeCells a ds).run P w = .ok () w') (hno : ad = none → w' = w) :
    (Builtin.copy_ #[t, u] ty #[.slice ad len cap, x]).run P w = .ok (goInt (min n len : Nat)) w' := by
  have hm : n.min len = min n len := rfl
  cases ad with
  | none => cases hno rfl; simp [Builtin.copy_, run_underlying hd, hn, sizeOf, typeInfo, hi, hm, hf]
  | some a => simp [Builtin.copy_, run_underlying hd, hn, sizeOf, typeInfo, hi, hm, hf, hst a rfl]
theorem sliceCells_zero {sz : Nat} {x : Value} {cs : List Value} (h : sliceCells sz H x 0 = some cs) : cs = [] := by
  unfold sliceCells at h
  split at h
  · rw [if_pos rfl] at h; cases h; rfl
  · rw [if_pos rfl] at h; cases h; rfl
  · split at h
    · cases h; rfl
    · cases h
  · cases h
theorem cpy_sound (R : Rel P B0 w0 m H w) {t u ty : TypeId} {s s' x x' v : Value} {H' : AH} (hs : VRel m s s') (hx : VRel m x x') (h : cpy P t H s x = some (v, H')) :
    ∃ v' w', (Builtin.copy_ #[t, u] ty #[s', x']).run P w = .ok v' w' ∧ VRel m v v' ∧ Rel P B0 w0 m H' w' ∧ Ext m H w m H' w' := by
  unfold cpy at h
  split at h
  · rename_i e b off len cap hd
    split at h
    · cases h
    · rename_i hinf
      simp only [Bool.not_eq_false] at hinf
      obtain ⟨i, hi⟩ := isSome_info hinf
      cases hn : lenOf x with
      | none => rw [hn] at h; cases h
      | some n =>
        rw [hn] at h
        simp only [Option.bind_some] at h
        cases hc : sliceCells (szT P e) H x (min n len) with
        | none => rw [hc] at h; cases h
        | some cs =>
          rw [hc] at h
          simp only [Option.bind_some] at h
          have hnl := lenOf_sound (P := P) hx hn w
          obtain ⟨ds, hl, hf1, _, _⟩ := cells_sound R hx hc
          obtain ⟨L, off', cap', hm, rfl, g1, g2, g3, g4, g5, g8, hnm⟩ := hs.slice_inv
          rw [szT_eq hi] at hf1
          split at h
          · rename_i h0
            cases h
            rw [h0] at hc
            have := sliceCells_zero hc
            subst this
            have hds : ds = [] := hl.nil_inv
            subst hds
            refine ⟨_, w, run_cpy hd hi hnl hf1 (fun a _ => by simp [storeCells]) (fun h => by cases h), ?_, R, Ext.refl _ _ _⟩
            rw [h0]
            exact .flat _ rfl
          · rename_i h0
            cases hb : blk H b with
            | none => rw [hb] at h; cases h
            | some k =>
              rw [hb] at h
              simp only [Option.bind_some] at h
              split at h
              · rename_i hcond
                obtain ⟨c1, c2, c4⟩ := hcond
                cases h
                have h1 := oneCells hl c4
                have g3 : off' = L.base + off := by omega
                subst g3
                obtain ⟨w', r1, r2, r3⟩ := store_sound R hm hb c1 (off := off) c2 hl h1
                exact ⟨_, w', run_cpy hd hi hnl hf1 (fun a ha => by cases ha; exact r1) (fun h => by cases h), .flat _ rfl, r2, r3⟩
              · cases h
  · rename_i e hd
    split at h
    · cases h
    · rename_i hinf
      simp only [Bool.not_eq_false] at hinf
      obtain ⟨i, hi⟩ := isSome_info hinf
      cases hn : lenOf x with
      | none => rw [hn] at h; cases h
      | some n =>
        rw [hn] at h
        cases h
        cases hs.flat_inv rfl
        have hnl := lenOf_sound (P := P) hx hn w
        have hf : (Builtin.firstCells i.size (min n 0) x').run P w = .ok (([] : List Value).toArray) w := by
          rw [Nat.min_zero]
          unfold lenOf at hn
          split at hn
          · cases hx.flat_inv rfl; simp [Builtin.firstCells]
          · obtain ⟨ad', c', rfl⟩ := hx.slice_some; simp [Builtin.firstCells, loadCells, loadCellsFrom]
          · cases hx.str_inv; simp [Builtin.firstCells]
          · cases hn
        refine ⟨_, w, run_cpy hd hi hnl hf (fun a ha => by cases ha) (fun _ => rfl), ?_, R, Ext.refl _ _ _⟩
        rw [Nat.min_zero]
        exact .flat _ rfl
  · cases h
theorem lenV_sound {t u ty : TypeId} {x x' v : Value} (hx : VRel m x x') (h : lenV P t x = some v) : (Builtin.len_ #[t] ty #[x']).run P w = .ok v w ∧ flat1 v = true := by
  unfold lenV at h
  split at h
  · rename_i s hd
    cases h
    cases hx.str_inv
    exact ⟨by simp [Builtin.len_, run_underlying hd, goInt], rfl⟩
  · rename_i e a n c hd
    cases h
    cases hx with
    | flat v hf =>
      exact ⟨by simp [Builtin.len_, run_underlying hd, goInt], rfl⟩
    | slice => exact ⟨by simp [Builtin.len_, run_underlying hd, goInt], rfl⟩
  · rename_i n e hd
    cases h
    exact ⟨by simp [Builtin.len_, run_underlying hd, goInt], rfl⟩
  · cases h
theorem capV_sound {t u ty : TypeId} {x x' v : Value} (hx : VRel m x x') (h : capV P t x = some v) : (Builtin.cap_ #[t] ty #[x']).run P w = .ok v w ∧ flat1 v = true := by
  unfold capV at h
  split at h
  · rename_i e hd
    cases h
    have := VRel.flat_inv (x := .slice none 0 0) rfl hx
    subst this
    exact ⟨by simp [Builtin.cap_, run_underlying hd, goInt], rfl⟩
  · cases h
theorem min2_sound {x y x' y' v : Value} (hx : VRel m x x') (hy : VRel m y y') (h : minV x y = some v) : (Builtin.min2 x' y').run P w = .ok v w ∧ flat1 v = true := by
  unfold minV at h
  split at h
  · cases h; cases hx.int_inv; cases hy.int_inv; exact ⟨by simp [Builtin.min2], rfl⟩
  · cases h
theorem max2_sound {x y x' y' v : Value} (hx : VRel m x x') (hy : VRel m y y') (h : maxV x y = some v) : (Builtin.max2 x' y').run P w = .ok v w ∧ flat1 v = true := by
  unfold maxV at h
  split at h
  · cases h; cases hx.int_inv; cases hy.int_inv; exact ⟨by simp [Builtin.max2], rfl⟩
  · cases h
theorem foldgo_sound (f : Value → Value → Option Value) (g : Value → Value → Sem Value) (hfg : ∀ {x y x' y' v : Value}, VRel m x x' → VRel m y y' → f x y = some v → (g x' y').run P w = .ok v w ∧ flat1 v = true) :
    ∀ (xs ys : List Value) (x x' v : Value), VRel m x x' → LRel m xs ys → fold1.go f x xs = some v → ∃ v', (ys.foldlM g x').run P w = .ok v' w ∧ VRel m v v'
  | [], ys, x, x', v, hx, hl, h => by
    cases hl.nil_inv
    cases h
    exact ⟨x', by simp [List.foldlM], hx⟩
  | y :: xs, ys, x, x', v, hx, hl, h => by
    obtain ⟨y', zs, rfl, hy, hr⟩ := hl.cons_inv
    unfold fold1.go at h
    cases hf : f x y with
    | none => rw [hf] at h; cases h
    | some u =>
      rw [hf] at h
      obtain ⟨h1, h2⟩ := hfg hx hy hf
      obtain ⟨v', h3, h4⟩ := foldgo_sound f g hfg xs zs u u v (.flat _ h2) hr h
      exact ⟨v', by simp [List.foldlM_cons, h1, h3], h4⟩
theorem min_sound {ts : Array TypeId} {ty : TypeId} {xs ys : List Value} {v : Value} (hl : LRel m xs ys) (h : fold1 minV xs = some v) : ∃ v', (Builtin.min_ ts ty ys.toArray).run P w = .ok v' w ∧ VRel m v v' := by
  cases xs with
  | nil => cases h
  | cons x xs =>
    obtain ⟨x', zs, rfl, hx, hr⟩ := hl.cons_inv
    obtain ⟨v', h1, h2⟩ := foldgo_sound (P := P) (w := w) minV Builtin.min2 (fun hx hy h => min2_sound hx hy h) xs zs x x' v hx hr h
    exact ⟨v', by simpa [Builtin.min_] using h1, h2⟩
theorem max_sound {ts : Array TypeId} {ty : TypeId} {xs ys : List Value} {v : Value} (hl : LRel m xs ys) (h : fold1 maxV xs = some v) : ∃ v', (Builtin.max_ ts ty ys.toArray).run P w = .ok v' w ∧ VRel m v v' := by
  cases xs with
  | nil => cases h
  | cons x xs =>
    obtain ⟨x', zs, rfl, hx, hr⟩ := hl.cons_inv
    obtain ⟨v', h1, h2⟩ := foldgo_sound (P := P) (w := w) maxV Builtin.max2 (fun hx hy h => max2_sound hx hy h) xs zs x x' v hx hr h
    exact ⟨v', by simpa [Builtin.max_] using h1, h2⟩
theorem ext_sound {a a' v : Value} {i : Nat} (ha : VRel m a a') (h : ext a i = some v) : ∃ v', (Instr.extract a' i).run P w = .ok v' w ∧ VRel m v v' := by
  unfold ext at h
  split at h
  · rename_i vs
    obtain ⟨ys, rfl, hl⟩ := ha.tuple_inv
    have hlt := (Array.getElem?_eq_some_iff.1 h).1
    have hlt2 : i < ys.size := by have := hl.1; simp at this; omega
    have e1 : ys[i]? = some ys[i] := Array.getElem?_eq_getElem hlt2
    exact ⟨ys[i], by simp [Instr.extract, e1], hl.2 i _ _ (by simpa using h) (by simpa using e1)⟩
  · cases h
end
end Go.AM
set_option linter.unusedVariables false
set_option linter.unusedSimpArgs false
namespace Go.AM
open Go.RowKit
variable {P : Program} {B0 : Nat} {w0 : World} {m : Mp} {H : AH} {w : World}
theorem freeze_ne {w : World} {a : Addr} {n : Nat} {B : Nat} (h : a.block ≠ B) : (w.freeze a n).heap[B]? = w.heap[B]? := by
  unfold World.freeze
  split
  · rfl
  · simp only [Array.getElem?_modify]
    rw [if_neg (by omega)]
theorem freeze_size {w : World} {a : Addr} {n : Nat} : (w.freeze a n).heap.size = w.heap.size := by
  unfold World.freeze
  split
  · rfl
  · simp
theorem Rel.frozen (h : Rel P B0 w0 m H w) {b : Nat} {L : Loc} {k : Blk} (hm : m b = some L) (hb : blk H b = some k) (hk : k.kind ≠ .ro) (o n : Nat) :
    Rel P B0 w0 m (kill H b) (w.freeze ⟨L.blk, o, none⟩ n) ∧ Ext m H w m (kill H b) (w.freeze ⟨L.blk, o, none⟩ n) := by
  have up : ∀ b3 k3, blk (kill H b) b3 = some k3 → b ≠ b3 ∧ blk H b3 = some k3 := by
    intro b3 k3 h3
    by_cases hbb : b = b3
    · subst hbb; rw [blk_kill_same] at h3; cases h3
    · exact ⟨hbb, by rwa [blk_kill_ne hbb] at h3⟩
  have hown := (h.blks b L k hm hb).own hk
  refine ⟨⟨Lib.below_freeze h.below hown n, by rw [freeze_size]; exact h.hB, fun b2 L2 h2 => by rw [length_kill', freeze_size]; exact h.dom b2 L2 h2, fun b2 L2 k2 h2 hk2 => ?_, fun b1 b2 L1 L2 k1 k2 hm1 hm2 hk1 hk2 => h.inj b1 b2 L1 L2 k1 k2 hm1 hm2 (up _ _ hk1).2 (up _ _ hk2).2⟩,
    ⟨fun _ _ h => h, Nat.le_of_eq (length_kill' ..).symm, Nat.le_of_eq freeze_size.symm, fun b2 k2 _ hk2 => ⟨k2, (up _ _ hk2).2, rfl⟩, fun _ _ h => .inl h, fun B _ hr => freeze_ne (hr b L k hm hb hk)⟩⟩
  obtain ⟨hne, hk2'⟩ := up _ _ hk2
  have hB := h.blks b2 L2 k2 h2 hk2'
  have hd : L.blk ≠ L2.blk := h.inj b b2 L L2 k k2 hm h2 hb hk2' hk hne
  exact hB.at (fun _ _ h => h) (freeze_ne hd)
theorem Rel.frozenB (h : Rel P B0 w0 m H w) {b : Nat} {L : Loc} {k : Blk} (hm : m b = some L) (hb : blk H b = some k) (hk : k.kind = .buf) (o n : Nat) (hn : o + n ≤ k.cells.length) :
    Rel P B0 w0 m H (w.freeze ⟨L.blk, L.base + o, none⟩ n) ∧ Ext m H w m H (w.freeze ⟨L.blk, L.base + o, none⟩ n) := by
  have hB := h.blks b L k hm hb
  have hro : k.kind ≠ .ro := by rw [hk]; decide
  have hown := hB.own hro
  refine ⟨⟨Lib.below_freeze h.below hown n, by rw [freeze_size]; exact h.hB, fun b2 L2 h2 => by rw [freeze_size]; exact h.dom b2 L2 h2, fun b2 L2 k2 h2 hk2 => ?_, h.inj⟩,
    ⟨fun _ _ h => h, Nat.le_refl _, Nat.le_of_eq freeze_size.symm, fun b2 k2 _ hk2 => ⟨k2, hk2, rfl⟩, fun _ _ h => .inl h, fun B _ hr => freeze_ne (hr b L k hm hb hro)⟩⟩
  by_cases hbb : b = b2
  · subst hbb
    rw [hm] at h2
    cases h2
    rw [hb] at hk2
    cases hk2
    obtain ⟨c, e, fr, hw, r1, r2, r3, r4, r5⟩ := hB.there (by rw [hk]; rfl)
    obtain ⟨z1, z2⟩ := r5 hk
    refine ⟨hB.kind, fun _ => ?_, fun hx => (by rw [hk] at hx; cases hx), fun f key hx => (by rw [hk] at hx; cases hx), hB.own, hB.esz⟩
    by_cases h0 : n = 0
    · subst h0
      exact ⟨c, e, fr, by unfold World.freeze; rw [if_pos rfl]; exact hw, r1, r2, r3, r4, r5⟩
    · have hlt : L.blk < w.heap.size := (h.dom b L hm).2
      refine ⟨c, e, _, by
        unfold World.freeze
        rw [if_neg h0]
        simp only [Array.getElem?_modify, if_pos, hw, Option.map_some]
        rfl, r1, fun hx => ⟨fun hy => (hy hk).elim, (r2 hx).2⟩, r3, r4, fun _ => ⟨?_, fun hnil => ?_⟩⟩
      · obtain ⟨lo, hi⟩ := fr
        simp only at z1 ⊢
        split
        · show L.base + o + n ≤ _; omega
        · show max hi (L.base + o + n) ≤ _; omega
      · rw [hnil] at hn; simp at hn; omega
  · have hd : L.blk ≠ L2.blk := h.inj b b2 L L2 k k2 hm h2 hb hk2 hro hbb
    exact (h.blks b2 L2 k2 h2 hk2).at (fun _ _ h => h) (freeze_ne hd)
theorem sdV_sound {ts : Array TypeId} {ty : TypeId} {x x' v : Value} (hx : VRel m x x') (h : sdV x = some v) : ∃ v', (Builtin.unsafeSliceData_ ts ty #[x']).run P w = .ok v' w ∧ VRel m v v' := by
  unfold sdV at h
  split at h
  · cases h
    have e := VRel.flat_inv rfl hx
    subst e
    exact ⟨_, rfl, .flat _ rfl⟩
  · rename_i b off n c
    split at h
    · cases h
    · rename_i hn
      cases h
      cases hx with
      | flat v hf => simp [flat1] at hf
      | slice b off off' len cap cap' L hm hnm hl hl' ho h1 h2 h3 =>
        have ho' : off' = L.base + off := ho.resolve_right hn
        subst ho'
        exact ⟨_, Lib.run_unsafeSliceData_row w ts ty ⟨L.blk, L.base + off, none⟩ n cap' (by omega), .ptr b off L hm hnm⟩
  · cases h
theorem run_loadBytes' : ∀ (ns : List Int) (a : Addr) (acc : ByteArray), a.spot = none → (∀ j u, (ns.map fun n => Value.int .u8 n)[j]? = some u → w.cell? (a.add j) = some u) →
    (loadBytes a acc ns.length).run P w = .ok ⟨acc.data ++ (ns.map fun n => UInt8.ofNat n.toNat).toArray⟩ w
  | [], a, acc, _, _ => by simp [loadBytes]
  | x :: l, a, acc, hs, h => by
    have h0 : w.cell? a = some (.int .u8 x) := by
      have := h 0 _ rfl
      simpa [Addr.add] using this
    have ih := run_loadBytes' l (a.add 1) (acc.push (UInt8.ofNat x.toNat)) (by simp [Addr.add, hs]) (fun j y hy => by
      have := h (j + 1) y (by simpa using hy)
      have e : (a.add 1).add j = a.add (j + 1) := by
        unfold Addr.add
        by_cases hj : j = 0
        · subst hj; simp
        · simp [hj]; omega
      rw [e]; exact this)
    simp only [List.length_cons, loadBytes, Sem.run_bind, run_load, h0, Result.andThen]
    have hx : x.toNat.toUInt8 = UInt8.ofNat x.toNat := rfl
    rw [hx, ih]
    congr 1
    apply ByteArray.ext
    simp [ByteArray.push]
theorem liesAt_off {e : TypeId} (hc : P.cellsOf e = 1) (count off n : Nat) (hn : off + n ≤ count) : liesAt P P.depth e count off e n = true := by
  have hd : P.depth = (2 * (P.types.size + Made.depth) + 1) + 1 := rfl
  rw [hd]
  simp only [liesAt, Bool.or_eq_true]
  left
  rw [hd]
  simp [rowAt, hc, hn, sameLayout, Nat.mod_one]
theorem usV_sound (R : Rel P B0 w0 m H w) {pt it ty : TypeId} {p p' n n' : Value} {q : Value × AH} (hp : VRel m p p') (hn : VRel m n n') (h : usV P pt H p n = some q) :
    ∃ v' w', (Builtin.unsafeString_ #[pt, it] ty #[p', n']).run P w = .ok v' w' ∧ VRel m q.1 v' ∧ Rel P B0 w0 m q.2 w' ∧ Ext m H w m q.2 w' := by
  unfold usV at h
  split at h
  · cases h
    have e1 := VRel.flat_inv rfl hp
    have e2 := VRel.flat_inv rfl hn
    subst e1 e2
    exact ⟨_, w, Lib.run_unsafeString_none w pt it ty none, .flat _ rfl, R, Ext.refl m H w⟩
  · rename_i b off n
    have e2 := VRel.flat_inv rfl hn
    subst e2
    split at h
    · rename_i e hu
      cases hb : blk H b with
      | none => rw [hb] at h; cases h
      | some k =>
        rw [hb] at h
        simp only [Option.bind_some] at h
        split at h
        · rename_i hc
          obtain ⟨c1, c1', c2, c3, c4⟩ := hc
          cases hr : rdN k off n.toNat with
          | none => rw [hr] at h; cases h
          | some cs =>
            rw [hr] at h
            simp only [Option.bind_some] at h
            cases hby : bytesOf cs with
            | none => rw [hby] at h; cases h
            | some l =>
              rw [hby] at h
              cases h
              obtain ⟨ns, rfl, rfl⟩ := bytesOf_inv cs l hby
              obtain ⟨L, hm, rfl, hnm⟩ := hp.ptr_inv
              have hB := R.blks b L k hm hb
              obtain ⟨ds, hds, hcell⟩ := hB.row hnm hr
              have hd := hds.flat_eq
              subst hd
              obtain ⟨c, e', fr, hw, hl, h3, _⟩ := hB.there (by rw [← hB.kind]; exact hnm)
              have cro : k.kind ≠ .ro := by
                intro hx
                rw [hx] at c2
                cases c2
              obtain ⟨_, he, _⟩ := h3 cro
              have hlen : ns.length = n.toNat := by
                unfold rdN at hr
                split at hr
                · rename_i hle
                  have := congrArg (fun o => (o.map List.length).getD 0) hr
                  simp at this
                  omega
                · cases hr
              obtain ⟨N, rfl⟩ : ∃ N : Nat, n = (N : Int) := ⟨n.toNat, by omega⟩
              rw [Int.toNat_natCast] at hlen hr
              have hroom : L.base + off + N ≤ c.size := by
                have h1 := hl.1
                unfold rdN at hr
                split at hr
                · rename_i hle
                  simp at h1
                  omega
                · cases hr
              have hfz : Rel P B0 w0 m (if k.kind = .buf then H else kill H b) (w.freeze ⟨L.blk, L.base + off, none⟩ N) ∧ Ext m H w m (if k.kind = .buf then H else kill H b) (w.freeze ⟨L.blk, L.base + off, none⟩ N) := by
                by_cases hkb : k.kind = .buf
                · rw [if_pos hkb]
                  exact R.frozenB hm hb hkb off N (by
                    unfold rdN at hr
                    split at hr
                    · rename_i hle; exact hle
                    · cases hr)
                · rw [if_neg hkb]
                  exact R.frozen hm hb cro _ _
              refine ⟨.string ⟨(ns.map fun n => UInt8.ofNat n.toNat).toArray⟩, w.freeze ⟨L.blk, L.base + off, none⟩ N, ?_, .flat _ rfl, hfz.1, hfz.2⟩
              have hlb := run_loadBytes' (P := P) (w := w) ns ⟨L.blk, L.base + off, none⟩ .empty rfl hcell
              rw [hlen] at hlb
              have hee : e' = e := by rw [he, c3]
              subst hee
              have hsh : w.shape? L.blk = some (e', c.size) := by simp [World.shape?, hw]
              have hlies := liesAt_off (P := P) c4 (c.size / P.cellsOf e') (L.base + off) N (by rw [show P.cellsOf e' = 1 from c4]; simpa using hroom)
              have hdef : Builtin.unsafeString_ #[pt, it] ty #[.pointer (some ⟨L.blk, L.base + off, none⟩), .int .i64 (N : Int)] =
                  (do
                    let n ← asInt (.int .i64 (N : Int))
                    if n < 0 then runtimePanic (.error "unsafe.String: len out of range")
                    if n > IntKind.i64.max then unsupported (.unsafePointer "String: a length above the largest int")
                    if n = 0 then pure (.string .empty)
                    else if ← variablesAt ⟨L.blk, L.base + off, none⟩ (← elemOf pt) n.toNat then do
                      let s ← loadBytes ⟨L.blk, L.base + off, none⟩ .empty n.toNat
                      freeze ⟨L.blk, L.base + off, none⟩ n.toNat
                      pure (.string s)
                    else unsupported (.unsafePointer "String: not so many bytes at ptr")) := rfl
              rw [hdef]
              have hmax : IntKind.i64.max = 9223372036854775807 := rfl
              have hneg : ¬ (N : Int) < 0 := by omega
              have hN0 : N ≠ 0 := by omega
              have h63 : ¬ (9223372036854775807 : Int) < (N : Int) := by omega
              simp [asInt, asIntOf, hmax, h63, hneg, hN0, variablesAt, hsh, elemOf, run_underlying hu, hlies, hlb]
        · cases h
    · cases h
  · cases h
end Go.AM
set_option linter.unusedVariables false
set_option linter.unusedSimpArgs false
namespace Go.AM
open Go.RowKit
variable {P : Program} {B0 : Nat} {w0 : World} {m : Mp} {H : AH} {w : World}

abbrev ents (l : List MapEntry) : List Value := l.flatMap fun e => [e.key, e.val]
theorem ents_len (l : List MapEntry) : (ents l).length = 2 * l.length := by
  induction l with
  | nil => rfl
  | cons e l ih => simp only [List.flatMap_cons, List.length_append, List.length_cons, List.length_nil, ih]; omega
theorem ents_set : ∀ (l : List MapEntry) (q : Nat) (e : MapEntry) (v : Value), l[q]? = some e → ents (l.modify q fun e => { e with key := e.key, val := v }) = (ents l).set (2 * q + 1) v
  | [], q, e, v, h => by simp at h
  | e0 :: l, 0, e, v, h => by simp [List.modify]
  | e0 :: l, q + 1, e, v, h => by
    have ih := ents_set l q e v (by simpa using h)
    rw [show 2 * (q + 1) + 1 = (2 * q + 1) + 2 by omega]
    simp only [List.modify_succ_cons, List.flatMap_cons, List.cons_append, List.nil_append, List.set_cons_succ, ih]
theorem ents_val : ∀ (l : List MapEntry) (q : Nat) (e : MapEntry), l[q]? = some e → (ents l)[2 * q + 1]? = some e.val
  | [], q, e, h => by simp at h
  | e0 :: l, 0, e, h => by simp at h; subst h; rfl
  | e0 :: l, q + 1, e, h => by
    rw [show 2 * (q + 1) + 1 = (2 * q + 1) + 2 by omega]
    simpa using ents_val l q e (by simpa using h)
theorem mkM_sound (R : Rel P B0 w0 m H w) {t : TypeId} {u : Value} {H' : AH} (h : mkM t H = some (u, H')) :
    ∃ u' m' w', (Instr.makeMap t none).run P w = .ok u' w' ∧ VRel m' u u' ∧ Rel P B0 w0 m' H' w' ∧ Ext m H w m' H' w' := by
  cases h
  obtain ⟨r1, r2⟩ := R.makeO [] t .map (.map #[] 0) ⟨w.heap.size, 0, .map, 0, 0⟩ rfl (fun m' hm => ⟨rfl, fun hx => (by cases hx), fun _ => ⟨#[], 0, heap_alloc_new w _, LRel.nil _⟩, fun f key hx => (by cases hx), fun _ => R.hB, fun hx => (by cases hx)⟩)
  refine ⟨_, _, _, ?_, .map _ _ (upd_same _ _ _) rfl, r1, r2⟩
  simp [Instr.makeMap]
theorem bab (a b : ByteArray) : (a == b) = decide (a = b) := by
  have e : (a == b) = (a.data == b.data) := by
    cases a; cases b; rfl
  rw [e, Bool.eq_iff_iff]
  simp
  constructor
  · intro h; cases a; cases b; simp at h; subst h; rfl
  · rintro rfl; rfl
theorem getMap {r : Nat} {es : Array MapEntry} {clock : Nat} (h : w.heap[r]? = some (.map es clock)) : (getObj r).run P w = .ok (.map es clock) w := by simp [getObj, Sem.run, h]
theorem setMap {r : Nat} {es : Array MapEntry} {clock : Nat} (o : Obj) (h : w.heap[r]? = some (.map es clock)) : (setObj r o).run P w = .ok () (w.putObj r o) := by simp [setObj, Sem.run, h, World.putObj]
theorem keyEq_inv {D : TypeDesc} {key k e : Value} {b : Bool} (hk : VRel m k e) (h : keyEq D key k = some b) : Instr.sameNow D key e = some b ∧ (b = true → e = key) ∧ k = e := by
  unfold keyEq at h
  split at h
  · split at h
    · rename_i hkk
      subst hkk
      cases h
      have := hk.int_inv
      subst this
      refine ⟨by simp [Instr.sameNow]; rfl, fun hb => ?_, rfl⟩
      simp at hb
      rw [hb]
    · cases h
  · cases h
    have := hk.str_inv
    subst this
    refine ⟨by simp only [Instr.sameNow, bab], fun hb => ?_, rfl⟩
    simp at hb
    rw [hb]
  · cases h
theorem keyAt_sound {D : TypeDesc} {key : Value} : ∀ (es : List MapEntry) (cs : List Value) (i : Nat) (o : Option Nat), LRel m cs (ents es) → keyAt D key cs = some o →
    match o with
    | none => Instr.findNow D key es i = some none
    | some j => ∃ (q : Nat) (e : MapEntry), j = 2 * q ∧ es[q]? = some e ∧ e.key = key ∧ Instr.findNow D key es i = some (some (i + q, e.val))
  | [], cs, i, o, hl, h => by
    have : cs = [] := List.eq_nil_of_length_eq_zero (by simpa using hl.1)
    subst this
    cases h
    rfl
  | e :: es, cs, i, o, hl, h => by
    have hl0 := hl.1
    match cs, hl, h with
    | [], hl, h => simp at hl0
    | [x], hl, h => have := ents_len es; simp only [ents, List.flatMap_cons, List.length_append, List.length_cons, List.length_nil] at hl0 this; omega
    | k :: v :: r, hl, h =>
      simp only [ents, List.flatMap_cons, List.cons_append, List.nil_append] at hl
      obtain ⟨k', zs, he, hk, hr⟩ := hl.cons_inv
      cases he
      obtain ⟨v', zs, he, hv, hr⟩ := hr.cons_inv
      cases he
      simp only [keyAt] at h
      cases hq : keyEq D key k with
      | none => rw [hq] at h; cases h
      | some b =>
        rw [hq] at h
        obtain ⟨h1, h2, h3⟩ := keyEq_inv hk hq
        cases b with
        | true =>
          cases h
          exact ⟨0, e, rfl, rfl, h2 rfl, by simp [Instr.findNow, h1]⟩
        | false =>
          simp only [Option.bind_some, cond_false] at h
          cases hq2 : keyAt D key r with
          | none => rw [hq2] at h; cases h
          | some o' =>
            rw [hq2] at h
            cases h
            have ih := keyAt_sound es r (i + 1) o' hr hq2
            cases o' with
            | none =>
              simp only [Option.map_none]
              simp only [Instr.findNow, h1]
              exact ih
            | some j =>
              obtain ⟨q, e', rfl, a2, a3, a4⟩ := ih
              refine ⟨q + 1, e', by simp only [Option.map_some]; omega, by simpa using a2, a3, ?_⟩
              simp only [Instr.findNow, h1]
              rw [a4]
              congr 3
              omega
theorem run_checkKey {D : TypeDesc} {kt : TypeId} {key : Value} (emp : Bool) (hd : P.underlying kt = some D) (hk : keyOK D key = true) : (Instr.checkKey emp 10000 kt key).run P w = .ok () w := by
  have e : Instr.checkKey emp 10000 kt key = Instr.checkKey emp (9999 + 1) kt key := rfl
  rw [e]
  unfold Instr.checkKey
  simp only [Sem.run_bind, run_underlying hd, Result.andThen_ok]
  unfold keyOK at hk
  split at hk
  · rfl
  · rfl
  · cases hk
theorem run_findKey {D : TypeDesc} {kt : TypeId} {key : Value} {es : List MapEntry} {r : Option (Nat × Value)} (hd : P.underlying kt = some D) (h : Instr.findNow D key es 0 = some r) : (Instr.findKey kt key es).run P w = .ok r w := by
  unfold Instr.findKey
  simp only [Sem.run_bind, run_underlying hd, Result.andThen_ok, h, Sem.run_pure]
theorem keyOK_flat {D : TypeDesc} {key : Value} (h : keyOK D key = true) : flat1 key = true ∧ Instr.sameBits 10000 key key = true := by
  unfold keyOK at h
  split at h
  · exact ⟨rfl, by simp [Instr.sameBits]⟩
  · exact ⟨rfl, by simp [Instr.sameBits, bab]⟩
  · cases h
theorem mapB_inv {b : Nat} {k : Blk} (h : mapB H b = some k) : blk H b = some k ∧ k.kind = .map := by
  unfold mapB at h
  cases hb : blk H b with
  | none => rw [hb] at h; cases h
  | some k' =>
    rw [hb] at h
    simp only [Option.bind_some] at h
    split at h
    · rename_i hk; cases h; exact ⟨rfl, hk⟩
    · cases h
theorem mpU_sound (R : Rel P B0 w0 m H w) {t : TypeId} {x x' key key' v v' : Value} {H' : AH} (hx : VRel m x x') (hk : VRel m key key') (hv : VRel m v v') (h : mpU P t H x key v = some H') :
    ∃ w', (Instr.mapUpdate t x' key' v').run P w = .ok () w' ∧ Rel P B0 w0 m H' w' ∧ Ext m H w m H' w' := by
  unfold mpU at h
  split at h
  · rename_i kt et b hd
    cases hdk : P.underlying kt with
    | none => rw [hdk] at h; cases h
    | some D =>
      rw [hdk] at h
      simp only [Option.bind_some] at h
      cases hb : mapB H b with
      | none => rw [hb] at h; cases h
      | some k =>
        rw [hb] at h
        simp only [Option.bind_some] at h
        obtain ⟨hb1, hb2⟩ := mapB_inv hb
        split at h
        · rename_i hc
          obtain ⟨hc1, hc2⟩ := hc
          obtain ⟨L, hm, rfl, hLk⟩ := hx.map_inv
          have hB := R.blks b L k hm hb1
          obtain ⟨es, clock, hw, hl⟩ := hB.mp hb2
          obtain ⟨hf, hsb⟩ := keyOK_flat hc1
          have hkk := hk.flat_inv hf
          subst hkk
          have hro : k.kind ≠ .ro := by rw [hb2]; decide
          have hlt : L.blk < w.heap.size := (R.dom b L hm).2
          cases hq : keyAt D key' k.cells with
          | none => rw [hq] at h; cases h
          | some o =>
            rw [hq] at h
            cases h
            have hs := keyAt_sound es.toList k.cells 0 o hl hq
            have go : ∀ (cs : List Value) (es' : Array MapEntry) (clock' : Nat), LRel m cs (ents es'.toList) →
                Rel P B0 w0 m (put H b k cs) (w.putObj L.blk (.map es' clock')) ∧ Ext m H w m (put H b k cs) (w.putObj L.blk (.map es' clock')) := by
              intro cs es' clock' hl'
              exact R.turn hm hb1 hro cs _ ⟨hB.kind, fun hx => (by rw [hb2] at hx; cases hx), fun _ => ⟨es', clock', World.putObj_heap_same hlt, hl'⟩, fun f key hx => (by rw [hb2] at hx; cases hx), hB.own, fun hx => (by rw [hb2] at hx; cases hx)⟩
            cases o with
            | none =>
              simp only at hs ⊢
              refine ⟨w.putObj L.blk (.map (es.push { key := key', val := v', born := clock }) (clock + 1)), ?_, go _ _ _ ?_⟩
              · simp only [Instr.mapUpdate, Sem.run_bind, run_underlying hd, Result.andThen_ok, getMap hw, run_checkKey false hdk hc1, run_findKey hdk hs]
                rw [setMap _ hw]
              · simp only [Array.toList_push, ents, List.flatMap_append, List.flatMap_cons, List.flatMap_nil, List.append_nil]
                exact hl.append (LRel.cons hk (LRel.cons hv (LRel.nil m)))
            | some j =>
              obtain ⟨q, e, rfl, a2, a3, a4⟩ := hs
              rw [Nat.zero_add] at a4
              have a5 : es[q]? = some e := by rw [← Array.getElem?_toList]; exact a2
              refine ⟨w.putObj L.blk (.map (es.modify q fun e => { e with key := key', val := v' }) clock), ?_, go _ _ _ ?_⟩
              · simp only [Instr.mapUpdate, Sem.run_bind, run_underlying hd, Result.andThen_ok, getMap hw, run_checkKey false hdk hc1, run_findKey hdk a4]
                have hst : (Instr.keyThatStays (((es[q]?).map (·.key)).getD key') key').run P w = .ok key' w := by
                  rw [a5]
                  simp only [Option.map_some, Option.getD_some, a3, Instr.keyThatStays, hsb, if_true, Sem.run_pure]
                rw [hst]
                simp only [Result.andThen_ok]
                rw [setMap _ hw]
              · have e1 : (es.modify q fun e => { e with key := key', val := v' }).toList = es.toList.modify q fun e => { e with key := e.key, val := v' } := by
                  rw [Array.toList_modify]
                  apply List.ext_getElem?
                  intro i
                  rw [List.getElem?_modify, List.getElem?_modify]
                  by_cases hi : q = i
                  · subst hi
                    rw [a2]
                    simp [a3]
                  · simp [hi]
                rw [e1, ents_set _ _ _ _ a2]
                exact hl.set _ hv
        · cases h
  · cases h
theorem mapCells_sound (R : Rel P B0 w0 m H w) {x x' : Value} {cs : List Value} (hx : VRel m x x') (h : mapCells H x = some cs) :
    (x' = .map none ∧ cs = []) ∨ ∃ r es clock, x' = .map (some r) ∧ w.heap[r]? = some (.map es clock) ∧ LRel m cs (ents es.toList) := by
  unfold mapCells at h
  split at h
  · cases h; cases hx.flat_inv rfl; exact .inl ⟨rfl, rfl⟩
  · rename_i b
    cases hb : mapB H b with
    | none => rw [hb] at h; cases h
    | some k =>
      rw [hb] at h
      cases h
      obtain ⟨hb1, hb2⟩ := mapB_inv hb
      obtain ⟨L, hm, rfl, hLk⟩ := hx.map_inv
      obtain ⟨es, clock, hw, hl⟩ := (R.blks b L k hm hb1).mp hb2
      exact .inr ⟨_, es, clock, rfl, hw, hl⟩
  · cases h
theorem lkU_sound (R : Rel P B0 w0 m H w) {t : TypeId} {x x' key key' v : Value} {two : Bool} (hx : VRel m x x') (hk : VRel m key key') (h : lkU P t H x key two = some v) :
    ∃ v', (Instr.lookup t x' key' two).run P w = .ok v' w ∧ VRel m v v' := by
  unfold lkU at h
  split at h
  · rename_i kt et hd
    cases hdk : P.underlying kt with
    | none => rw [hdk] at h; cases h
    | some D =>
      rw [hdk] at h
      simp only [Option.bind_some] at h
      cases hcs : mapCells H x with
      | none => rw [hcs] at h; cases h
      | some cs =>
        rw [hcs] at h
        simp only [Option.bind_some] at h
        split at h
        · rename_i hc1
          obtain ⟨hf, hsb⟩ := keyOK_flat hc1
          have hkk := hk.flat_inv hf
          subst hkk
          obtain ⟨es, hes, hl⟩ : ∃ es : Array MapEntry, ((x' = .map none ∧ es = #[]) ∨ ∃ r clock, x' = .map (some r) ∧ w.heap[r]? = some (.map es clock)) ∧ LRel m cs (ents es.toList) := by
            rcases mapCells_sound R hx hcs with ⟨rfl, rfl⟩ | ⟨r, es, clock, rfl, hw, hl⟩
            · exact ⟨#[], .inl ⟨rfl, rfl⟩, LRel.nil m⟩
            · exact ⟨es, .inr ⟨r, clock, rfl, hw⟩, hl⟩
          cases hq : keyAt D key' cs with
          | none => rw [hq] at h; cases h
          | some o =>
            rw [hq] at h
            simp only [Option.bind_some] at h
            have hs := keyAt_sound es.toList cs 0 o hl hq
            have fin : ∀ (u u' : Value) (b : Bool), VRel m u u' → VRel m (if two = true then .tuple #[u, .bool b] else u) (if two = true then .tuple #[u', .bool b] else u') := by
              intro u u' b hu
              split
              · have hl2 := LRel.cons hu (LRel.cons (.flat (.bool b) rfl) (LRel.nil m))
                exact .tuple _ _ (by simp) fun i x y hx hy => hl2.2 i x y (by simpa using hx) (by simpa using hy)
              · exact hu
            cases o with
            | none =>
              simp only at hs
              cases hz : zeroT P et with
              | none => rw [hz] at h; cases h
              | some z =>
                rw [hz] at h
                cases h
                obtain ⟨i, hi, hz1, hz2⟩ := zeroT_inv hz
                refine ⟨_, ?_, fin _ _ _ (VRel.of_flat hz2)⟩
                rcases hes with ⟨rfl, rfl⟩ | ⟨r, clock, rfl, hw⟩
                · simp only [Instr.lookup, Sem.run_bind, run_underlying hd, Result.andThen_ok, Sem.run_pure, run_checkKey _ hdk hc1, run_findKey hdk hs, run_zeroValue hi hz1]
                · simp only [Instr.lookup, Sem.run_bind, run_underlying hd, Result.andThen_ok, getMap hw, Sem.run_pure, run_checkKey _ hdk hc1, run_findKey hdk hs, run_zeroValue hi hz1]
            | some j =>
              obtain ⟨q, e, rfl, a2, a3, a4⟩ := hs
              simp only at h
              cases hv : cs[2 * q + 1]? with
              | none => rw [hv] at h; cases h
              | some u =>
                rw [hv] at h
                cases h
                have hev := ents_val es.toList q e a2
                refine ⟨_, ?_, fin _ _ _ (hl.2 _ _ _ hv hev)⟩
                rcases hes with ⟨rfl, rfl⟩ | ⟨r, clock, rfl, hw⟩
                · simp at a2
                · simp only [Instr.lookup, Sem.run_bind, run_underlying hd, Result.andThen_ok, getMap hw, Sem.run_pure, run_checkKey _ hdk hc1, run_findKey hdk a4]
        · cases h
  · cases h
theorem lenM_sound (R : Rel P B0 w0 m H w) {t ty : TypeId} {x x' v : Value} (hx : VRel m x x') (h : lenM P t H x = some v) : (Builtin.len_ #[t] ty #[x']).run P w = .ok v w ∧ flat1 v = true := by
  unfold lenM at h
  split at h
  · rename_i kt et hd
    cases hcs : mapCells H x with
    | none => rw [hcs] at h; cases h
    | some cs =>
      rw [hcs] at h
      cases h
      refine ⟨?_, rfl⟩
      rcases mapCells_sound R hx hcs with ⟨rfl, rfl⟩ | ⟨r, es, clock, rfl, hw, hl⟩
      · simp [Builtin.len_, run_underlying hd, goInt]
      · have e : cs.length / 2 = es.size := by rw [hl.1, ents_len]; simp
        simp [Builtin.len_, run_underlying hd, getMap hw, goInt, e]
  · cases h
end Go.AM
set_option linter.unusedVariables false
set_option linter.unusedSimpArgs false
namespace Go.AM
open Go.RowKit

def Enterable (P : Program) (f : FuncId) : Prop := ∃ fn, P.funcs[f]? = some fn ∧ fn.name ≠ "runtime.NumGoroutine" ∧ fn.body.isSome = true
/-- What a call comes to. -/
def SimCall (P : Program) (f : FuncId) (args : List Value) (H : AH) (v : Value) (H' : AH) : Prop :=
  ∀ (B0 : Nat) (w0 : World) (m : Mp) (w : World) (args' : List Value), Rel P B0 w0 m H w → LRel m args args' →
    Calls P f args'.toArray w fun e w' => ∃ m' v', e = .returned v' ∧ VRel m' v v' ∧ Rel P B0 w0 m' H' w' ∧ Ext m H w m' H' w'
/-- What a round of a range over a function comes to. -/
def SimYield (P : Program) (b : Nat) (args : List Value) (H : AH) (v : Value) (H' : AH) : Prop :=
  ∀ (n B0 : Nat) (w0 : World) (m : Mp) (w : World) (args' : List Value) (L : Loc), Rel P B0 w0 m H w → LRel m args args' → m b = some L → (∃ f key, L.kind = .loop f key) →
    YieldAt Fence.wide n P L.blk args'.toArray w fun e w' => ∃ m' v', e = .returned v' ∧ VRel m' v v' ∧ Rel P B0 w0 m' H' w' ∧ Ext m H w m' H' w'
def CallOK (P : Program) (call : CallF) : Prop := (∀ f args H v H', f < yOff → call f args H = some (v, H') → Enterable P f ∧ SimCall P f args H v H') ∧ ∀ b args H v H', call (yOff + b) args H = some (v, H') → SimYield P b args H v H'
def OpSim (P : Program) (B0 : Nat) (w0 : World) (o : Oper) (a : Act) (m : Mp) (H : AH) (w : World) (v : Value) (H' : AH) : Prop :=
  ∀ (next : Act → World → Prop) (Q : Exit → Act → World → Prop), (∀ m' v' w', Ext m H w m' H' w' → Rel P B0 w0 m' H' w' → VRel m' v v' → next (a.put o.dst v') w') → o.wp P a w next Q

section
variable {P : Program} {B0 : Nat} {w0 : World} {m : Mp} {H : AH} {w : World} {call : CallF} {R : Type}

theorem blt_inv {α : Type} {a b : Nat} {x : Option α} {r : α} (h : (bif Nat.blt a b then x else none) = some r) : a < b ∧ x = some r := by
  cases hb : Nat.blt a b with
  | false => rw [hb] at h; cases h
  | true =>
    rw [hb] at h
    exact ⟨by simpa using Nat.blt_eq ▸ hb, h⟩
theorem gk_gr (P : Program) (e : TypeId) : (gk P e).gr = true := by
  unfold gk
  split <;> rfl
theorem run_callFunc {f : FuncId} (h : Enterable P f) (args : Array Value) (w : World) : (callFunc f args).run P w = .ok (.enter f args) w := by
  obtain ⟨fn, h1, h2, h3⟩ := h
  obtain ⟨c, hc⟩ := Option.isSome_iff_exists.1 h3
  simp [callFunc, program, Sem.run, h1, h2, hc]
theorem OpSim.value {o : Oper} {a : Act} {v v' : Value} {H' : AH} {m' : Mp} {w' : World} (hr : (execOp a.eval o).run P w = .ok (.value v') w') (hv : VRel m' v v') (R' : Rel P B0 w0 m' H' w') (E : Ext m H w m' H' w') : OpSim P B0 w0 o a m H w v H' :=
  fun next Q h => by unfold Oper.wp; rw [hr]; exact h m' v' w' E R' hv
theorem OpSim.still {o : Oper} {a : Act} {v v' : Value} (R' : Rel P B0 w0 m H w) (hr : (execOp a.eval o).run P w = .ok (.value v') w) (hv : VRel m v v') : OpSim P B0 w0 o a m H w v H :=
  OpSim.value hr hv R' (Ext.refl _ _ _)
theorem OpSim.skip {o : Oper} {a : Act} {H' : AH} {w' : World} (hr : (execOp a.eval o).run P w = .ok .skip w') (R' : Rel P B0 w0 m H' w') (E : Ext m H w m H' w') : OpSim P B0 w0 o a m H w undef H' :=
  fun next Q h => by unfold Oper.wp; rw [hr]; exact h m undef w' E R' (VRel.undef _)
theorem opv_rel {T : List Value} {a : Act} (hT : LRel m T a.tmps.toList) (x : Operand) : VRel m (opv T x) (a.eval x) := by
  cases x with
  | tmp t =>
    simp only [opv, Act.eval]
    rcases Nat.lt_or_ge t T.length with h | h
    · have hlen : T.length = a.tmps.size := hT.1.trans Array.length_toList
      have h2 : t < a.tmps.size := hlen ▸ h
      have e1 : T[t]? = some T[t] := List.getElem?_eq_getElem h
      have e2 : a.tmps.toList[t]? = some a.tmps[t] := by simp [h2]
      have := hT.2 t _ _ e1 e2
      simpa [List.getD, e1, Array.getD, h2] using this
    · have h2 : a.tmps.size ≤ t := by have hlen : T.length = a.tmps.size := hT.1.trans Array.length_toList; omega
      have e1 : T[t]? = none := List.getElem?_eq_none h
      simp [List.getD, e1, Array.getD, Nat.not_lt.2 h2]
      exact VRel.undef _
  | const v =>
    simp only [opv, Act.eval]
    split
    · rename_i hf; exact VRel.of_flat hf
    · exact .unk _
  | global g => exact .unk _
  | func f => exact .func f _ _ _ _ rfl (fun i x y h => by simp at h) rfl (fun i x y h => by simp at h)
theorem parts_rel {T : List Value} {a : Act} (hT : LRel m T a.tmps.toList) : ∀ ps : List (Nat × Operand), PRel m (ps.map fun p => (p.1, opv T p.2)) (ps.map fun p => (p.1, a.eval p.2))
  | [] => trivial
  | p :: ps => ⟨rfl, opv_rel hT p.2, parts_rel hT ps⟩
theorem args_rel {T : List Value} {a : Act} (hT : LRel m T a.tmps.toList) (l : List Operand) : LRel m (l.map (opv T)) (l.map a.eval) := LRel.map _ _ l fun x _ => opv_rel hT x
theorem opt_rel {T : List Value} {a : Act} (hT : LRel m T a.tmps.toList) (x : Option Operand) : ORel m (x.map (opv T)) (x.map a.eval) := by
  cases x with
  | none => exact .inl ⟨rfl, rfl⟩
  | some x => exact .inr ⟨_, _, rfl, rfl, opv_rel hT x⟩
theorem bind_some {α β : Type} {x : Option α} {f : α → Option β} {r : β} (h : x.bind f = some r) : ∃ a, x = some a ∧ f a = some r := by
  cases x with
  | none => cases h
  | some a => exact ⟨a, rfl, h⟩
theorem nilChk_sound {dst : Option Tmp} {x : Operand} {ty : TypeId} {ps : String} {af : Array Edge} {g : Option (Nat × Bool)} {a : Act} {T : List Value} {v : Value} (hT : LRel m T a.tmps.toList) (h : nilChk (opv T x) = some v) :
    ∃ v', (execOp a.eval ⟨dst, .nilCheck x, ty, ps, af, g⟩).run P w = .ok (.value v') w ∧ VRel m v v' := by
  have hx := opv_rel hT x
  unfold nilChk at h
  split at h
  · rename_i ad he
    cases h
    rw [he] at hx
    obtain ⟨ad', hx'⟩ := hx.ptr_some
    exact ⟨.pointer (some ad'), by simp [execOp, hx'], by rw [← hx']; exact hx⟩
  · rename_i f u1 u2 he
    cases h
    rw [he] at hx
    obtain ⟨a', b', hx'⟩ := hx.func_someF
    exact ⟨.func (.func f) a' b', by simp [execOp, hx'], by rw [← hx']; exact hx⟩
  · cases h
theorem call_sound (hcall : CallOK P call) (R0 : Rel P B0 w0 m H w) {T : List Value} {a : Act} (hT : LRel m T a.tmps.toList) {dst : Option Tmp} {c : Call} {ty : TypeId} {ps : String} {af : Array Edge} {g : Option (Nat × Bool)} {K : Value → AH → Option R} {r : R}
    (h : aCall P call (opv T) c H K = some r) : ∃ v H', K v H' = some r ∧ OpSim P B0 w0 ⟨dst, .call c, ty, ps, af, g⟩ a m H w v H' := by
  obtain ⟨callee, cargs, ctypes⟩ := c
  unfold aCall at h
  split at h
  · rename_i f hc
    simp only at hc
    subst hc
    obtain ⟨p, h1, h2⟩ := bind_some h
    refine ⟨p.1, p.2, h2, ?_⟩
    unfold callV at h1
    split at h1
    · rename_i q first captured hf
      have hfr := opv_rel hT f
      rw [hf] at hfr
      obtain ⟨hlt, h1⟩ := blt_inv h1
      obtain ⟨hen, hsim⟩ := hcall.1 _ _ _ _ _ hlt h1
      have hsplit : ∃ a' b', a.eval f = .func (.func q) a' b' ∧ LRel m first.toList a'.toList ∧ LRel m captured.toList b'.toList := by
        generalize a.eval f = u at hfr
        cases hfr with
        | flat v hf => simp [flat1] at hf
        | func f a b a' b' h1 h2 h3 h4 => exact ⟨a', b', rfl, ⟨by simpa using h1, fun i x y hx hy => h2 i x y (by simpa using hx) (by simpa using hy)⟩, ⟨by simpa using h3, fun i x y hx hy => h4 i x y (by simpa using hx) (by simpa using hy)⟩⟩
      obtain ⟨a', b', he, hla, hlb⟩ := hsplit
      intro next Q hn
      have hrun : (execOp a.eval ⟨dst, .call ⟨.value f, cargs, ctypes⟩, ty, ps, af, g⟩).run P w = .ok (.enter q (a' ++ cargs.map a.eval ++ b')) w := by
        simp [execOp, resolve, he, Deferred.ofValue, invoke, run_callFunc hen]
      unfold Oper.wp
      rw [hrun]
      simp only [Oper.upon]
      have hargs := hsim B0 w0 m w (a'.toList ++ (cargs.toList.map a.eval ++ b'.toList)) R0 (hla.append ((args_rel hT _).append hlb))
      have he2 : (a'.toList ++ (cargs.toList.map a.eval ++ b'.toList)).toArray = a' ++ cargs.map a.eval ++ b' := by
        apply Array.ext'
        simp
      rw [he2] at hargs
      refine hargs.mono fun e w' he => ?_
      obtain ⟨m', v', rfl, q1, q2, q3⟩ := he
      exact hn m' v' w' q3 q2 q1
    · cases h1
  · rename_i hc
    simp only at hc
    subst hc
    split at h
    · rename_i t u s x ht ha
      simp only at ht ha
      obtain ⟨p, h1, h2⟩ := bind_some h
      refine ⟨p.1, p.2, h2, ?_⟩
      have e1 : ctypes = #[t, u] := by apply Array.ext'; simpa using ht
      have e2 : cargs = #[s, x] := by apply Array.ext'; simpa using ha
      subst e1 e2
      have hs := opv_rel hT s
      have hx := opv_rel hT x
      have hrun : ∀ v' w', (Builtin.append_ #[t, u] ty #[a.eval s, a.eval x]).run P w = .ok v' w' → (execOp a.eval ⟨dst, .call ⟨.builtin .append, #[s, x], #[t, u]⟩, ty, ps, af, g⟩).run P w = .ok (.value v') w' := by
        intro v' w' hv
        simp [execOp, resolve, invoke, builtin, hv]
      unfold ap at h1
      split at h1
      · rename_i e e' hd1 hd2
        obtain ⟨z, hz, h1⟩ := bind_some h1
        split at h1
        · rename_i hcond
          obtain ⟨c1, c2, c3⟩ := hcond
          obtain ⟨n, hn, h1⟩ := bind_some h1
          obtain ⟨news, hnews, h1⟩ := bind_some h1
          split at h1
          · rename_i hall
            obtain ⟨i, hi, hz1, hz2⟩ := zeroT_inv hz
            rw [szT_eq hi] at c1 c2 hnews h1
            rw [byT_eq hi] at h1
            obtain ⟨v', m', w', q1, q2, q3, q4⟩ := apS_sound R0 (ty := ty) hd1 hd2 (.inl ⟨e', rfl⟩) hi hz1 c2 hs hx c1 hn hnews (.inl fun s hs => by rw [hs] at c3; cases c3) hall (gk_gr P e) h1
            exact OpSim.value (hrun _ _ q1) q2 q3 q4
          · cases h1
        · cases h1
      · rename_i e hd1 hd2
        obtain ⟨z, hz, h1⟩ := bind_some h1
        split at h1
        · rename_i hcond
          obtain ⟨c1, c2⟩ := hcond
          obtain ⟨n, hn, h1⟩ := bind_some h1
          obtain ⟨news, hnews, h1⟩ := bind_some h1
          split at h1
          · rename_i hall
            obtain ⟨i, hi, hz1, hz2⟩ := zeroT_inv hz
            rw [szT_eq hi] at c1 c2 hnews h1
            rw [byT_eq hi] at h1
            obtain ⟨v', m', w', q1, q2, q3, q4⟩ := apS_sound R0 (ty := ty) hd1 hd2 (.inr rfl) hi hz1 c2 hs hx (by omega) hn hnews (.inr c1) hall (gk_gr P e) h1
            exact OpSim.value (hrun _ _ q1) q2 q3 q4
          · cases h1
        · cases h1
      · rename_i e kn hd1 hd2
        split at h1
        · rename_i k n hs0 hx0
          rw [hs0] at hs
          rw [hx0] at hx
          obtain ⟨z, hz, h1⟩ := bind_some h1
          split at h1
          · rename_i hcond
            obtain ⟨c1, c2, c3, c4, c5⟩ := hcond
            cases h1
            obtain ⟨i, hi, hz1, hz2⟩ := zeroT_inv hz
            rw [szT_eq hi] at c1
            rw [byT_eq hi] at c5
            obtain ⟨v', m', w', q1, q2, q3, q4⟩ := apZ_sound (gk_gr P e) R0 (ty := ty) hd1 hd2 hi hz1 hz2 c2 c1 hs hx c3 c4 c5
            exact OpSim.value (hrun _ _ q1) q2 q3 q4
          · cases h1
        · cases h1
      · cases h1
    · cases h
  · rename_i hc
    simp only at hc
    subst hc
    split at h
    · rename_i t u s x ht ha
      simp only at ht ha
      obtain ⟨p, h1, h2⟩ := bind_some h
      refine ⟨p.1, p.2, h2, ?_⟩
      have e1 : ctypes = #[t, u] := by apply Array.ext'; simpa using ht
      have e2 : cargs = #[s, x] := by apply Array.ext'; simpa using ha
      subst e1 e2
      obtain ⟨v', w', q1, q2, q3, q4⟩ := cpy_sound R0 (u := u) (ty := ty) (opv_rel hT s) (opv_rel hT x) h1
      exact OpSim.value (by simp [execOp, resolve, invoke, builtin, q1]) q2 q3 q4
    · cases h
  · rename_i hc
    simp only at hc
    subst hc
    split at h
    · rename_i t x ht ha
      simp only at ht ha
      have e1 : ctypes = #[t] := by apply Array.ext'; simpa using ht
      have e2 : cargs = #[x] := by apply Array.ext'; simpa using ha
      subst e1 e2
      cases hmt : isMapT P t with
      | true =>
        rw [hmt] at h
        obtain ⟨v, h1, h2⟩ := bind_some h
        refine ⟨v, H, h2, ?_⟩
        obtain ⟨q1, q2⟩ := lenM_sound (P := P) (ty := ty) R0 (opv_rel hT x) h1
        exact OpSim.still R0 (by simp [execOp, resolve, invoke, builtin, q1]) (.flat _ q2)
      | false =>
        rw [hmt] at h
        obtain ⟨v, h1, h2⟩ := bind_some h
        refine ⟨v, H, h2, ?_⟩
        obtain ⟨q1, q2⟩ := lenV_sound (P := P) (u := 0) (ty := ty) (w := w) (opv_rel hT x) h1
        exact OpSim.still R0 (by simp [execOp, resolve, invoke, builtin, q1]) (.flat _ q2)
    · cases h
  · rename_i hc
    simp only at hc
    subst hc
    split at h
    · rename_i t x ht ha
      simp only at ht ha
      obtain ⟨v, h1, h2⟩ := bind_some h
      refine ⟨v, H, h2, ?_⟩
      have e1 : ctypes = #[t] := by apply Array.ext'; simpa using ht
      have e2 : cargs = #[x] := by apply Array.ext'; simpa using ha
      subst e1 e2
      obtain ⟨q1, q2⟩ := capV_sound (P := P) (u := 0) (ty := ty) (w := w) (opv_rel hT x) h1
      exact OpSim.still R0 (by simp [execOp, resolve, invoke, builtin, q1]) (.flat _ q2)
    · cases h
  · rename_i hc
    simp only at hc
    subst hc
    obtain ⟨v, h1, h2⟩ := bind_some h
    refine ⟨v, H, h2, ?_⟩
    obtain ⟨v', q1, q2⟩ := min_sound (P := P) (w := w) (ts := ctypes) (ty := ty) (args_rel hT cargs.toList) h1
    have e1 : (cargs.toList.map a.eval).toArray = cargs.map a.eval := by apply Array.ext'; simp
    rw [e1] at q1
    exact OpSim.still R0 (by simp [execOp, resolve, invoke, builtin, q1]) q2
  · rename_i hc
    simp only at hc
    subst hc
    obtain ⟨v, h1, h2⟩ := bind_some h
    refine ⟨v, H, h2, ?_⟩
    obtain ⟨v', q1, q2⟩ := max_sound (P := P) (w := w) (ts := ctypes) (ty := ty) (args_rel hT cargs.toList) h1
    have e1 : (cargs.toList.map a.eval).toArray = cargs.map a.eval := by apply Array.ext'; simp
    rw [e1] at q1
    exact OpSim.still R0 (by simp [execOp, resolve, invoke, builtin, q1]) q2
  · rename_i hc
    simp only at hc
    subst hc
    split at h
    · rename_i x ha
      simp only at ha
      obtain ⟨v, h1, h2⟩ := bind_some h
      refine ⟨v, H, h2, ?_⟩
      have e2 : cargs = #[x] := by apply Array.ext'; simpa using ha
      subst e2
      obtain ⟨v', q1, q2⟩ := sdV_sound (P := P) (w := w) (ts := ctypes) (ty := ty) (opv_rel hT x) h1
      exact OpSim.still R0 (by simp [execOp, resolve, invoke, builtin, q1]) q2
    · cases h
  · rename_i hc
    simp only at hc
    subst hc
    split at h
    · rename_i pt it p n ht ha
      simp only at ht ha
      obtain ⟨q, h1, h2⟩ := bind_some h
      refine ⟨q.1, q.2, h2, ?_⟩
      have e1 : ctypes = #[pt, it] := by apply Array.ext'; simpa using ht
      have e2 : cargs = #[p, n] := by apply Array.ext'; simpa using ha
      subst e1 e2
      obtain ⟨v', w', q1, q2, q3, q4⟩ := usV_sound R0 (it := it) (ty := ty) (opv_rel hT p) (opv_rel hT n) h1
      exact OpSim.value (by simp [execOp, resolve, invoke, builtin, q1]) q2 q3 q4
    · cases h
  · cases h
end
end Go.AM
set_option linter.unusedVariables false
set_option linter.unusedSimpArgs false
namespace Go.AM
open Go.RowKit

section
variable {P : Program} {B0 : Nat} {w0 : World} {m : Mp} {H : AH} {w : World} {call : CallF} {R : Type}
theorem aIf_inv {v : Value} {x y : Option R} {r : R} (h : aIf v x y = some r) : ∃ b, v = .bool b ∧ (if b then x else y) = some r := by
  unfold aIf at h
  split at h
  · exact ⟨true, rfl, h⟩
  · exact ⟨false, rfl, h⟩
  · cases h
theorem LRel.arr {xs : Array Operand} {T : List Value} {a : Act} (hT : LRel m T a.tmps.toList) : (xs.toList.map (opv T)).toArray.size = (xs.map a.eval).size ∧ ∀ (i : Nat) (x y : Value), (xs.toList.map (opv T)).toArray[i]? = some x → (xs.map a.eval)[i]? = some y → VRel m x y := by
  refine ⟨by simp, fun i x y hx hy => ?_⟩
  rw [Array.getElem?_map] at hy
  have hx : (xs[i]?).map (opv T) = some x := by simpa using hx
  cases hi : xs[i]? with
  | none => rw [hi] at hx; cases hx
  | some o => rw [hi] at hx hy; cases hx; cases hy; exact opv_rel hT o
theorem op_sound (hcall : CallOK P call) (R0 : Rel P B0 w0 m H w) {T : List Value} {a : Act} (hT : LRel m T a.tmps.toList) {o : Oper} {K : Value → AH → Option R} {r : R} (h : aOp P call (opv T) o.op H K = some r) :
    ∃ v H', K v H' = some r ∧ OpSim P B0 w0 o a m H w v H' := by
  obtain ⟨dst, op, ty, ps, af, g⟩ := o
  cases op
  case move x => exact ⟨_, H, h, OpSim.still R0 (by simp [execOp]) (opv_rel hT x)⟩
  case assign x => exact ⟨_, H, h, OpSim.still R0 (by simp [execOp]) (opv_rel hT x)⟩
  case pick c x y =>
    obtain ⟨v, h1, h2⟩ := bind_some h
    have hc := opv_rel hT c
    unfold pickV at h1
    split at h1
    · rename_i hb; cases h1; rw [hb] at hc; exact ⟨_, H, h2, OpSim.still R0 (by simp [execOp, hc.bool_inv, asBool]) (opv_rel hT x)⟩
    · rename_i hb; cases h1; rw [hb] at hc; exact ⟨_, H, h2, OpSim.still R0 (by simp [execOp, hc.bool_inv, asBool]) (opv_rel hT y)⟩
    · cases h1
  case alloc t =>
    obtain ⟨p, h1, h2⟩ := bind_some h
    obtain ⟨u', m', w', q1, q2, q3, q4⟩ := newV_sound R0 (t := t) (u := p.1) (H' := p.2) h1 (.tuple #[])
    exact ⟨_, _, h2, OpSim.value (by simp [execOp, q1]) q2 q3 q4⟩
  case box t x =>
    obtain ⟨p, h1, h2⟩ := bind_some h
    obtain ⟨u', m', w', q1, q2, q3, q4⟩ := box_sound (P := P) R0 (t := t) (u := p.1) (H' := p.2) (opv_rel hT x) h1
    exact ⟨_, _, h2, OpSim.value (by simp [execOp, q1]) q2 q3 q4⟩
  case build t parts =>
    obtain ⟨v, h1, h2⟩ := bind_some h
    obtain ⟨v', q1, q2⟩ := build_sound (w := w) (parts_rel hT parts.toList) h1
    have e1 : (parts.toList.map fun p => (p.1, a.eval p.2)).toArray = parts.map fun p => (p.1, a.eval p.2) := by apply Array.ext'; simp
    rw [e1] at q1
    exact ⟨_, H, h2, OpSim.still R0 (by simp [execOp, q1]) q2⟩
  case buildSlice t n parts =>
    obtain ⟨p, h1, h2⟩ := bind_some h
    obtain ⟨u', m', w', q1, q2, q3, q4⟩ := buildS_sound R0 (parts_rel hT parts.toList) (u := p.1) (H' := p.2) h1
    have e1 : (parts.toList.map fun p => (p.1, a.eval p.2)).toArray = parts.map fun p => (p.1, a.eval p.2) := by apply Array.ext'; simp
    rw [e1] at q1
    exact ⟨_, _, h2, OpSim.value (by simp [execOp, q1]) q2 q3 q4⟩
  case load t x =>
    obtain ⟨v, h1, h2⟩ := bind_some h
    obtain ⟨v', q1, q2⟩ := ld_sound R0 (opv_rel hT x) h1
    exact ⟨_, H, h2, OpSim.still R0 (by simp [execOp, q1]) q2⟩
  case store t x y =>
    obtain ⟨H', h1, h2⟩ := bind_some h
    obtain ⟨w', q1, q2, q3⟩ := st_sound R0 (opv_rel hT x) (opv_rel hT y) h1
    exact ⟨_, H', h2, OpSim.skip (by simp [execOp, q1]) q2 q3⟩
  case nilCheck x =>
    obtain ⟨v, h1, h2⟩ := bind_some h
    obtain ⟨v', q1, q2⟩ := nilChk_sound (P := P) (w := w) (dst := dst) (ty := ty) (ps := ps) (af := af) (g := g) hT h1
    exact ⟨_, H, h2, OpSim.still R0 q1 q2⟩
  case binOp op t x y yt =>
    obtain ⟨v, h1, h2⟩ := bind_some h
    obtain ⟨v', q1, q2⟩ := bin_sound (w := w) (ρ := a.eval) (x := x) (y := y) (opv_rel hT x) (opv_rel hT y) h1
    exact ⟨_, H, h2, OpSim.still R0 (by simp only [execOp, Sem.run_bind, q1, Result.andThen_ok, Sem.run_pure]) q2⟩
  case unOp op t x =>
    obtain ⟨v, h1, h2⟩ := bind_some h
    obtain ⟨v', q1, q2⟩ := un_sound (w := w) (opv_rel hT x) h1
    exact ⟨_, H, h2, OpSim.still R0 (by simp [execOp, q1]) q2⟩
  case convert s d x =>
    simp only [aOp] at h
    cases hb : isBytesToString P s d with
    | true =>
      rw [hb] at h
      obtain ⟨v, h1, h2⟩ := bind_some h
      obtain ⟨v', q1, q2⟩ := cvS_sound R0 (opv_rel hT x) h1
      exact ⟨_, H, h2, OpSim.still R0 (by simp [execOp, q1]) q2⟩
    | false =>
      rw [hb] at h
      obtain ⟨v, h1, h2⟩ := bind_some h
      obtain ⟨v', q1, q2⟩ := cv_sound (w := w) (opv_rel hT x) h1
      exact ⟨_, H, h2, OpSim.still R0 (by simp [execOp, q1]) q2⟩
  case makeFunc fn first captured =>
    cases fn <;> first
      | cases h; done
      | (refine ⟨_, H, h, OpSim.still R0 (by simp [execOp, Instr.makeFunc]; rfl) ?_⟩
         exact .func _ _ _ _ _ (LRel.arr hT).1 (LRel.arr hT).2 (LRel.arr hT).1 (LRel.arr hT).2)
  case makeSlice t l c =>
    obtain ⟨p, h1, h2⟩ := bind_some h
    obtain ⟨u', m', w', q1, q2, q3, q4⟩ := mkS_sound R0 (opv_rel hT l) (opv_rel hT c) (u := p.1) (H' := p.2) h1
    exact ⟨_, _, h2, OpSim.value (by simp [execOp, q1]) q2 q3 q4⟩
  case slice t x lo hi mx =>
    cases mx with
    | some mx =>
      obtain ⟨v, h1, h2⟩ := bind_some h
      obtain ⟨v', q1, q2⟩ := slc3_sound (w := w) (opv_rel hT x) (opt_rel hT lo) (opt_rel hT hi) (opv_rel hT mx) h1
      exact ⟨_, H, h2, OpSim.still R0 (by simp [execOp, q1]) q2⟩
    | none =>
      obtain ⟨v, h1, h2⟩ := bind_some h
      obtain ⟨v', q1, q2⟩ := slc_sound (w := w) (opv_rel hT x) (opt_rel hT lo) (opt_rel hT hi) h1
      exact ⟨_, H, h2, OpSim.still R0 (by simp [execOp, q1]) q2⟩
  case fieldAddr s x i =>
    obtain ⟨v, h1, h2⟩ := bind_some h
    obtain ⟨v', q1, q2⟩ := fldA_sound R0 (opv_rel hT x) h1
    exact ⟨_, H, h2, OpSim.still R0 (by simp [execOp, q1]) q2⟩
  case field s x i =>
    obtain ⟨v, h1, h2⟩ := bind_some h
    obtain ⟨v', q1, q2⟩ := fld_sound (w := w) (opv_rel hT x) h1
    exact ⟨_, H, h2, OpSim.still R0 (by simp [execOp, q1]) q2⟩
  case indexAddr t x i =>
    obtain ⟨v, h1, h2⟩ := bind_some h
    obtain ⟨v', q1, q2⟩ := ixA_sound (w := w) (opv_rel hT x) (opv_rel hT i) h1
    exact ⟨_, H, h2, OpSim.still R0 (by simp [execOp, q1]) q2⟩
  case index t x i =>
    obtain ⟨v, h1, h2⟩ := bind_some h
    obtain ⟨v', q1, q2⟩ := ix_sound (w := w) (opv_rel hT x) (opv_rel hT i) h1
    exact ⟨_, H, h2, OpSim.still R0 (by simp [execOp, q1]) q2⟩
  case extract t i =>
    obtain ⟨v, h1, h2⟩ := bind_some h
    obtain ⟨v', q1, q2⟩ := ext_sound (P := P) (w := w) (opv_rel hT t) h1
    exact ⟨_, H, h2, OpSim.still R0 (by simp [execOp, q1]) q2⟩
  case makeMap t r =>
    cases r with
    | some r => cases h
    | none =>
      have h' : (mkM t H).bind (fun p => K p.1 p.2) = some r := h
      obtain ⟨p, h1, h2⟩ := bind_some h'
      obtain ⟨u', m', w', q1, q2, q3, q4⟩ := mkM_sound (P := P) R0 (u := p.1) (H' := p.2) h1
      exact ⟨_, _, h2, OpSim.value (by simp [execOp, q1]) q2 q3 q4⟩
  case mapUpdate t mm k x =>
    obtain ⟨H', h1, h2⟩ := bind_some h
    obtain ⟨w', q1, q2, q3⟩ := mpU_sound R0 (opv_rel hT mm) (opv_rel hT k) (opv_rel hT x) h1
    exact ⟨_, H', h2, OpSim.skip (by simp [execOp, q1]) q2 q3⟩
  case lookup t mm k two =>
    obtain ⟨v, h1, h2⟩ := bind_some h
    obtain ⟨v', q1, q2⟩ := lkU_sound R0 (opv_rel hT mm) (opv_rel hT k) h1
    exact ⟨_, H, h2, OpSim.still R0 (by simp [execOp, q1]) q2⟩
  case call c => exact call_sound hcall R0 hT h
  all_goals cases h
end
end Go.AM
set_option linter.unusedVariables false
set_option linter.unusedSimpArgs false
namespace Go.AM
open Go.RowKit

def FW (r : Option Nat) : Fence := { Fence.wide with round := r }
section
variable {P : Program} {r : Option Nat} {n : Nat}
theorem fw_calls {f : FuncId} {args : Array Value} {w : World} {R : Ending → World → Prop} (h : Calls P f args w R) : CallsIn (FW r) n P f args w R := (callsIn_wide (n := n)).2 h
theorem fw_steps {m m' : Machine} (h : Steps P m m') : StepsIn (Machine.fenced P (FW r)) P m m' := stepsIn_wide.2 h
theorem oper_in {o : Oper} {a : Act} {w : World} {next : Act → World → Prop} {Q : Exit → Act → World → Prop} (hd : ∀ c, o.op ≠ .defer c) (h : o.wp P a w next Q) : o.wpIn (FW r) n P a w next Q := by
  refine ⟨fun _ _ => trivial, ?_⟩
  unfold Oper.wp at h
  rw [Oper.semAt_eq _ _ _ hd]
  generalize (execOp a.eval o).run P w = res at h
  have h0 : (FW r).depth.isSome = true → 1 ≤ n := fun hx => by simp [FW, Fence.wide] at hx
  cases res with
  | ok x w' =>
    cases x <;> simp only [Oper.upon, Oper.uponIn] at h ⊢ <;> first
      | exact h
      | exact ⟨h0, fw_calls h⟩
      | exact ⟨h0, fun c cs _ => let ⟨v, w'', q, s⟩ := h c cs; ⟨v, w'', q, fw_steps s⟩⟩
  | halt x w' => cases x <;> simp only [Oper.upon, Oper.uponIn] at h ⊢ <;> exact h
theorem isDefer_no {o : Op} (h : isDef o = false) : ∀ c, o ≠ .defer c := by rintro c rfl; cases h
theorem any_in {ops : Array Oper} {Q : Exit → Act → World → Prop} (hnd : ∀ (i : Nat) (o : Oper), ops[i]? = some o → isDef o.op = false) (hl : ¬ LetsOut Q) : ∀ (fuel : Nat) (listed : Array Bool) (a : Act) (w : World),
    wpAny P .any ops Q fuel listed a w → wpAnyIn (FW r) n P .any ops Q fuel listed a w
  | 0, listed, a, w, h => h
  | fuel + 1, listed, a, w, h => by
    refine ⟨h.1, fun i hi => ?_⟩
    have h1 := h.2 i hi
    unfold wpOp at h1
    unfold wpOpIn
    cases ho : ops[i]? with
    | none =>
      simp only [ho] at h1 ⊢
      exact any_in hnd hl fuel _ _ _ h1
    | some o =>
      simp only [ho] at h1 ⊢
      split
      · rename_i hw
        rw [if_pos hw] at h1
        rcases h1 with h1 | h1
        · exact Oper.wpIn_mono (fun a w hh => any_in hnd hl fuel _ a w hh) (oper_in (isDefer_no (hnd i o ho)) h1)
        · exact (hl h1.2).elim
      · rename_i hw
        rw [if_neg hw] at h1
        exact ⟨fun _ _ => trivial, any_in hnd hl fuel _ _ _ h1⟩
theorem operIn_monoQ {F : Fence} {o : Oper} {a : Act} {w : World} {K K' : Act → World → Prop} {Q Q' : Exit → Act → World → Prop} (hk : ∀ a w, K a w → K' a w) (hq : ∀ e a w, Q e a w → Q' e a w) (h : o.wpIn F n P a w K Q) : o.wpIn F n P a w K' Q' := by
  refine ⟨h.1, ?_⟩
  have hh := h.2
  have hl : LetsOut Q → LetsOut Q' := fun ⟨a, w, hx⟩ => ⟨a, w, hq _ _ _ hx⟩
  generalize (o.semAt F.round a.eval).run P w = res at hh
  cases res with
  | ok x w' =>
    cases x <;> simp only [Oper.uponIn] at hh ⊢ <;>
      first
        | exact hk _ _ hh
        | exact ⟨hh.1, CallsIn.mono hh.2 (fun e w'' he => by cases e <;> first | exact hk _ _ he | exact hq _ _ _ he | exact hl he)⟩
        | exact ⟨hh.1, RowsIn.mono hh.2 (fun _ _ he => hk _ _ he)⟩
        | exact ⟨hh.1, RoundIn.mono hh.2 (fun e w'' he => by cases e <;> first | exact hk _ _ he | exact hq _ _ _ he | exact hl he)⟩
  | halt x w' => cases x <;> simp only [Oper.uponIn] at hh ⊢ <;> exact hq _ _ _ hh
theorem wpAnyIn_monoQ {F : Fence} {ops : Array Oper} {Q Q' : Exit → Act → World → Prop} (hq : ∀ e a w, Q e a w → Q' e a w) : ∀ (fuel : Nat) (listed : Array Bool) (a : Act) (w : World),
    wpAnyIn F n P .any ops Q fuel listed a w → wpAnyIn F n P .any ops Q' fuel listed a w
  | 0, listed, a, w, h => ⟨h.1, hq _ _ _ h.2⟩
  | fuel + 1, listed, a, w, h => by
    refine ⟨fun hx => hq _ _ _ (h.1 hx), fun i hi => ?_⟩
    have h1 := h.2 i hi
    unfold wpOpIn at h1 ⊢
    cases ho : ops[i]? with
    | none =>
      simp only [ho] at h1 ⊢
      exact wpAnyIn_monoQ hq fuel _ _ _ h1
    | some o =>
      simp only [ho] at h1 ⊢
      split
      · rename_i hw
        rw [if_pos hw] at h1
        exact operIn_monoQ (fun a w hh => wpAnyIn_monoQ hq fuel _ a w hh) hq h1
      · rename_i hw
        rw [if_neg hw] at h1
        exact ⟨h1.1, wpAnyIn_monoQ hq fuel _ _ _ h1.2⟩
section
variable {b : Frame} {a : Act} {k : List Item} {cs : List Frame} {w : World} {Q : Exit → Act → World → Prop}
theorem stepR_scope {c : Code} : step P (lone (b.atR a (.code (.scope c) :: k)) cs w) = .next (lone (b.atR a (.code c :: .inScope c :: k)) cs w) :=
  step_lone_go (by simp [stepG, stepG.exec, Frame.atR])
theorem stepR_inScope {c : Code} : step P (lone (b.atR a (.inScope c :: k)) cs w) = .next (lone (b.atR a k) cs w) :=
  step_lone_go (by simp [stepG, stepG.exec, Frame.atR])
theorem wpIn_scope_straight {F : Fence} {c : Code} (h : c.wpIn F n P (Exit.noGoto Q) a w) : (Code.scope c).wpIn F n P Q a w := by
  intro b k cs hro hb hr
  have h0 : (lone (b.atR a (.code (.scope c) :: k)) cs w).fenced P F := fenced_calm hb hr rfl
  obtain ⟨e, a₁, w₁, hq, harr⟩ := h b (.inScope c :: k) cs hro hb hr
  cases e with
  | normal => exact ⟨.normal, a₁, w₁, hq, .head h0 stepR_scope (StepsIn.trans harr (.one (fenced_calm hb hr rfl) stepR_inScope))⟩
  | exit id =>
    have e1 : ∀ q : List Item, exitTo id (.inScope c :: q) = exitTo id q := fun q => by simp [exitTo]
    refine ⟨.exit id, a₁, w₁, hq, fun k' hk => .head h0 stepR_scope (harr.1 k' (by rw [e1]; exact hk)), fun h1 h2 => ?_⟩
    obtain ⟨k₁, h3, h4⟩ := harr.2 h1 (by rw [e1]; exact h2)
    exact ⟨k₁, h3, .head h0 stepR_scope h4⟩
  | goto l => exact hq.elim
  | ret => exact ⟨_, a₁, w₁, hq, fun h1 => let ⟨t, s⟩ := harr.1 h1; ⟨t, .head h0 stepR_scope s⟩, fun h1 => let ⟨t, s⟩ := harr.2 h1; ⟨t, .head h0 stepR_scope s⟩⟩
  | panic ch => exact ⟨_, a₁, w₁, hq, let ⟨t, s⟩ := harr; ⟨t, .head h0 stepR_scope s⟩⟩
  | outgrown => exact ⟨_, a₁, w₁, hq, harr.imp id (Outgrown.of_steps (.one stepR_scope))⟩
end
end

section
variable {P : Program} {B0 : Nat} {w0 : World} {m : Mp} {H : AH} {w : World}
/-- A block is made that no value leads to. -/
theorem Rel.allocSkip (h : Rel P B0 w0 m H w) (o : Obj) : Rel P B0 w0 m H (w.alloc o) ∧ Ext m H w m H (w.alloc o) := by
  refine ⟨⟨h.below.alloc h.hB _, by simp; exact Nat.le_succ_of_le h.hB, fun b L hb => ?_, fun b L k h1 h2 => (h.blks b L k h1 h2).at (fun _ _ h => h) (Below.heap_alloc w _ _ (h.dom b L h1).2), h.inj⟩,
    ⟨fun _ _ h => h, Nat.le_refl _, by simp, fun b k' _ hk => ⟨k', hk, rfl⟩, fun _ _ h => .inl h, fun B hB _ => Below.heap_alloc w _ _ hB⟩⟩
  have := h.dom b L hb
  simp only [World.size_alloc]
  omega
/-- A block that no value leads to is another. -/
theorem Rel.putFree (h : Rel P B0 w0 m H w) {D : Nat} (o : Obj) (hB : B0 ≤ D) (hf : ∀ b L k, m b = some L → blk H b = some k → L.blk ≠ D) : Rel P B0 w0 m H (w.putObj D o) := by
  refine ⟨h.below.trans ⟨rfl, rfl, rfl, by simp, fun j hj => World.putObj_heap_other (by omega)⟩, by simp; exact h.hB, fun b L hb => ?_, fun b L k h1 h2 => (h.blks b L k h1 h2).at (fun _ _ h => h) (World.putObj_heap_other (hf b L k h1 h2)), h.inj⟩
  simp only [World.putObj_size]
  exact h.dom b L hb
/-- A block is given up, and its object is another. -/
theorem Rel.killObj (h : Rel P B0 w0 m H w) {b : Nat} {L : Loc} {k : Blk} (hm : m b = some L) (hb : blk H b = some k) (hk : k.kind ≠ .ro) (o : Obj) :
    Rel P B0 w0 m (kill H b) (w.putObj L.blk o) ∧ Ext m H w m (kill H b) (w.putObj L.blk o) := by
  have up : ∀ b3 k3, blk (kill H b) b3 = some k3 → b ≠ b3 ∧ blk H b3 = some k3 := by
    intro b3 k3 h3
    by_cases hbb : b = b3
    · subst hbb; rw [blk_kill_same] at h3; cases h3
    · exact ⟨hbb, by rwa [blk_kill_ne hbb] at h3⟩
  have hown := (h.blks b L k hm hb).own hk
  refine ⟨⟨h.below.trans ⟨rfl, rfl, rfl, by simp, fun j hj => World.putObj_heap_other (by omega)⟩, by simp; exact h.hB, fun b2 L2 h2 => by rw [length_kill', World.putObj_size]; exact h.dom b2 L2 h2, fun b2 L2 k2 h2 hk2 => ?_, fun b1 b2 L1 L2 k1 k2 hm1 hm2 hk1 hk2 => h.inj b1 b2 L1 L2 k1 k2 hm1 hm2 (up _ _ hk1).2 (up _ _ hk2).2⟩,
    ⟨fun _ _ h => h, Nat.le_of_eq (length_kill' ..).symm, by simp, fun b2 k2 _ hk2 => ⟨k2, (up _ _ hk2).2, rfl⟩, fun _ _ h => .inl h, fun B _ hr => World.putObj_heap_other (Ne.symm (hr b L k hm hb hk))⟩⟩
  obtain ⟨hne, hk2'⟩ := up _ _ hk2
  have hd : L.blk ≠ L2.blk := h.inj b b2 L L2 k k2 hm h2 hb hk2' hk hne
  exact (h.blks b2 L2 k2 h2 hk2').at (fun _ _ h => h) (World.putObj_heap_other (Ne.symm hd))

abbrev mark (D : Nat) : Deferred := { target := .collected D, args := #[] }
def Marks (B : Nat) (ds : List Deferred) (m : Mp) (H : AH) (w : World) : Prop :=
  ∃ Ds : List Nat, ds = Ds.map mark ∧ Ds.Nodup ∧ ∀ D ∈ Ds, B ≤ D ∧ w.heap[D]? = some (.deferred (some [])) ∧ ∀ b L k, m b = some L → blk H b = some k → k.kind ≠ .ro → L.blk ≠ D
theorem Marks.nil (B : Nat) (m : Mp) (H : AH) (w : World) : Marks B [] m H w := ⟨[], rfl, List.nodup_nil, fun D h => absurd h List.not_mem_nil⟩
theorem Marks.ext {B : Nat} {ds : List Deferred} {m' : Mp} {H' : AH} {w' : World} (h : Marks B ds m H w) (R : Rel P B0 w0 m H w) (E : Ext m H w m' H' w') : Marks B ds m' H' w' := by
  obtain ⟨Ds, h1, h2, h3⟩ := h
  refine ⟨Ds, h1, h2, fun D hD => ?_⟩
  obtain ⟨h4, h5, h6⟩ := h3 D hD
  have hlt : D < w.heap.size := (Array.getElem?_eq_some_iff.1 h5).1
  refine ⟨h4, (E.frame D hlt h6).trans h5, fun b L k' hb hk hne => ?_⟩
  rcases E.new b L hb with h7 | ⟨h7, h8 | ⟨b0, L0, k0, h9, h10, h11, h12⟩⟩
  · obtain ⟨k0, h8, h9⟩ := E.alive b k' (R.dom b L h7).1 hk
    exact h6 b L k0 h7 h8 (by rw [h9]; exact hne)
  · omega
  · rw [← h12]; exact h6 b0 L0 k0 h9 h10 h11
end
end Go.AM
set_option linter.unusedVariables false
set_option linter.unusedSimpArgs false
namespace Go.AM
open Go.RowKit

def exOf : EX → Exit
  | .normal => .normal
  | .exit id => .exit id
  | .ret => .ret
/-- What is so behind a region. -/
structure After (P : Program) (B0 : Nat) (w0 : World) (m : Mp) (H : AH) (w : World) (ds : List Deferred) (T' : List Value) (H' : AH) (m' : Mp) (a' : Act) (w' : World) : Prop where
  ext : Ext m H w m' H' w'
  rel : Rel P B0 w0 m' H' w'
  tmps : LRel m' T' a'.tmps.toList
  defers : a'.defers = ds
/-- What is so behind a piece of code. -/
structure AfterM (P : Program) (Bf B0 : Nat) (w0 : World) (m : Mp) (H : AH) (w : World) (T' : List Value) (H' : AH) (m' : Mp) (a' : Act) (w' : World) : Prop where
  ext : Ext m H w m' H' w'
  rel : Rel P B0 w0 m' H' w'
  tmps : LRel m' T' a'.tmps.toList
  marks : Marks Bf a'.defers m' H' w'
def CodeSim (P : Program) (r : Option Nat) (c : Code) (T : List Value) (H : AH) (e : EX) (T' : List Value) (H' : AH) : Prop :=
  ∀ (n Bf B0 : Nat) (w0 : World) (m : Mp) (a : Act) (w : World) (Q : Exit → Act → World → Prop), Rel P B0 w0 m H w → LRel m T a.tmps.toList → Marks Bf a.defers m H w → Bf ≤ w.heap.size →
    (∀ m' a' w', AfterM P Bf B0 w0 m H w T' H' m' a' w' → Q (exOf e) a' w') → c.wpIn (FW r) n P Q a w

section
variable {P : Program} {call : CallF}

theorem put_rel {m : Mp} {T : List Value} {a : Act} (hT : LRel m T a.tmps.toList) (dst : Option Tmp) {v v' : Value} (hv : VRel m v v') : LRel m (putT T dst v) (a.put dst v').tmps.toList := by
  cases dst with
  | none => exact hT
  | some d =>
    simp only [putT, Act.put, Array.toList_setIfInBounds]
    exact hT.set d hv
theorem put_defers (a : Act) (dst : Option Tmp) (v : Value) : (a.put dst v).defers = a.defers := by cases dst <;> rfl
theorem aCall_res {R : Type} (ρ : Operand → Value) (c : Call) (H : AH) (K : Value → AH → Option R) : aCall P call ρ c H K = (aCall P call ρ c H fun v H' => some (v, H')).bind fun p => K p.1 p.2 := by
  unfold aCall
  split
  · simp [Option.bind_assoc]
  · split <;> simp [Option.bind_assoc]
  · split <;> simp [Option.bind_assoc]
  · split
    · rename_i t x _ _
      cases isMapT P t <;> simp [Option.bind_assoc]
    · rfl
  · split <;> simp [Option.bind_assoc]
  · simp [Option.bind_assoc]
  · simp [Option.bind_assoc]
  · split <;> simp [Option.bind_assoc]
  · split <;> simp [Option.bind_assoc]
  · rfl
theorem aOp_res {R : Type} (ρ : Operand → Value) (op : Op) (H : AH) (K : Value → AH → Option R) : aOp P call ρ op H K = (aRes P call ρ op H).bind fun p => K p.1 p.2 := by
  unfold aRes
  cases op
  case call c => simp only [aOp]; exact aCall_res ρ c H K
  case convert s d x =>
    simp only [aOp]
    cases isBytesToString P s d <;> simp [Option.bind_assoc]
  case makeFunc fn first captured => cases fn <;> simp [aOp]
  case slice t x lo hi mx => cases mx <;> simp [aOp, Option.bind_assoc]
  case makeMap t r => cases r <;> simp [aOp, Option.bind_assoc]
  all_goals simp [aOp, Option.bind_assoc]
theorem res_sound (hcall : CallOK P call) {T : List Value} {H : AH} {o : Oper} {v : Value} {H' : AH} (h : aRes P call (opv T) o.op H = some (v, H')) {B0 : Nat} {w0 : World} {m : Mp} {a : Act} {w : World} (R0 : Rel P B0 w0 m H w) (hT : LRel m T a.tmps.toList) :
    OpSim P B0 w0 o a m H w v H' := by
  obtain ⟨v1, H1, h1, h2⟩ := op_sound hcall R0 hT (K := fun v H' => some (v, H')) h
  cases h1
  exact h2
/-- A guard, by what the evaluator knows. -/
def Off (u : Value) (want : Bool) : Prop := (∃ b, u = .bool b ∧ b ≠ want) ∨ ∃ vs : Array Value, u = .tuple vs ∧ vs.size = 0
theorem gOp_inv {u : Value} {want : Bool} {x : Option (Value × AH)} {H : AH} {p : Value × AH} (h : gOp u want x H = some p) : (u = .bool want ∧ x = some p) ∨ (Off u want ∧ p = (undef, H)) := by
  unfold gOp at h
  split at h
  · rename_i b
    split at h
    · rename_i hb; subst hb; exact .inl ⟨rfl, h⟩
    · rename_i hb; cases h; exact .inr ⟨.inl ⟨b, rfl, hb⟩, rfl⟩
  · rename_i vs
    cases hs : vs.size == 0 with
    | true => rw [hs] at h; cases h; exact .inr ⟨.inr ⟨vs, rfl, by simpa using hs⟩, rfl⟩
    | false => rw [hs] at h; cases h
  · cases h
theorem Off.not {u : Value} {want : Bool} (h : Off u want) : u ≠ .bool want := by
  rintro rfl
  rcases h with ⟨b, hb, hne⟩ | ⟨vs, hv, _⟩
  · cases hb; exact hne rfl
  · cases hv
theorem yield_rel {ops : Array Oper} {m : Mp} {T : List Value} {a : Act} (hT : LRel m T a.tmps.toList) (j : Nat) : (∀ b, yieldV ops T j = .bool b → yielded ops a.tmps j = some b) ∧ (∀ vs : Array Value, yieldV ops T j = .tuple vs → yielded ops a.tmps j = none) := by
  have hu : VRel m (yieldV ops T j) (match (ops[j]?).bind (·.dst) with | some d => a.tmps.getD d undef | none => undef) := by
    unfold yieldV
    cases hd : (ops[j]?).bind (·.dst) with
    | none => exact VRel.undef _
    | some d => exact opv_rel hT (.tmp d)
  have hy : ∀ u, (match (ops[j]?).bind (·.dst) with | some d => a.tmps.getD d undef | none => undef) = u → yielded ops a.tmps j = match u with | .bool b => some b | _ => none := by
    intro u hu2
    subst hu2
    unfold yielded
    cases hd : (ops[j]?).bind (·.dst) with
    | none => simp [undef]
    | some d =>
      simp only [Option.bind_some]
      by_cases hlt : d < a.tmps.size
      · have e1 : a.tmps[d]? = some (a.tmps.getD d undef) := by simp [Array.getD, hlt]
        rw [e1]
        cases a.tmps.getD d undef <;> rfl
      · simp [Array.getD, hlt, undef]
  refine ⟨fun b hb => ?_, fun vs hv => ?_⟩
  · rw [hb] at hu
    rw [hy _ hu.bool_inv]
  · rw [hv] at hu
    obtain ⟨ys, he, _⟩ := hu.tuple_inv
    rw [hy _ he]
theorem wanted_of {ops : Array Oper} {tmps : Array Value} {o : Oper} {j : Nat} {want : Bool} (hg : o.guard = some (j, want)) {q : Option Bool} (hy : yielded ops tmps j = q) : Region.wanted o (yielded ops tmps) = (q == some want) := by
  unfold Region.wanted
  rw [hg]
  simp only [hy]
theorem After.start {P : Program} {B0 : Nat} {w0 : World} {m : Mp} {H : AH} {w : World} {T : List Value} {a : Act} {ds : List Deferred} (R0 : Rel P B0 w0 m H w) (hT : LRel m T a.tmps.toList) (hd : a.defers = ds) : After P B0 w0 m H w ds T H m a w := ⟨Ext.refl _ _ _, R0, hT, hd⟩
theorem After.trans {P : Program} {B0 : Nat} {w0 : World} {m m1 m2 : Mp} {H H1 H2 : AH} {w w1 w2 : World} {T2 : List Value} {a2 : Act} {ds : List Deferred} (R0 : Rel P B0 w0 m H w) (h : Ext m H w m1 H1 w1) (k : After P B0 w0 m1 H1 w1 ds T2 H2 m2 a2 w2) : After P B0 w0 m H w ds T2 H2 m2 a2 w2 :=
  ⟨Ext.trans (fun b L hb => (R0.dom b L hb).1) h k.ext, k.rel, k.tmps, k.defers⟩
theorem AfterM.start {P : Program} {Bf B0 : Nat} {w0 : World} {m : Mp} {H : AH} {w : World} {T : List Value} {a : Act} (R0 : Rel P B0 w0 m H w) (hT : LRel m T a.tmps.toList) (hd : Marks Bf a.defers m H w) : AfterM P Bf B0 w0 m H w T H m a w := ⟨Ext.refl _ _ _, R0, hT, hd⟩
theorem AfterM.trans {P : Program} {Bf B0 : Nat} {w0 : World} {m m1 m2 : Mp} {H H1 H2 : AH} {w w1 w2 : World} {T2 : List Value} {a2 : Act} (R0 : Rel P B0 w0 m H w) (h : Ext m H w m1 H1 w1) (k : AfterM P Bf B0 w0 m1 H1 w1 T2 H2 m2 a2 w2) : AfterM P Bf B0 w0 m H w T2 H2 m2 a2 w2 :=
  ⟨Ext.trans (fun b L hb => (R0.dom b L hb).1) h k.ext, k.rel, k.tmps, k.marks⟩
theorem After.m {P : Program} {Bf B0 : Nat} {w0 : World} {m m' : Mp} {H H' : AH} {w w' : World} {T' : List Value} {a' : Act} {ds : List Deferred} (R0 : Rel P B0 w0 m H w) (hd : Marks Bf ds m H w) (A : After P B0 w0 m H w ds T' H' m' a' w') : AfterM P Bf B0 w0 m H w T' H' m' a' w' :=
  ⟨A.ext, A.rel, A.tmps, by rw [A.defers]; exact hd.ext R0 A.ext⟩
/-- One operation, inside the fence. -/
def OpSimF (P : Program) (r : Option Nat) (n B0 : Nat) (w0 : World) (o : Oper) (a : Act) (m : Mp) (H : AH) (w : World) (v : Value) (H' : AH) : Prop :=
  ∀ (next : Act → World → Prop) (Q : Exit → Act → World → Prop), (∀ m' v' w', Ext m H w m' H' w' → Rel P B0 w0 m' H' w' → VRel m' v v' → next (a.put o.dst v') w') → o.wpIn (FW r) n P a w next Q
theorem opY_res {R : Type} (ρ : Operand → Value) (op : Op) (H : AH) (K : Value → AH → Option R) : opY P call ρ op H K = (opY P call ρ op H fun v H' => some (v, H')).bind fun p => K p.1 p.2 := by
  have e : ∀ {R : Type} (K : Value → AH → Option R), (∃ f args ts, op = .call ⟨.value f, args, ts⟩ ∧ opY P call ρ op H K = (callY call (ρ f) (args.toList.map ρ) H).bind fun p => K p.1 p.2) ∨ ((∀ f args ts, op ≠ .call ⟨.value f, args, ts⟩) ∧ opY P call ρ op H K = aOp P call ρ op H K) := by
    intro R K
    unfold opY
    split
    · exact .inl ⟨_, _, _, rfl, rfl⟩
    · rename_i hno; exact .inr ⟨fun f args ts h => hno f args ts h, rfl⟩
  rcases e K with ⟨f, args, ts, rfl, h1⟩ | ⟨h1, h2⟩
  · rw [h1]
    show _ = Option.bind (Option.bind _ _) _
    rw [Option.bind_assoc]
    rfl
  · rcases e fun v H' => some (v, H') with ⟨f, args, ts, rfl, h3⟩ | ⟨h3, h4⟩
    · exact (h1 f args ts rfl).elim
    · rw [h2, h4]; exact aOp_res ρ op H K
theorem aRes_noDef {ρ : Operand → Value} {op : Op} {H : AH} {p : Value × AH} (h : aRes P call ρ op H = some p) : isDef op = false := by
  cases op <;> first | rfl | (unfold aRes at h; cases h)
theorem opY_sound (hcall : CallOK P call) {T : List Value} {H : AH} {o : Oper} {v : Value} {H' : AH} (h : (opY P call (opv T) o.op H fun v H' => some (v, H')) = some (v, H')) {r : Option Nat} {n B0 : Nat} {w0 : World} {m : Mp} {a : Act} {w : World} (R0 : Rel P B0 w0 m H w) (hT : LRel m T a.tmps.toList) :
    OpSimF P r n B0 w0 o a m H w v H' := by
  have plain : aRes P call (opv T) o.op H = some (v, H') → OpSimF P r n B0 w0 o a m H w v H' := fun hh next Q hn =>
    oper_in (isDefer_no (aRes_noDef hh)) (res_sound hcall hh R0 hT next Q hn)
  unfold opY at h
  split at h
  · rename_i f args ts hop
    obtain ⟨p, h1, h2⟩ := bind_some h
    cases h2
    by_cases hy : ∃ b xs ys, opv T f = .func (.yield b) xs ys
    · obtain ⟨b, xs, ys, hf⟩ := hy
      rw [hf] at h1
      have hfr := opv_rel hT f
      rw [hf] at hfr
      obtain ⟨L, hm, he, hLk, _, _⟩ := hfr.yld_inv
      obtain ⟨fn, tmps, assign, body, hy1, hy2⟩ := hcall.2 b _ _ _ _ h1 (n - 1) B0 w0 m w _ L R0 (args_rel hT args.toList) hm hLk
      intro next Q hn
      obtain ⟨dst, op, ty, ps, af, g⟩ := o
      simp only at hop
      subst hop
      have e2 : (args.toList.map a.eval).toArray = args.map a.eval := by apply Array.ext'; simp
      rw [e2] at hy1
      refine ⟨fun _ _ => trivial, ?_⟩
      rw [Oper.semAt_eq _ _ _ (by simp)]
      have hrun : (execOp a.eval ⟨dst, .call ⟨.value f, args, ts⟩, ty, ps, af, g⟩).run P w = .ok (.round L.blk fn tmps assign body) w := by
        simp [execOp, resolve, he, Deferred.ofValue, invoke, hy1]
      rw [hrun]
      simp only [Oper.uponIn]
      refine ⟨fun hx => by simp [FW, Fence.wide] at hx, ?_⟩
      refine RoundIn.mono (F := FW r) hy2 fun e w' he => ?_
      obtain ⟨m', v', rfl, q1, q2, q3⟩ := he
      exact hn m' v' w' q3 q2 q1
    · refine plain ?_
      unfold aRes
      rw [hop]
      have e1 : callY call (opv T f) (args.toList.map (opv T)) H = callV call (opv T f) (args.toList.map (opv T)) H := by
        unfold callY
        split
        · rename_i b xs ys hf; exact (hy ⟨b, xs, ys, hf⟩).elim
        · rfl
      rw [e1] at h1
      show (callV call (opv T f) (args.toList.map (opv T)) H).bind _ = _
      rw [h1]
      rfl
  · exact plain h
def OpsSim (P : Program) (r : Option Nat) (ops : Array Oper) (idx : List Nat) (T : List Value) (H : AH) (T' : List Value) (H' : AH) : Prop :=
  ∀ (n B0 : Nat) (w0 : World) (m : Mp) (a : Act) (w : World) (ds : List Deferred) (Q : Exit → Act → World → Prop), Rel P B0 w0 m H w → LRel m T a.tmps.toList → a.defers = ds → (∀ m' a' w', After P B0 w0 m H w ds T' H' m' a' w' → Q .normal a' w') → wpOpsIn (FW r) n P ops Q idx a w
theorem evOps_sound (hcall : CallOK P call) (r0 : Option Nat) (ops : Array Oper) {R : Type} {K : List Value → AH → Option R} {r : R} : ∀ (l : List Oper) (i : Nat) (T : List Value) (H : AH), (∀ j, l[j]? = ops[i + j]?) → evOps P call ops l T H K = some r →
    ∃ T' H', K T' H' = some r ∧ OpsSim P r0 ops (List.range' i l.length) T H T' H'
  | [], i, T, H, hl, h => ⟨T, H, h, fun n B0 w0 m a w ds Q R0 hT hd hq => hq m a w (After.start R0 hT hd)⟩
  | o :: l, i, T, H, hl, h => by
    have ho : ops[i]? = some o := by have := hl 0; simpa using this.symm
    have hl' : ∀ j, l[j]? = ops[i + 1 + j]? := fun j => by have := hl (j + 1); rw [show i + 1 + j = i + (j + 1) by omega]; simpa using this
    -- done
    have done : ∀ (hh : (opY P call (opv T) o.op H fun v H' => evOps P call ops l (putT T o.dst v) H' K) = some r), ∃ T' H', K T' H' = some r ∧
        ∀ (n B0 : Nat) (w0 : World) (m : Mp) (a : Act) (w : World) (ds : List Deferred) (Q : Exit → Act → World → Prop), Region.wanted o (yielded ops a.tmps) = true → Rel P B0 w0 m H w → LRel m T a.tmps.toList → a.defers = ds → (∀ m' a' w', After P B0 w0 m H w ds T' H' m' a' w' → Q .normal a' w') → wpOpsIn (FW r0) n P ops Q (List.range' i (o :: l).length) a w := by
      intro hh
      rw [opY_res] at hh
      obtain ⟨⟨v, H1⟩, h1, h2⟩ := bind_some hh
      obtain ⟨T', H', h3, h4⟩ := evOps_sound hcall r0 ops l (i + 1) _ _ hl' h2
      refine ⟨T', H', h3, fun n B0 w0 m a w ds Q hw R0 hT hd hq => ?_⟩
      rw [List.length_cons, List.range'_succ]
      simp only [wpOpsIn, ho]
      rw [if_pos hw]
      refine opY_sound hcall h1 R0 hT _ _ fun m' v' w' E R' hv => ?_
      exact h4 n B0 w0 m' _ w' ds Q R' (put_rel (hT.mono E.mono) _ hv) (by rw [put_defers]; exact hd) fun m2 a2 w2 A => hq m2 a2 w2 (After.trans R0 E A)
    have skipped : ∀ (hh : evOps P call ops l (putT T o.dst undef) H K = some r), ∃ T' H', K T' H' = some r ∧
        ∀ (n B0 : Nat) (w0 : World) (m : Mp) (a : Act) (w : World) (ds : List Deferred) (Q : Exit → Act → World → Prop), Region.wanted o (yielded ops a.tmps) = false → Rel P B0 w0 m H w → LRel m T a.tmps.toList → a.defers = ds → (∀ m' a' w', After P B0 w0 m H w ds T' H' m' a' w' → Q .normal a' w') → wpOpsIn (FW r0) n P ops Q (List.range' i (o :: l).length) a w := by
      intro hh
      obtain ⟨T', H', h3, h4⟩ := evOps_sound hcall r0 ops l (i + 1) _ _ hl' hh
      refine ⟨T', H', h3, fun n B0 w0 m a w ds Q hw R0 hT hd hq => ?_⟩
      rw [List.length_cons, List.range'_succ]
      simp only [wpOpsIn, ho]
      rw [if_neg (by simp [hw])]
      exact ⟨fun _ _ => trivial, h4 n B0 w0 m _ w ds Q R0 (put_rel hT _ (VRel.undef _)) (by rw [put_defers]; exact hd) hq⟩
    unfold evOps at h
    cases hg : o.guard with
    | none =>
      rw [hg] at h
      obtain ⟨T', H', h3, h4⟩ := done h
      exact ⟨T', H', h3, fun n B0 w0 m a w ds Q R0 hT hd hq => h4 n B0 w0 m a w ds Q (by unfold Region.wanted; rw [hg]) R0 hT hd hq⟩
    | some p =>
      obtain ⟨j, want⟩ := p
      rw [hg] at h
      obtain ⟨p, hp, h⟩ := bind_some h
      rcases gOp_inv hp with ⟨hu, h5⟩ | ⟨hu, rfl⟩
      · obtain ⟨T', H', h3, h4⟩ := done (by rw [opY_res, h5]; exact h)
        exact ⟨T', H', h3, fun n B0 w0 m a w ds Q R0 hT hd hq => h4 n B0 w0 m a w ds Q (by rw [wanted_of hg ((yield_rel hT j).1 _ hu)]; simp) R0 hT hd hq⟩
      · obtain ⟨T', H', h3, h4⟩ := skipped h
        refine ⟨T', H', h3, fun n B0 w0 m a w ds Q R0 hT hd hq => h4 n B0 w0 m a w ds Q ?_ R0 hT hd hq⟩
        rcases hu with ⟨b, hu, hb⟩ | ⟨vs, hu, _⟩
        · rw [wanted_of hg ((yield_rel hT j).1 _ hu)]; simp [hb]
        · rw [wanted_of hg ((yield_rel hT j).2 _ hu)]; rfl

theorem maskT_rel {m : Mp} (keep : List Nat) : ∀ (T Ts : List Value) (i : Nat), LRel m T Ts → LRel m (maskT keep i T) Ts
  | [], Ts, i, h => h
  | x :: T, Ts, i, h => by
    obtain ⟨y, zs, rfl, hv, hr⟩ := h.cons_inv
    unfold maskT
    refine LRel.cons ?_ (maskT_rel keep T zs (i + 1) hr)
    cases keep.contains i
    · exact .unk _
    · exact hv
theorem cutT_rel {m : Mp} (tb : Tbl) (k : Nat) {T Ts : List Value} (h : LRel m T Ts) : LRel m (cutT tb k T) Ts := by
  unfold cutT
  split
  · exact maskT_rel _ _ _ _ h
  · exact h
theorem CodeSim.trans_cut {r : Option Nat} {c d : Code} {T T1 T1' T2 : List Value} {H H1 H2 : AH} {e : EX} (hcut : ∀ (m : Mp) (Ts : List Value), LRel m T1 Ts → LRel m T1' Ts) (h : CodeSim P r c T H .normal T1 H1) (k : CodeSim P r d T1' H1 e T2 H2) : CodeSim P r (.seq c d) T H e T2 H2 := by
  intro n Bf B0 w0 m a w Q R0 hT hd hB hq
  apply wpIn_seq
  refine h n Bf B0 w0 m a w _ R0 hT hd hB fun m1 a1 w1 A => ?_
  refine k n Bf B0 w0 m1 a1 w1 Q A.rel (hcut _ _ A.tmps) A.marks (Nat.le_trans hB A.ext.size) fun m2 a2 w2 A2 => hq m2 a2 w2 (AfterM.trans R0 A.ext A2)
/-- A region that draws its order. -/
def DrawSim (P : Program) (ops : Array Oper) (T : List Value) (H : AH) (T' : List Value) (H' : AH) : Prop :=
  ∀ (B0 : Nat) (w0 : World) (m : Mp) (a : Act) (w : World) (ds : List Deferred) (Q : Exit → Act → World → Prop), Rel P B0 w0 m H w → LRel m T a.tmps.toList → a.defers = ds → (∀ m' a' w', After P B0 w0 m H w ds T' H' m' a' w' → Q .normal a' w') →
    wpAny P .any ops Q ops.size (Array.replicate ops.size false) a w
def DrawOK (P : Program) (call : CallF) : Prop :=
  ∀ (ops : Array Oper), regOK ops = true → ∀ (R : Type) (T : List Value) (H : AH) (K : List Value → AH → Option R) (r : R), evD P call ops (befL [] ops.toList) ops.toList 0 T H [] [] K = some r → ∃ T' H', K T' H' = some r ∧ DrawSim P ops T H T' H'
theorem noDef_at {ops : Array Oper} (h : noDef ops = true) (i : Nat) (o : Oper) (ho : ops[i]? = some o) : isDef o.op = false := by
  unfold noDef at h
  have := List.all_eq_true.1 h o (by have := List.mem_of_getElem? (l := ops.toList) (i := i) (a := o) (by simpa using ho); exact this)
  simpa using this
theorem noGoto_mono {Q : Exit → Act → World → Prop} {e : EX} {a : Act} {w : World} (h : Q (exOf e) a w) : Exit.noGoto Q (exOf e) a w := by cases e <;> exact h
theorem getSt_inv {H : AH} {b c : Nat} (h : getSt H b = some c) : ∃ k f key x T, blk H b = some k ∧ k.kind = .loop f key ∧ k.cells = .int .i64 x :: T ∧ c = x.toNat := by
  unfold getSt at h
  obtain ⟨k, h1, h2⟩ := bind_some h
  split at h2
  · rename_i f key x T e1 e2
    cases h2
    exact ⟨k, f, key, x, T, h1, e1, e2, rfl⟩
  · cases h2
theorem setSt_inv {H H' : AH} {b c d : Nat} (h : setSt H b c d = some H') : ∃ k f key T, blk H b = some k ∧ k.kind = .loop f key ∧ k.cells = .int .i64 (c : Int) :: T ∧ H' = put H b k (.int .i64 (d : Int) :: T) := by
  unfold setSt at h
  obtain ⟨k, h1, h2⟩ := bind_some h
  split at h2
  · rename_i f key x T e1 e2
    split at h2
    · rename_i hx
      subst hx
      cases h2
      exact ⟨k, f, key, T, h1, e1, e2, rfl⟩
    · cases h2
  · cases h2
/-- The record's state is turned. -/
theorem Rel.setSt {B0 : Nat} {w0 : World} {m : Mp} {H : AH} {w : World} (R0 : Rel P B0 w0 m H w) {b c d : Nat} {L : Loc} {H' : AH} (hm : m b = some L) (h : AM.setSt H b c d = some H') :
    ∃ rc : Loop, w.heap[L.blk]? = some (.loop rc) ∧ StOK c rc.state rc.pending ∧ ∀ st pe, StOK d st pe → Rel P B0 w0 m H' (w.putObj L.blk (.loop { rc with state := st, pending := pe })) ∧ Ext m H w m H' (w.putObj L.blk (.loop { rc with state := st, pending := pe })) := by
  obtain ⟨k, f, key, T, h1, h2, h3, rfl⟩ := setSt_inv h
  have hB := R0.blks b L k hm h1
  obtain ⟨rc, hw, hr, c', T', e1, e2, e3⟩ := hB.lp f key h2
  rw [h3] at e1
  injection e1 with e4 e5
  injection e4 with _ e6
  have e6 : c = c' := by omega
  subst e6 e5
  have hlt : L.blk < w.heap.size := (R0.dom b L hm).2
  refine ⟨rc, hw, e3, fun st pe hst => ?_⟩
  exact R0.turn hm h1 (by rw [h2]; simp) _ _ ⟨hB.kind, fun hx => (by rw [h2] at hx; cases hx), fun hx => (by rw [h2] at hx; cases hx), fun f' key' hx => by
    rw [h2] at hx
    cases hx
    exact ⟨_, World.putObj_heap_same hlt, hr, d, T, rfl, e2, hst⟩, hB.own, fun hx => (by rw [h2] at hx; cases hx)⟩
def jumpOf : EX → Option Code
  | .normal => none
  | .ret => some .ret
  | .exit i => some (.exit i)
def RangesAt (P : Program) (f : FuncId) (c : Code) : Prop := ∀ x ∈ rgs c, rangeAt P f (firstId x.2.2) = some x
theorem evalK_sound (hcall : CallOK P call) (hdraw : DrawOK P call) (hmix : P.follows .mixedOrders = true) (n0 : Nat) (tb : Tbl) (rr : Option Nat) : ∀ (c : Code), (rr = none ∨ rgs c = []) → RangesAt P (fidOf tb) c → ∀ {R : Type} (T : List Value) (H : AH) (K : EX → List Value → AH → Option R) (r : R),
    evalK P call n0 tb c T H K = some r → ∃ e T' H', K e T' H' = some r ∧ CodeSim P rr c T H e T' H' := by
  intro c
  induction c with
  | skip =>
    intro _ _ R T H K r h
    exact ⟨.normal, T, H, h, fun n Bf B0 w0 m a w Q R0 hT hd hB hq => wpIn_skip (hq m a w (AfterM.start R0 hT hd))⟩
  | region id ops draw =>
    intro _ _ R T H K r h
    simp only [evalK] at h
    cases draw with
    | true =>
      simp only [cond_true] at h
      cases hr : regOK ops && noDef ops with
      | false => rw [hr] at h; cases h
      | true =>
        rw [hr] at h
        rw [Bool.and_eq_true] at hr
        obtain ⟨T', H', h1, h2⟩ := hdraw ops hr.1 R T H _ r h
        refine ⟨.normal, T', H', h1, fun n Bf B0 w0 m a w Q R0 hT hd hB hq => wpIn_region_any hmix ?_⟩
        have h3 := h2 B0 w0 m a w.drew a.defers (fun e a' w' => e = .normal ∧ Q .normal a' w') R0.drew hT rfl fun m' a' w' A => ⟨rfl, hq m' a' w' (After.m R0 hd ⟨Ext.trans (fun b L hb => (R0.dom b L hb).1) (Ext.refl m H w).drew A.ext, A.rel, A.tmps, A.defers⟩)⟩
        have h4 := any_in (r := rr) (n := n) (fun i o ho => noDef_at hr.2 i o ho) (fun hl => by obtain ⟨_, _, hx, _⟩ := hl; cases hx) _ _ _ _ h3
        exact wpAnyIn_monoQ (fun e a w hx => by obtain ⟨rfl, hx⟩ := hx; exact hx) _ _ _ _ h4
    | false =>
      simp only [cond_false] at h
      obtain ⟨T', H', h1, h2⟩ := evOps_sound hcall rr ops ops.toList 0 T H (fun j => by simp) h
      refine ⟨.normal, T', H', h1, fun n Bf B0 w0 m a w Q R0 hT hd hB hq => wpIn_region ?_⟩
      have := h2 n B0 w0 m a w a.defers Q R0 hT rfl fun m' a' w' A => hq m' a' w' (After.m R0 hd A)
      rwa [Array.length_toList, ← List.range_eq_range'] at this
  | seq x y ihx ihy =>
    intro hrr hrg R T H K r h
    have hx1 : rr = none ∨ rgs x = [] := hrr.imp id fun hh => (List.append_eq_nil_iff.1 hh).1
    have hy1 : rr = none ∨ rgs y = [] := hrr.imp id fun hh => (List.append_eq_nil_iff.1 hh).2
    have hx2 : RangesAt P (fidOf tb) x := fun z hz => hrg z (List.mem_append.2 (.inl hz))
    have hy2 : RangesAt P (fidOf tb) y := fun z hz => hrg z (List.mem_append.2 (.inr hz))
    simp only [evalK] at h
    obtain ⟨e, T1, H1, h1, h2⟩ := ihx hx1 hx2 T H _ r h
    cases e with
    | normal =>
      obtain ⟨e2, T2, H2, h3, h4⟩ := ihy hy1 hy2 _ _ _ r h1
      exact ⟨e2, T2, H2, h3, CodeSim.trans_cut (fun m Ts hh => cutT_rel tb _ hh) h2 h4⟩
    | exit id => exact ⟨.exit id, T1, H1, h1, fun n Bf B0 w0 m a w Q R0 hT hd hB hq => wpIn_seq (h2 n Bf B0 w0 m a w _ R0 hT hd hB fun m1 a1 w1 A => hq m1 a1 w1 A)⟩
    | ret => exact ⟨.ret, T1, H1, h1, fun n Bf B0 w0 m a w Q R0 hT hd hB hq => wpIn_seq (h2 n Bf B0 w0 m a w _ R0 hT hd hB fun m1 a1 w1 A => hq m1 a1 w1 A)⟩
  | cond c x y ihx ihy =>
    intro hrr hrg R T H K r h
    have hx1 : rr = none ∨ rgs x = [] := hrr.imp id fun hh => (List.append_eq_nil_iff.1 hh).1
    have hy1 : rr = none ∨ rgs y = [] := hrr.imp id fun hh => (List.append_eq_nil_iff.1 hh).2
    have hx2 : RangesAt P (fidOf tb) x := fun z hz => hrg z (List.mem_append.2 (.inl hz))
    have hy2 : RangesAt P (fidOf tb) y := fun z hz => hrg z (List.mem_append.2 (.inr hz))
    simp only [evalK] at h
    obtain ⟨b, hb, hr⟩ := aIf_inv h
    cases b with
    | true =>
      obtain ⟨e, T1, H1, h1, h2⟩ := ihx hx1 hx2 T H K r hr
      refine ⟨e, T1, H1, h1, fun n Bf B0 w0 m a w Q R0 hT hd hB hq => wpIn_cond_true ?_ (h2 n Bf B0 w0 m a w Q R0 hT hd hB hq)⟩
      have := opv_rel hT c
      rw [hb] at this
      exact this.bool_inv
    | false =>
      obtain ⟨e, T1, H1, h1, h2⟩ := ihy hy1 hy2 T H K r hr
      refine ⟨e, T1, H1, h1, fun n Bf B0 w0 m a w Q R0 hT hd hB hq => wpIn_cond_false ?_ (h2 n Bf B0 w0 m a w Q R0 hT hd hB hq)⟩
      have := opv_rel hT c
      rw [hb] at this
      exact this.bool_inv
  | block id b ih =>
    intro hrr hrg R T H K r h
    simp only [evalK] at h
    obtain ⟨e, T1, H1, h1, h2⟩ := ih hrr hrg T H _ r h
    cases e with
    | normal => exact ⟨.normal, T1, H1, h1, fun n Bf B0 w0 m a w Q R0 hT hd hB hq => wpIn_block (h2 n Bf B0 w0 m a w _ R0 hT hd hB fun m1 a1 w1 A => hq m1 a1 w1 A)⟩
    | ret => exact ⟨.ret, T1, H1, h1, fun n Bf B0 w0 m a w Q R0 hT hd hB hq => wpIn_block (h2 n Bf B0 w0 m a w _ R0 hT hd hB fun m1 a1 w1 A => hq m1 a1 w1 A)⟩
    | exit i =>
      by_cases hi : i = id
      · subst hi
        refine ⟨.normal, T1, H1, by simpa [kBlock] using h1, fun n Bf B0 w0 m a w Q R0 hT hd hB hq => wpIn_block (h2 n Bf B0 w0 m a w _ R0 hT hd hB fun m1 a1 w1 A => ?_)⟩
        show (if i = i then Q .normal a1 w1 else Q (.exit i) a1 w1)
        rw [if_pos rfl]
        exact hq m1 a1 w1 A
      · have hi' : (i == id) = false := by simpa using hi
        refine ⟨.exit i, T1, H1, by simpa [kBlock, hi'] using h1, fun n Bf B0 w0 m a w Q R0 hT hd hB hq => wpIn_block (h2 n Bf B0 w0 m a w _ R0 hT hd hB fun m1 a1 w1 A => ?_)⟩
        show (if i = id then Q .normal a1 w1 else Q (.exit i) a1 w1)
        rw [if_neg hi]
        exact hq m1 a1 w1 A
  | loop b ih =>
    intro hrr hrg R T H K r h
    simp only [evalK] at h
    obtain ⟨⟨e, T', H'⟩, h1, h2⟩ := bind_some h
    refine ⟨e, T', H', h2, ?_⟩
    have key : ∀ (k : Nat) (T : List Value) (H : AH), iterD (fun T H K => evalK P call n0 tb b T H K) (cutT tb (3 * firstId b + 1)) (cutT tb (3 * firstId b + 2)) k T H = some (e, T', H') →
        ∀ (n Bf B0 : Nat) (w0 : World) (m : Mp) (a : Act) (w : World) (Q : Exit → Act → World → Prop), Rel P B0 w0 m H w → LRel m T a.tmps.toList → Marks Bf a.defers m H w → Bf ≤ w.heap.size → (∀ m' a' w', AfterM P Bf B0 w0 m H w T' H' m' a' w' → Q (exOf e) a' w') → Code.roundsIn (FW rr) n P b Q k a w := by
      intro k
      induction k with
      | zero => intro T H hh; cases hh
      | succ k ihk =>
        intro T H hh
        simp only [iterD] at hh
        obtain ⟨e1, T1, H1, h3, h4⟩ := ih hrr hrg (R := Out) _ _ _ _ hh
        intro n Bf B0 w0 m a w Q R0 hT hd hB hq
        rw [roundsIn_succ]
        refine h4 n Bf B0 w0 m a w _ R0 hT hd hB fun m1 a1 w1 A => ?_
        cases e1 with
        | normal => exact ihk _ H1 h3 n Bf B0 w0 m1 a1 w1 Q A.rel (cutT_rel tb _ A.tmps) A.marks (Nat.le_trans hB A.ext.size) fun m2 a2 w2 A2 => hq m2 a2 w2 (AfterM.trans R0 A.ext A2)
        | exit id => cases h3; exact hq m1 a1 w1 ⟨A.ext, A.rel, cutT_rel tb _ A.tmps, A.marks⟩
        | ret => cases h3; exact hq m1 a1 w1 ⟨A.ext, A.rel, cutT_rel tb _ A.tmps, A.marks⟩
    exact fun n Bf B0 w0 m a w Q R0 hT hd hB hq => wpIn_loop_rounds _ (key n0 _ H h1 n Bf B0 w0 m a w Q R0 (cutT_rel tb _ hT) hd hB hq)
  | rangeFunc g ps assign body iha ihb =>
    intro hrr hrg R T H K r h
    have hrn : rr = none := hrr.resolve_right (by simp [rgs])
    subst hrn
    have hat := hrg (ps, assign, body) (by simp [rgs])
    simp only [evalK] at h
    obtain ⟨p, h1, h2⟩ := bind_some h
    unfold rgBack at h2
    obtain ⟨c, h3, h4⟩ := bind_some h2
    have hst : ∃ e, c = xSt e ∧ K e (cutT tb (3 * firstId body + 2) T) (kill p.2 H.length) = some r := by
      unfold stX at h4
      split at h4
      · exact ⟨.normal, rfl, h4⟩
      · cases h4
      · exact ⟨.ret, rfl, h4⟩
      · exact ⟨.exit _, rfl, h4⟩
    obtain ⟨e, rfl, h5⟩ := hst
    refine ⟨e, _, _, h5, ?_⟩
    clear h5 h4 h2 h
    unfold rgCall callV at h1
    split at h1
    · rename_i q first captured hf
      obtain ⟨hlt, h1⟩ := blt_inv h1
      obtain ⟨hen, hsim⟩ := hcall.1 _ _ _ _ _ hlt h1
      intro n Bf B0 w0 m a w Q R0 hT hd hB hq
      have hfr := opv_rel hT g
      rw [hf] at hfr
      have hsplit : ∃ a' b', a.eval g = .func (.func q) a' b' ∧ LRel m first.toList a'.toList ∧ LRel m captured.toList b'.toList := by
        generalize a.eval g = u at hfr
        cases hfr with
        | flat v hf => simp [flat1] at hf
        | func f a b a' b' h1 h2 h3 h4 => exact ⟨a', b', rfl, ⟨by simpa using h1, fun i x y hx hy => h2 i x y (by simpa using hx) (by simpa using hy)⟩, ⟨by simpa using h3, fun i x y hx hy => h4 i x y (by simpa using hx) (by simpa using hy)⟩⟩
      obtain ⟨a', b', he, hla, hlb⟩ := hsplit
      refine wpIn_rangeFunc fun fn _ => ?_
      obtain ⟨Ra, Ea⟩ := R0.allocSkip (.deferred (some []))
      obtain ⟨rc, hrc⟩ : ∃ rc : Loop, rc = { state := .ready, pending := none, fn, tmps := a.tmps, params := ps, assign, body, defers := w.heap.size } := ⟨_, rfl⟩
      obtain ⟨Rb, Eb⟩ := Ra.makeO (.int .i64 0 :: cutT tb (3 * firstId body + 1) T) (firstId body) (.loop (fidOf tb) (firstId body)) (.loop rc) ⟨(w.alloc (.deferred (some []))).heap.size, 0, .loop (fidOf tb) (firstId body), 0, 0⟩ rfl (fun m' hm' => ⟨rfl, fun hx => (by cases hx), fun hx => (by cases hx), fun f key hx => by
        cases hx
        exact ⟨rc, heap_alloc_new _ _, by rw [hrc]; exact hat, 0, _, rfl, by rw [hrc]; exact (cutT_rel tb _ hT).mono hm', by rw [hrc]; exact ⟨rfl, rfl⟩⟩, fun _ => by simp; have := R0.hB; omega, fun hx => (by cases hx)⟩)
      generalize hm1 : upd m H.length _ = m1 at Rb Eb
      have hmb : m1 H.length = some ⟨w.heap.size + 1, 0, .loop (fidOf tb) (firstId body), 0, 0⟩ := by rw [← hm1, World.size_alloc]; exact upd_same _ _ _
      have E1 := Ext.trans (fun b L hb => (R0.dom b L hb).1) Ea Eb
      have hK1 : ((w.alloc (.deferred (some []))).alloc (.loop rc)).heap[w.heap.size]? = some (.deferred (some [])) := (Below.heap_alloc _ _ _ (by simp)).trans (World.alloc_heap_new w _)
      have hM1 : Marks Bf (mark w.heap.size :: a.defers) m1 (mkB H (.int .i64 0 :: cutT tb (3 * firstId body + 1) T) (firstId body) (.loop (fidOf tb) (firstId body))) ((w.alloc (.deferred (some []))).alloc (.loop rc)) := by
        obtain ⟨Ds, d1, d2, d3⟩ := hd.ext R0 E1
        have hno : w.heap.size ∉ Ds := by
          intro hmem
          obtain ⟨Ds0, e1, e2, e3⟩ := hd
          have : Ds = Ds0 := by
            have := d1.symm.trans e1
            exact (List.map_inj_right (f := mark) (fun x y hxy => by simpa [mark] using hxy)).1 this
          subst this
          have := (Array.getElem?_eq_some_iff.1 (e3 _ hmem).2.1).1
          omega
        refine ⟨w.heap.size :: Ds, by rw [d1]; rfl, List.nodup_cons.2 ⟨hno, d2⟩, fun D hD => ?_⟩
        cases hD with
        | tail _ hD => exact d3 D hD
        | head =>
          refine ⟨hB, hK1, fun b L k hb hk hne => ?_⟩
          by_cases hbl : b = H.length
          · subst hbl
            rw [hmb] at hb
            cases hb
            show w.heap.size + 1 ≠ _
            omega
          · have : m b = some L := by
              rw [← hm1] at hb
              unfold upd at hb
              rwa [if_neg hbl] at hb
            have := (R0.dom b L this).2
            omega
      have hargs : LRel m1 (first.toList ++ ([Value.func (.yield H.length) #[] #[]] ++ captured.toList)) (a'.toList ++ ([Value.func (.yield (w.heap.size + 1)) #[] #[]] ++ b'.toList)) :=
        (hla.mono E1.mono).append ((LRel.cons (.yld _ _ hmb ⟨_, _, rfl⟩) (LRel.nil _)).append (hlb.mono E1.mono))
      have hcl := hsim B0 w0 m1 _ _ Rb hargs
      refine ⟨w.heap.size + 1, [mark w.heap.size], (w.alloc (.deferred (some []))).alloc (.loop rc), { target := .fn (.func q) b', args := a' ++ #[.func (.yield (w.heap.size + 1)) #[] #[]] }, (w.alloc (.deferred (some []))).alloc (.loop rc), q,
        (a'.toList ++ ([Value.func (.yield (w.heap.size + 1)) #[] #[]] ++ b'.toList)).toArray, (w.alloc (.deferred (some []))).alloc (.loop rc), ?_, ?_, fun _ _ => trivial, ?_, fun hx => by simp [FW, Fence.wide] at hx, ?_⟩
      · rw [hrc]; exact run_enterLoop_outer _ _ _ _ _
      · simp only [resolve, he]
        simp [go_sem]
      · have e2 : (a'.toList ++ ([Value.func (.yield (w.heap.size + 1)) #[] #[]] ++ b'.toList)).toArray = a' ++ #[Value.func (.yield (w.heap.size + 1)) #[] #[]] ++ b' := by
          apply Array.ext'
          simp
        rw [e2]
        simp [invoke, run_callFunc hen]
      · refine fw_calls (hcl.mono fun ee w3 hee => ?_)
        obtain ⟨m2, v', rfl, q1, q2, q3⟩ := hee
        obtain ⟨k, f, key, x, T3, g1, g2, g3, g4⟩ := getSt_inv h3
        have hm2 := q3.mono _ _ hmb
        have hBk := q2.blks _ _ _ hm2 g1
        obtain ⟨rc3, hw3, _, c3, T4, g5, _, g6⟩ := hBk.lp f key g2
        rw [g3] at g5
        injection g5 with g7 _
        injection g7 with _ g8
        have g9 : c3 = xSt e := by rw [g4]; omega
        subst g9
        have hnb : rc3.state ≠ .busy := by
          cases e <;> obtain ⟨z1, z2⟩ := g6 <;> rw [z1] <;> simp
        have hpe : rc3.pending = jumpOf e := by
          cases e <;> obtain ⟨z1, z2⟩ := g6 <;> exact z2
        obtain ⟨R4, E4⟩ := q2.killObj hm2 g1 (by rw [g2]; simp) (.loop { rc3 with state := .exhausted })
        have Eall := Ext.trans (fun b L hb => (R0.dom b L hb).1) E1 (Ext.trans (fun b L hb => (Rb.dom b L hb).1) q3 E4)
        have hfin := hq m2 { a with defers := mark w.heap.size :: a.defers } _ ⟨Eall, R4, (cutT_rel tb _ hT).mono Eall.mono, (hM1.ext Rb q3).ext q2 E4⟩
        refine ⟨rc3.pending, _, run_endLoop hw3 hnb, ?_⟩
        rw [hpe] at hfin ⊢
        cases e with
        | normal => exact hfin
        | ret => exact wpIn_ret hfin
        | exit i => exact wpIn_exit hfin
    · cases h1
  | exit id =>
    intro _ _ R T H K r h
    exact ⟨.exit id, T, H, h, fun n Bf B0 w0 m a w Q R0 hT hd hB hq => wpIn_exit (hq m a w (AfterM.start R0 hT hd))⟩
  | scope b ih =>
    intro hrr hrg R T H K r h
    simp only [evalK] at h
    obtain ⟨e, T1, H1, h1, h2⟩ := ih hrr hrg T H K r h
    exact ⟨e, T1, H1, h1, fun n Bf B0 w0 m a w Q R0 hT hd hB hq => wpIn_scope_straight (h2 n Bf B0 w0 m a w _ R0 hT hd hB fun m1 a1 w1 A => noGoto_mono (hq m1 a1 w1 A))⟩
  | label l =>
    intro _ _ R T H K r h
    exact ⟨.normal, T, H, h, fun n Bf B0 w0 m a w Q R0 hT hd hB hq => wpIn_label (hq m a w (AfterM.start R0 hT hd))⟩
  | goto l => intro _ _ R T H K r h; cases h
  | ret =>
    intro _ _ R T H K r h
    exact ⟨.ret, T, H, h, fun n Bf B0 w0 m a w Q R0 hT hd hB hq => wpIn_ret (hq m a w (AfterM.start R0 hT hd))⟩
  | refuse why => intro _ _ R T H K r h; cases h
theorem resOne_sound {B0 : Nat} {w0 : World} {m : Mp} {H : AH} {w : World} (R0 : Rel P B0 w0 m H w) {T : List Value} {a : Act} (hT : LRel m T a.tmps.toList) {rv : ResultVar} {v : Value} (h : resOne P T H rv = some v) :
    ∃ v', (match rv with | .tmp t => pure (a.tmps.getD t undef) | .cell x t => do loadVar t (← asAddr (a.tmps.getD x undef)) : Sem Value).run P w = .ok v' w ∧ VRel m v v' := by
  cases rv with
  | tmp t => cases h; exact ⟨_, rfl, opv_rel hT (.tmp t)⟩
  | cell x t =>
    have hx := opv_rel hT (.tmp x)
    obtain ⟨v', h1, h2⟩ := ld_sound R0 hx h
    refine ⟨v', ?_, h2⟩
    simp only [Act.eval] at h1
    have h3 : ∀ u : Value, (Instr.loadAt t u).run P w = .ok v' w → (do loadVar t (← asAddr u) : Sem Value).run P w = .ok v' w := by
      intro u hu
      cases u with
      | pointer ad =>
        cases ad with
        | some ad => simpa [Instr.loadAt, Instr.sureAddr, asAddr] using hu
        | none => simp [Instr.loadAt, Instr.sureAddr, stuck] at hu
      | _ => simp [Instr.loadAt, Instr.sureAddr, stuck] at hu
    exact h3 _ h1
theorem resAll_sound {B0 : Nat} {w0 : World} {m : Mp} {H : AH} {w : World} (R0 : Rel P B0 w0 m H w) {T : List Value} {a : Act} (hT : LRel m T a.tmps.toList) : ∀ (rs : List ResultVar) (vs : List Value), resAll P T H rs = some vs →
    ∃ vs', (rs.mapM fun | .tmp t => pure (a.tmps.getD t undef) | .cell x t => do loadVar t (← asAddr (a.tmps.getD x undef)) : Sem (List Value)).run P w = .ok vs' w ∧ LRel m vs vs'
  | [], vs, h => by cases h; exact ⟨[], by simp, LRel.nil m⟩
  | r :: rs, vs, h => by
    unfold resAll at h
    obtain ⟨v, h1, h⟩ := bind_some h
    obtain ⟨us, h2, h⟩ := bind_some h
    cases h
    obtain ⟨v', q1, q2⟩ := resOne_sound R0 hT h1
    obtain ⟨us', q3, q4⟩ := resAll_sound R0 hT rs us h2
    exact ⟨v' :: us', by rw [List.mapM_cons]; simp only [Sem.run_bind, q1, q3, Result.andThen_ok, Sem.run_pure], LRel.cons q2 q4⟩
theorem results_sound {B0 : Nat} {w0 : World} {m : Mp} {H : AH} {w : World} (R0 : Rel P B0 w0 m H w) {T : List Value} {a : Act} (hT : LRel m T a.tmps.toList) {fn : Func} {vs : List Value} (h : resAll P T H fn.results.toList = some vs) :
    ∃ v', (results fn a.tmps).run P w = .ok v' w ∧ VRel m (oneOf vs) v' := by
  obtain ⟨vs', h1, h2⟩ := resAll_sound R0 hT _ _ h
  refine ⟨oneOf vs', ?_, ?_⟩
  · unfold results
    rw [Array.mapM_eq_mapM_toList]
    simp only [Sem.run_bind, Sem.run_map, Sem.run_pure]
    refine (congrArg (fun s : Result (List Value) => (s.andThen fun a w' => .ok a.toArray w').andThen fun a w' => .ok (if h : a.size = 1 then a[0] else .tuple a) w') h1).trans ?_
    cases vs' with
    | nil => rfl
    | cons v rest =>
      cases rest with
      | nil => rfl
      | cons u rest => simp [oneOf]
  · cases vs with
    | nil => rw [h2.nil_inv]; exact VRel.undef m
    | cons v rest =>
      obtain ⟨v', zs, rfl, hv, hr⟩ := h2.cons_inv
      cases rest with
      | nil => rw [hr.nil_inv]; exact hv
      | cons u rest =>
        obtain ⟨u', zs', rfl, hu, hr'⟩ := hr.cons_inv
        have hl := LRel.cons hv (LRel.cons hu hr')
        exact .tuple _ _ (by simpa using hl.1) fun i x y hx hy => hl.2 i x y (by simpa using hx) (by simpa using hy)
theorem LRel.of_flat_undef {m : Mp} (n : Nat) : LRel m (List.replicate n undef) (List.replicate n undef) := by
  induction n with
  | zero => exact LRel.nil m
  | succ n ih => rw [List.replicate_succ]; exact LRel.cons (VRel.undef m) ih
def GivenOK (P : Program) (gv : Given) : Prop := ∀ f g, gv f = some g → ∀ args H v H', g args H = some (v, H') → Enterable P f ∧ SimCall P f args H v H'
def RangesOK (P : Program) (tbs : FuncId → Tbl) : Prop := ∀ f fn c, P.funcs[f]? = some fn → fn.body = some c → rgs c = [] ∨ (fidOf (tbs f) = f ∧ RangesAt P f c)
theorem RangesAt.nil {f : FuncId} {c : Code} (h : rgs c = []) : RangesAt P f c := fun x hx => by rw [h] at hx; cases hx
theorem leaves_marks {B0 : Nat} {w0 : World} {m : Mp} {H : AH} {fn : Func} {tmps : Array Value} {T : List Value} {vs : List Value} {n Bf : Nat} {R : Ending → World → Prop} (hres : resAll P T H fn.results.toList = some vs) (hT : LRel m T tmps.toList) :
    ∀ (Ds : List Nat) (w : World), Rel P B0 w0 m H w → B0 ≤ Bf → Ds.Nodup → (∀ D ∈ Ds, Bf ≤ D ∧ w.heap[D]? = some (.deferred (some [])) ∧ ∀ b L k, m b = some L → blk H b = some k → k.kind ≠ .ro → L.blk ≠ D) →
    (∀ (w' : World) (v' : Value), Rel P B0 w0 m H w' → VRel m (oneOf vs) v' → (∀ B, B < Bf → w'.heap[B]? = w.heap[B]?) → w'.heap.size = w.heap.size → R (.returned v') w') → LeavesInM (FW none) n P fn tmps R (Ds.map mark) .returning w
  | [], w, R0, hB, hn, hD, hq => by
    obtain ⟨v', h5, h6⟩ := results_sound (a := { tmps := tmps, defers := [] }) R0 hT hres
    exact ⟨v', h5, hq w v' R0 h6 (fun _ _ => rfl) rfl⟩
  | D :: Ds, w, R0, hB, hn, hD, hq => by
    obtain ⟨d1, d2, d3⟩ := hD D (by simp)
    obtain ⟨n1, n2⟩ := List.nodup_cons.1 hn
    refine ⟨by simp, .inl ⟨D, w.putObj D (.deferred none), rfl, run_takeDeferred d2, ?_⟩⟩
    have hfree : ∀ b L k, m b = some L → blk H b = some k → L.blk ≠ D := by
      intro b L k hb hk hx
      by_cases hro : k.kind = .ro
      · obtain ⟨c, e, fr, hw, _⟩ := (R0.blks b L k hb hk).there (by rw [hro]; rfl)
        rw [hx, d2] at hw
        cases hw
      · exact d3 b L k hb hk hro hx
    refine leaves_marks hres hT Ds _ (R0.putFree _ (Nat.le_trans hB d1) hfree) hB n2 (fun D' hD' => ?_) (fun w' v' R' hv hw hs => hq w' v' R' hv (fun B hBf => (hw B hBf).trans (World.putObj_heap_other (by omega))) (by rw [hs]; simp))
    obtain ⟨e1, e2, e3⟩ := hD D' (by simp [hD'])
    exact ⟨e1, (World.putObj_heap_other (by rintro rfl; exact n1 hD')).trans e2, e3⟩
theorem runFn_sound (hcall : CallOK P call) (hdraw : DrawOK P call) (hmix : P.follows .mixedOrders = true) {n : Nat} {tb : Tbl} {f : FuncId} {fn : Func} (hf : P.funcs[f]? = some fn) (hrg : ∀ c, fn.body = some c → RangesAt P (fidOf tb) c) {args : List Value} {H : AH} {v : Value} {H' : AH}
    (h : runFn P call n tb fn args H = some (v, H')) : Enterable P f ∧ SimCall P f args H v H' := by
  unfold runFn at h
  cases hb : fn.body.isSome && fn.name != "runtime.NumGoroutine" with
  | false => rw [hb] at h; cases h
  | true =>
    rw [hb] at h
    simp only [cond_true] at h
    rw [Bool.and_eq_true] at hb
    obtain ⟨hb1, hb2⟩ := hb
    refine ⟨⟨fn, hf, by simpa using hb2, hb1⟩, ?_⟩
    obtain ⟨c, hc⟩ := Option.isSome_iff_exists.1 hb1
    have hbody : bodyOf fn = c := by simp [bodyOf, hc]
    rw [hbody] at h
    obtain ⟨e, T', H1, h1, h2⟩ := evalK_sound hcall hdraw hmix n tb none c (.inl rfl) (hrg c hc) _ _ _ _ h
    have hres : ∃ vs, resAll P T' H1 fn.results.toList = some vs ∧ oneOf vs = v ∧ H1 = H' := by
      cases e with
      | exit i => cases h1
      | normal => obtain ⟨vs, h3, h4⟩ := bind_some h1; cases h4; exact ⟨vs, h3, rfl, rfl⟩
      | ret => obtain ⟨vs, h3, h4⟩ := bind_some h1; cases h4; exact ⟨vs, h3, rfl, rfl⟩
    obtain ⟨vs, h3, h4, rfl⟩ := hres
    intro B0 w0 m w args' R0 hargs
    refine (callsIn_wide (n := 0)).1 (callsIn_of_wp_marks (F := FW none) hf hc trivial (h2 0 w.heap.size B0 w0 m _ w _ R0 ?_ (Marks.nil _ _ _ _) (Nat.le_refl _) fun m' a' w' A => ?_))
    · have hl : args'.toArray.size = args.length := by simp [hargs.1]
      simp only [Array.toList_append, Array.toList_replicate, args0]
      refine hargs.append ?_
      rw [hl]
      exact LRel.of_flat_undef _
    · obtain ⟨Ds, d1, d2, d3⟩ := A.marks
      have hpost : LeavesInM (FW none) 0 P fn a'.tmps (fun e w' => ∃ m' v', e = .returned v' ∧ VRel m' v v' ∧ Rel P B0 w0 m' H1 w' ∧ Ext m H w m' H1 w') a'.defers .returning w' := by
        rw [d1]
        refine leaves_marks (Bf := w.heap.size) h3 A.tmps Ds w' A.rel R0.hB d2 d3 fun w2 v' R2 hv hw hs => ⟨m', v', rfl, by rw [← h4]; exact hv, R2, ?_⟩
        exact ⟨A.ext.mono, A.ext.len, by rw [hs]; exact A.ext.size, A.ext.alive, A.ext.new, fun B hB hr => (hw B hB).trans (A.ext.frame B hB hr)⟩
      cases e with
      | exit i => cases h1
      | normal => exact hpost
      | ret => exact hpost
theorem putAll_rel {m : Mp} : ∀ (ps : List Tmp) (vs us T Ts : List Value), LRel m vs us → LRel m T Ts → LRel m (putAll ps vs T) ((ps.zip us).foldl (fun T (t, a) => T.set t a) Ts)
  | [], vs, us, T, Ts, hv, hT => by simpa [putAll] using hT
  | p :: ps, [], us, T, Ts, hv, hT => by rw [hv.nil_inv]; simpa [putAll] using hT
  | p :: ps, v :: vs, us, T, Ts, hv, hT => by
    obtain ⟨u, zs, rfl, h1, h2⟩ := hv.cons_inv
    exact putAll_rel ps vs zs _ _ h2 (hT.set p h1)
theorem runY_sound (hcall : CallOK P call) (hdraw : DrawOK P call) (hmix : P.follows .mixedOrders = true) {n0 : Nat} {tbs : FuncId → Tbl} {b : Nat} {args : List Value} {H : AH} {v : Value} {H' : AH}
    (h : runY P call n0 tbs b args H = some (v, H')) : SimYield P b args H v H' := by
  unfold runY at h
  obtain ⟨k, h1, h2⟩ := bind_some h
  split at h2
  · rename_i f key x T hk hc
    obtain ⟨rg, h3, h4⟩ := bind_some h2
    cases hb : args.length == rg.1.size && ((rgs rg.2.1).isEmpty && (rgs rg.2.2).isEmpty) with
    | false => rw [hb] at h4; cases h4
    | true =>
      rw [hb] at h4
      rw [Bool.and_eq_true, Bool.and_eq_true] at hb
      obtain ⟨hb1, hb2, hb3⟩ := hb
      simp only [List.isEmpty_iff] at hb2 hb3
      simp only [cond_true] at h4
      intro n B0 w0 m w args' L R0 hargs hm hLk
      have hB := R0.blks b L k hm h1
      obtain ⟨rc, hw, hr, c, T', e1, e2, e3⟩ := hB.lp f key hk
      rw [hr] at h3
      cases h3
      rw [hc] at e1
      injection e1 with _ e4
      subst e4
      have hsz : args'.toArray.size = rc.params.size := by
        have : args.length = rc.params.size := by simpa using hb1
        rw [← this, hargs.1]
        simp
      refine ⟨rc.fn, _, rc.assign, rc.body, run_yield hw hsz, ?_⟩
      refine roundIn_of_wpIn (F := FW none) trivial ?_
      show rc.assign.wpIn (FW (some L.blk)) n P _ _ w
      unfold roundY at h4
      obtain ⟨ea, Ta, Ha, h5, h6⟩ := evalK_sound hcall hdraw hmix n0 (tbs f) (some L.blk) rc.assign (.inr hb2) (RangesAt.nil hb2) _ _ _ _ h4
      cases ea with
      | exit i => cases h5
      | ret => cases h5
      | normal =>
        obtain ⟨Hs, h7, h8⟩ := bind_some h5
        refine h6 n w.heap.size B0 w0 m _ w _ R0 ?_ (Marks.nil _ _ _ _) (Nat.le_refl _) fun m1 a1 w1 A => ?_
        · have := putAll_rel rc.params.toList args args' T rc.tmps.toList hargs e2
          have e5 : ((rc.params.zip args'.toArray).foldl (fun tmps (t, a) => tmps.setIfInBounds t a) rc.tmps).toList = (rc.params.toList.zip args').foldl (fun T (t, a) => T.set t a) rc.tmps.toList := by
            have e6 : ∀ (l : List (Tmp × Value)) (ts : Array Value), (l.foldl (fun tmps (t, a) => tmps.setIfInBounds t a) ts).toList = l.foldl (fun T (t, a) => T.set t a) ts.toList := by
              intro l
              induction l with
              | nil => intro ts; rfl
              | cons q l ih => intro ts; simp only [List.foldl_cons]; rw [ih]; simp
            rw [← e6, ← Array.foldl_toList]
            simp
          rw [e5]
          exact this
        · show ∃ w₂, (Instr.beginRound L.blk).run P w1 = .ok () w₂ ∧ rc.body.wpIn (FW (some L.blk)) n P (roundPost P L.blk _) a1 w₂
          have hm1 := A.ext.mono _ _ hm
          obtain ⟨rc1, hw1, hst1, hturn1⟩ := A.rel.setSt hm1 h7
          obtain ⟨R2, E2⟩ := hturn1 .busy rc1.pending rfl
          refine ⟨_, run_beginRound hw1 hst1.1, ?_⟩
          obtain ⟨eb, Tb, Hb, h9, h10⟩ := evalK_sound hcall hdraw hmix n0 (tbs f) (some L.blk) rc.body (.inr hb3) (RangesAt.nil hb3) _ _ _ _ h8
          refine h10 n w.heap.size B0 w0 m1 a1 _ _ R2 A.tmps (A.marks.ext A.rel E2) (Nat.le_trans A.ext.size E2.size) fun m3 a3 w3 A3 => ?_
          obtain ⟨Hf, h11, h12⟩ := bind_some h9
          obtain ⟨rfl, rfl⟩ : Value.bool (xB eb) = v ∧ Hf = H' := by cases h12; exact ⟨rfl, rfl⟩
          have hm3 := A3.ext.mono _ _ hm1
          obtain ⟨rc3, hw3, hst3, hturn3⟩ := A3.rel.setSt hm3 h11
          have fin : ∀ (jump : Option Code), StOK (xSt eb) (if jump.isNone then .ready else .done) jump → jump.isNone = xB eb → ∃ v w', (Instr.endRound L.blk jump).run P w3 = .ok v w' ∧ ∃ m' v', Ending.returned v = .returned v' ∧ VRel m' (.bool (xB eb)) v' ∧ Rel P B0 w0 m' Hf w' ∧ Ext m H w m' Hf w' := by
            intro jump hj hn
            obtain ⟨R4, E4⟩ := hturn3 _ _ hj
            refine ⟨_, _, run_endRound jump hw3, m3, _, rfl, by rw [hn]; exact .flat _ rfl, R4, ?_⟩
            exact Ext.trans (fun b L hb => (R0.dom b L hb).1) A.ext (Ext.trans (fun b L hb => (A.rel.dom b L hb).1) E2 (Ext.trans (fun b L hb => (R2.dom b L hb).1) A3.ext E4))
          cases eb with
          | normal => exact fin none ⟨rfl, rfl⟩ rfl
          | ret => exact fin (some .ret) ⟨rfl, rfl⟩ rfl
          | exit i => exact fin (some (.exit i)) ⟨rfl, rfl⟩ rfl
  · cases h2
theorem run_sound (hdraw : ∀ call, CallOK P call → DrawOK P call) (hmix : P.follows .mixedOrders = true) {tbs : FuncId → Tbl} (hrg : RangesOK P tbs) {gv : Given} (hgv : GivenOK P gv) : ∀ k, CallOK P (run P tbs gv k)
  | 0 => ⟨fun f args H v H' _ h => (by cases h), fun b args H v H' h => (by cases h)⟩
  | k + 1 => by
    have ih := run_sound (tbs := tbs) hdraw hmix hrg hgv k
    constructor
    · intro f args H v H' hf h
      unfold run at h
      have hb : Nat.ble yOff f = false := by
        cases hb : Nat.ble yOff f with
        | false => rfl
        | true => have := Nat.le_of_ble_eq_true hb; omega
      rw [hb] at h
      simp only [cond_false] at h
      split at h
      · rename_i g hg
        exact hgv f g hg args H v H' h
      · obtain ⟨fn, h1, h2⟩ := bind_some h
        refine runFn_sound ih (hdraw _ ih) hmix h1 (fun c hc => ?_) h2
        rcases hrg f fn c h1 hc with h3 | ⟨h3, h4⟩
        · exact RangesAt.nil h3
        · rw [h3]; exact h4
    · intro b args H v H' h
      unfold run at h
      have hb : Nat.ble yOff (yOff + b) = true := Nat.ble_eq_true_of_le (Nat.le_add_right _ _)
      rw [hb] at h
      simp only [cond_true, Nat.add_sub_cancel_left] at h
      exact runY_sound ih (hdraw _ ih) hmix h
end
end Go.AM
set_option linter.unusedVariables false
set_option linter.unusedSimpArgs false
namespace Go.AM
open Go.RowKit

section
variable {P : Program} {call : CallF}

theorem aCall_congr {R : Type} {ρ ρ' : Operand → Value} (c : Call) (h : ∀ x ∈ c.operands, ρ x = ρ' x) (H : AH) (K : Value → AH → Option R) : aCall P call ρ c H K = aCall P call ρ' c H K := by
  have h1 : ∀ x ∈ c.args.toList, ρ x = ρ' x := fun x hx => h x (by unfold Call.operands; exact Array.mem_append.2 (.inr (by simpa using hx)))
  have hargs : c.args.toList.map ρ = c.args.toList.map ρ' := List.map_congr_left h1
  unfold aCall
  split
  · rename_i f hc
    have hf : ρ f = ρ' f := h f (by unfold Call.operands; rw [hc]; simp)
    rw [hf, hargs]
  · split
    · rename_i t u s x ht ha
      rw [h1 s (by rw [ha]; simp), h1 x (by rw [ha]; simp)]
    · rfl
  · split
    · rename_i t u s x ht ha
      rw [h1 s (by rw [ha]; simp), h1 x (by rw [ha]; simp)]
    · rfl
  · split
    · rename_i t x ht ha
      rw [h1 x (by rw [ha]; simp)]
    · rfl
  · split
    · rename_i t x ht ha
      rw [h1 x (by rw [ha]; simp)]
    · rfl
  · rw [hargs]
  · rw [hargs]
  · split
    · rename_i x ha
      rw [h1 x (by rw [ha]; simp)]
    · rfl
  · split
    · rename_i t u s x ht ha
      rw [h1 s (by rw [ha]; simp), h1 x (by rw [ha]; simp)]
    · rfl
  · rfl
theorem aRes_congr {ρ ρ' : Operand → Value} (op : Op) (h : ∀ x ∈ op.operands, ρ x = ρ' x) (H : AH) : aRes P call ρ op H = aRes P call ρ' op H := by
  have pairs : ∀ ps : Array (Nat × Operand), (∀ x ∈ ps.map (·.2), ρ x = ρ' x) → (ps.toList.map fun p => (p.1, ρ p.2)) = (ps.toList.map fun p => (p.1, ρ' p.2)) := fun ps hp =>
    List.map_congr_left fun p hm => by rw [hp p.2 (Array.mem_map.2 ⟨p, by simpa using hm, rfl⟩)]
  unfold aRes
  cases op <;> simp only [Op.operands] at h <;> simp only [aOp]
  case build t ps => rw [pairs ps fun x hx => h x (by simpa using hx)]
  case buildSlice t n ps => rw [pairs ps fun x hx => h x (by simpa using hx)]
  case makeFunc fn first captured =>
    cases fn <;> simp only [aOp]
    rw [List.map_congr_left (l := first.toList) fun x hx => h x (by simp at hx; simp [hx]), List.map_congr_left (l := captured.toList) fun x hx => h x (by simp at hx; simp [hx])]
  case makeMap t r => cases r <;> simp [aOp]
  case call c => exact aCall_congr c h H _
  case slice t x lo hi mx =>
    cases mx with
    | some mx => cases lo <;> cases hi <;> simp_all [aOp]
    | none => cases lo <;> cases hi <;> simp_all [aOp]
  all_goals (first | rfl | (simp_all; done))
theorem opRead_congr {ρ ρ' : Operand → Value} (op : Op) (h : ∀ x ∈ op.operands, ρ x = ρ' x) : opRead P ρ op = opRead P ρ' op := by
  cases op <;> simp only [Op.operands] at h <;> simp only [opRead]
  case load t x => rw [h x (by simp)]
  case convert s d x => rw [h x (by simp)]
  case lookup t m k two => rw [h m (by simp), h k (by simp)]
  case call c =>
    obtain ⟨callee, args, ts⟩ := c
    cases callee with
    | builtin b =>
      cases b <;> simp only [opRead]
      split
      · rename_i t x ht ha
        rw [h x (by have : x ∈ args.toList := by rw [ha]; simp
                    simp [Call.operands]; simpa using this)]
      · rfl
    | _ => simp only [opRead]
/-- What reads, reads the same where the blocks are the same. -/
theorem ld_keep {t : TypeId} {H X : AH} {a v : Value} (hk : ∀ b k, blk H b = some k → blk X b = some k) (h : ld P t H a = some v) : ld P t X a = some v := by
  unfold ld at h ⊢
  split at h
  · unfold ldA at h ⊢
    split at h
    · obtain ⟨k, h1, h2⟩ := bind_some h
      simp only [hk _ _ h1, Option.bind_some]
      exact h2
    · cases h
  · unfold ldC at h ⊢
    split at h
    · obtain ⟨k, h1, h2⟩ := bind_some h
      simp only [hk _ _ h1, Option.bind_some]
      exact h2
    · cases h
  · cases h
theorem sliceCells_keep {sz n : Nat} {H X : AH} {x : Value} {cs : List Value} (hk : ∀ b k, blk H b = some k → blk X b = some k) (h1 : sliceCells sz H x n = some cs) : sliceCells sz X x n = some cs := by
  unfold sliceCells at h1 ⊢
  split at h1
  · exact h1
  · split at h1
    · rename_i hn0; simp only [hn0, if_true]; exact h1
    · split at h1
      · obtain ⟨k, h3, h4⟩ := bind_some h1
        rename_i hn0 hle
        simp only [hn0, hle, if_true, if_false, hk _ _ h3, Option.bind_some]
        exact h4
      · cases h1
  · exact h1
  · cases h1
theorem cvS_keep {s d : TypeId} {H X : AH} {a v : Value} (hk : ∀ b k, blk H b = some k → blk X b = some k) (h : cvS P s d H a = some v) : cvS P s d X a = some v := by
  unfold cvS at h ⊢
  split at h
  · split at h
    · rename_i he
      obtain ⟨cs, h1, h2⟩ := bind_some h
      simp only [he, sliceCells_keep hk h1, Option.bind_some]
      exact h2
    · cases h
  · cases h
theorem mapCells_keep {H X : AH} {x : Value} {cs : List Value} (hk : ∀ b k, blk H b = some k → blk X b = some k) (h : mapCells H x = some cs) : mapCells X x = some cs := by
  unfold mapCells at h ⊢
  split at h
  · exact h
  · rename_i b
    unfold mapB at h ⊢
    cases hb : blk H b with
    | none => rw [hb] at h; cases h
    | some k => rw [hb] at h; rw [hk _ _ hb]; exact h
  · cases h
theorem lkU_keep {t : TypeId} {H X : AH} {x key v : Value} {two : Bool} (hk : ∀ b k, blk H b = some k → blk X b = some k) (h : lkU P t H x key two = some v) : lkU P t X x key two = some v := by
  unfold lkU at h ⊢
  split at h
  · rename_i kt et hd
    obtain ⟨D, h1, h2⟩ := bind_some h
    obtain ⟨cs, h3, h4⟩ := bind_some h2
    simp only [h1, Option.bind_some, mapCells_keep hk h3]
    exact h4
  · cases h
theorem lenM_keep {t : TypeId} {H X : AH} {x v : Value} (hk : ∀ b k, blk H b = some k → blk X b = some k) (h : lenM P t H x = some v) : lenM P t X x = some v := by
  unfold lenM at h ⊢
  split at h
  · cases hc : mapCells H x with
    | none => rw [hc] at h; cases h
    | some cs => rw [hc] at h; rw [mapCells_keep hk hc]; exact h
  · cases h
theorem opRead_keep {ρ : Operand → Value} {op : Op} {f : AH → Option Value} (hf : opRead P ρ op = some f) {H X : AH} {v : Value} (hk : ∀ b k, blk H b = some k → blk X b = some k) (h : f H = some v) : f X = some v := by
  unfold opRead at hf
  split at hf
  · cases hf; exact ld_keep hk h
  · rename_i s d x
    cases hb : isBytesToString P s d with
    | true => rw [hb] at hf; cases hf; exact cvS_keep hk h
    | false => rw [hb] at hf; cases hf
  · cases hf; exact lkU_keep hk h
  · split at hf
    · rename_i t x _ _
      cases hb : isMapT P t with
      | true => rw [hb] at hf; cases hf; exact lenM_keep hk h
      | false => rw [hb] at hf; cases hf
    · cases hf
  · cases hf
end
end Go.AM
set_option linter.unusedVariables false
set_option linter.unusedSimpArgs false
namespace Go.AM
open Go.RowKit

section
variable {P : Program} {call : CallF}

/-- An operation that neither reads nor acts nor makes: it tells the same wherever it comes. -/
def PureAt (P : Program) (call : CallF) (ρ : Operand → Value) (op : Op) (H H' : AH) (v : Value) : Prop := H' = H ∧ ∀ X, aRes P call ρ op X = some (v, X)
theorem PureAt.one {ρ : Operand → Value} {op : Op} {H H' : AH} {v : Value} (x : Option Value) (e : ∀ X, aRes P call ρ op X = x.bind fun v => some (v, X)) (h : aRes P call ρ op H = some (v, H')) : PureAt P call ρ op H H' v := by
  rw [e] at h
  obtain ⟨u, h1, h2⟩ := bind_some h
  cases h2
  exact ⟨rfl, fun X => by rw [e, h1]; rfl⟩
theorem pure_res {ρ : Operand → Value} {op : Op} (he : isEff op = false) (hr : opRead P ρ op = none) (ha : isAlloc op = false) {H H' : AH} {v : Value} (h : aRes P call ρ op H = some (v, H')) : PureAt P call ρ op H H' v := by
  cases op
  case move x => exact .one (some (ρ x)) (fun X => rfl) h
  case assign x => exact .one (some (ρ x)) (fun X => rfl) h
  case pick c x y => exact .one _ (fun X => rfl) h
  case build t ps => exact .one _ (fun X => rfl) h
  case nilCheck x => exact .one _ (fun X => rfl) h
  case binOp op t x y yt => exact .one _ (fun X => rfl) h
  case unOp op t x => exact .one _ (fun X => rfl) h
  case fieldAddr s x i => exact .one _ (fun X => rfl) h
  case field s x i => exact .one _ (fun X => rfl) h
  case indexAddr s x i => exact .one _ (fun X => rfl) h
  case index s x i => exact .one _ (fun X => rfl) h
  case extract x i => exact .one _ (fun X => rfl) h
  case load t x => cases hr
  case lookup t m k two => cases hr
  case makeMap t r => cases ha
  case mapUpdate t m k x => cases he
  case alloc t => cases ha
  case box t x => cases ha
  case buildSlice t n ps => cases ha
  case makeSlice t l c => cases ha
  case store t x y => cases he
  case convert s d x =>
    cases hb : isBytesToString P s d with
    | true => simp only [opRead, hb, cond_true] at hr; cases hr
    | false => exact .one (cv P s d (ρ x)) (fun X => by unfold aRes; simp only [aOp, hb, cond_false]) h
  case makeFunc fn first captured =>
    cases fn with
    | func f => exact .one (some (.func (.func f) (first.toList.map ρ).toArray (captured.toList.map ρ).toArray)) (fun X => rfl) h
    | _ => cases h
  case slice t x lo hi mx =>
    cases mx with
    | some _ => exact .one _ (fun X => rfl) h
    | none => exact .one _ (fun X => rfl) h
  case call c =>
    obtain ⟨callee, args, tys⟩ := c
    cases callee with
    | value f => cases he
    | invoke r m => cases h
    | builtin b =>
      cases b
      case append => cases he
      case copy => cases he
      case len =>
        have hm : ∀ t x, tys.toList = [t] → args.toList = [x] → isMapT P t = false := by
          intro t x ht hx
          simp only [opRead, ht, hx] at hr
          cases hb : isMapT P t with
          | false => rfl
          | true => rw [hb] at hr; cases hr
        refine .one (match tys.toList, args.toList with | [t], [x] => lenV P t (ρ x) | _, _ => none) (fun X => ?_) h
        show (match tys.toList, args.toList with | [t], [x] => (bif isMapT P t then (lenM P t X (ρ x)).bind fun v => some (v, X) else (lenV P t (ρ x)).bind fun v => some (v, X)) | _, _ => none) = _
        split
        · rename_i t x ht hx
          rw [hm t x ht hx]
          rfl
        · rfl
      case cap =>
        refine .one (match tys.toList, args.toList with | [t], [x] => capV P t (ρ x) | _, _ => none) (fun X => ?_) h
        show (match tys.toList, args.toList with | [t], [x] => (capV P t (ρ x)).bind fun v => some (v, X) | _, _ => none) = _
        split <;> rfl
      case min => exact .one _ (fun X => rfl) h
      case max => exact .one _ (fun X => rfl) h
      case unsafeSliceData =>
        refine .one (match args.toList with | [x] => sdV (ρ x) | _ => none) (fun X => ?_) h
        show (match args.toList with | [x] => (sdV (ρ x)).bind fun v => some (v, X) | _ => none) = _
        split <;> rfl
      case unsafeString => cases he
      all_goals cases h
  all_goals cases h
/-- An operation that makes one block. -/
def MakesAt (P : Program) (call : CallF) (ρ : Operand → Value) (op : Op) (H H' : AH) (v : Value) : Prop := ∃ k : Blk, (v = ptr H.length 0 ∨ (∃ a c, v = sl H.length 0 a c) ∨ v = .map (some H.length)) ∧ H' = H ++ [some k] ∧ ∀ X : AH, X.length = H.length → aRes P call ρ op X = some (v, X ++ [some k])
theorem MakesAt.one {ρ : Operand → Value} {op : Op} {H H' : AH} {v : Value} (x : Option (Blk × (Nat → Value))) (hx : ∀ p, x = some p → ∀ n, p.2 n = ptr n 0 ∨ (∃ a c, p.2 n = sl n 0 a c) ∨ p.2 n = .map (some n)) (e : ∀ X, aRes P call ρ op X = x.bind fun p => some (p.2 X.length, X ++ [some p.1])) (h : aRes P call ρ op H = some (v, H')) : MakesAt P call ρ op H H' v := by
  rw [e] at h
  obtain ⟨p, h1, h2⟩ := bind_some h
  cases h2
  exact ⟨p.1, hx p h1 _, rfl, fun X hX => by rw [e, h1, ← hX]; rfl⟩
theorem box_form (t : TypeId) (X : AH) (v : Value) : (box t X v).bind (fun p => some (p.1, p.2)) = (if okCells v = true then some ((⟨v.cells.toList, t, .fix⟩ : Blk), fun n => ptr n 0) else none).bind fun p => some (p.2 X.length, X ++ [some p.1]) := by
  unfold box
  split <;> rfl
theorem alloc_res {ρ : Operand → Value} {op : Op} (ha : isAlloc op = true) {H H' : AH} {v : Value} (h : aRes P call ρ op H = some (v, H')) : MakesAt P call ρ op H H' v := by
  cases op
  case alloc t =>
    refine .one ((zeroT P t).bind fun z => if okCells z = true then some ((⟨z.cells.toList, t, .fix⟩ : Blk), fun n => ptr n 0) else none) ?_ (fun X => ?_) h
    · intro p hp
      obtain ⟨z, h1, h2⟩ := bind_some hp
      split at h2
      · cases h2; exact fun n => .inl rfl
      · cases h2
    · show (newV P t X).bind (fun p => some (p.1, p.2)) = _
      unfold newV
      rw [Option.bind_assoc, Option.bind_assoc]
      congr 1
      funext z
      exact box_form t X z
  case box t x =>
    refine .one (if okCells (ρ x) = true then some ((⟨(ρ x).cells.toList, t, .fix⟩ : Blk), fun n => ptr n 0) else none) ?_ (fun X => box_form t X (ρ x)) h
    intro p hp
    split at hp
    · cases hp; exact fun n => .inl rfl
    · cases hp
  case buildSlice t n ps =>
    refine .one (match P.underlying t with | some (.slice e) => (zeroT P e).bind fun z => if n * szT P e ≤ 16777216 ∧ z.cells.size = szT P e then (fillB (fun i => some (i * szT P e, szT P e)) (rep z.cells.toList n) (ps.toList.map fun p => (p.1, ρ p.2))).map fun cs => ((⟨cs, e, .fix⟩ : Blk), fun q => sl q 0 n n) else none | _ => none) ?_ (fun X => ?_) h
    · intro p hp
      split at hp
      · obtain ⟨z, h1, h2⟩ := bind_some hp
        split at h2
        · cases hf : fillB (fun i => some (i * szT P _, szT P _)) (rep z.cells.toList n) (ps.toList.map fun p => (p.1, ρ p.2)) with
          | none => rw [hf] at h2; cases h2
          | some cs => rw [hf] at h2; cases h2; exact fun q => .inr (.inl ⟨_, _, rfl⟩)
        · cases h2
      · cases hp
    · show (buildS P t X n (ps.toList.map fun p => (p.1, ρ p.2))).bind (fun p => some (p.1, p.2)) = _
      unfold buildS
      cases P.underlying t with
      | none => rfl
      | some d =>
        cases d with
        | slice e =>
          simp only
          rw [Option.bind_assoc, Option.bind_assoc]
          congr 1
          funext z
          split
          · cases fillB (fun i => some (i * szT P e, szT P e)) (rep z.cells.toList n) (ps.toList.map fun p => (p.1, ρ p.2)) <;> rfl
          · rfl
        | _ => rfl
  case makeSlice t l c =>
    refine .one (match P.underlying t, ρ l, ρ c with | some (.slice e), .int _ n, .int _ m => (zeroT P e).bind fun z => if 0 ≤ n ∧ n ≤ m ∧ m * byT P e ≤ 281474976710656 ∧ m ≤ 9223372036854775807 ∧ z.cells.size = szT P e ∧ okCells z = true then some ((⟨rep z.cells.toList m.toNat, e, .fix⟩ : Blk), fun q => sl q 0 n.toNat m.toNat) else none | _, _, _ => none) ?_ (fun X => ?_) h
    · intro p hp
      split at hp
      · obtain ⟨z, h1, h2⟩ := bind_some hp
        split at h2
        · cases h2; exact fun q => .inr (.inl ⟨_, _, rfl⟩)
        · cases h2
      · cases hp
    · show (mkS P t X (ρ l) (ρ c)).bind (fun p => some (p.1, p.2)) = _
      unfold mkS
      cases P.underlying t with
      | none => rfl
      | some d =>
        cases d with
        | slice e =>
          cases ρ l with
          | int k1 n =>
            cases ρ c with
            | int k2 q =>
              simp only
              rw [Option.bind_assoc, Option.bind_assoc]
              congr 1
              funext z
              split <;> rfl
            | _ => rfl
          | _ => rfl
        | _ => rfl
  case makeMap t r =>
    cases r with
    | some r => cases h
    | none =>
      refine .one (some ((⟨[], t, .map⟩ : Blk), fun n => .map (some n))) ?_ (fun X => rfl) h
      intro p hp
      cases hp
      exact fun n => .inr (.inr rfl)
  all_goals cases ha
end
end Go.AM
set_option linter.unusedVariables false
set_option linter.unusedSimpArgs false
namespace Go.AM
open Go.RowKit

section
variable {P : Program} {call : CallF}

theorem befL_take : ∀ (l : List Oper) (acc : List Nat), (befL acc l).take acc.length = acc ∧ (befL acc l).length = acc.length + l.length ∧ ∀ (j : Nat) (o : Oper), l[j]? = some o → (befL acc l)[acc.length + j]? = some (maskOf ((befL acc l).take (acc.length + j)) o)
  | [], acc => by simp [befL]
  | o :: l, acc => by
    obtain ⟨h1, h2, h3⟩ := befL_take l (acc ++ [maskOf acc o])
    simp only [befL, List.length_append, List.length_cons, List.length_nil, Nat.zero_add] at h1 h2 h3 ⊢
    have h4 : (befL (acc ++ [maskOf acc o]) l).take acc.length = acc := by
      have := congrArg (List.take acc.length) h1
      rw [List.take_take, Nat.min_eq_left (by omega), List.take_left] at this
      exact this
    refine ⟨h4, by omega, fun j p hp => ?_⟩
    cases j with
    | zero =>
      simp at hp
      subst hp
      have : (befL (acc ++ [maskOf acc o]) l)[acc.length]? = ((befL (acc ++ [maskOf acc o]) l).take (acc.length + 1))[acc.length]? := by rw [List.getElem?_take, if_pos (by omega)]
      rw [Nat.add_zero, this, h1, h4]
      simp
    | succ j =>
      have := h3 j p (by simpa using hp)
      rw [show acc.length + (j + 1) = acc.length + 1 + j by omega]
      exact this
theorem maskOf_bit {acc : List Nat} {o : Oper} {i : Nat} (h : (maskOf acc o).testBit i = true) : ∃ e ∈ o.after, Region.binds .any e = true ∧ (e.on = i ∨ (acc.getD e.on 0).testBit i = true) := by
  have key : ∀ (l : List Edge) (s : Nat), (l.foldl (fun s e => bif Region.binds .any e then s ||| (2 ^ e.on ||| acc.getD e.on 0) else s) s).testBit i = true → s.testBit i = true ∨ ∃ e ∈ l, Region.binds .any e = true ∧ (e.on = i ∨ (acc.getD e.on 0).testBit i = true) := by
    intro l
    induction l with
    | nil => intro s hs; exact .inl hs
    | cons e l ih =>
      intro s hs
      rw [List.foldl_cons] at hs
      rcases ih _ hs with h1 | ⟨e', h1, h2⟩
      · cases hb : Region.binds .any e with
        | false => rw [hb] at h1; exact .inl h1
        | true =>
          rw [hb] at h1
          simp only [cond_true, Nat.testBit_or, Bool.or_eq_true] at h1
          rcases h1 with h1 | h1 | h1
          · exact .inl h1
          · refine .inr ⟨e, by simp, hb, .inl ?_⟩
            rw [Nat.testBit_two_pow] at h1
            simpa using h1
          · exact .inr ⟨e, by simp, hb, .inr h1⟩
      · exact .inr ⟨e', by simp [h1], h2⟩
  rcases key _ _ h with h1 | ⟨e, h1, h2⟩
  · simp at h1
  · exact ⟨e, by simpa using h1, h2⟩
/-- A set of operations that holds with each what it comes behind. -/
def Down (ops : Array Oper) (D : Nat → Prop) : Prop := ∀ j o, ops[j]? = some o → D j → ∀ e ∈ o.after, Region.binds .any e = true → D e.on
theorem ordB_down {ops : Array Oper} {D : Nat → Prop} (hD : Down ops D) : ∀ (j : Nat) (o : Oper), ops[j]? = some o → (∀ e ∈ o.after, Region.binds .any e = true → D e.on) → ∀ i, ordB (befL [] ops.toList) i j = true → D i := by
  intro j
  induction j using Nat.strongRecOn with
  | _ j ih =>
    intro o ho hedges i hi
    obtain ⟨_, _, h3⟩ := befL_take ops.toList []
    have h4 := h3 j o (by simpa using ho)
    simp only [List.length_nil, Nat.zero_add] at h4
    unfold ordB at hi
    rw [List.getD_eq_getElem?_getD, h4, Option.getD_some] at hi
    obtain ⟨e, he, hb, h5⟩ := maskOf_bit hi
    have hde := hedges e he hb
    rcases h5 with h5 | h5
    · rw [← h5]; exact hde
    · rcases Nat.lt_or_ge e.on j with hlt | hge
      · rw [List.getD_eq_getElem?_getD, List.getElem?_take, if_pos hlt] at h5
        cases hoe : ops[e.on]? with
        | none =>
          exfalso
          have hlen := (befL_take ops.toList []).2.1
          have : (befL [] ops.toList)[e.on]? = none := List.getElem?_eq_none (by
            rw [hlen]
            simp
            have := Array.getElem?_eq_none_iff.1 hoe
            exact this)
          rw [this] at h5
          simp at h5
        | some oe =>
          refine ih e.on hlt oe hoe (fun e' he' hb' => hD e.on oe hoe hde e' he' hb') i ?_
          unfold ordB
          rw [List.getD_eq_getElem?_getD]
          exact h5
      · rw [List.getD_eq_getElem?_getD, List.getElem?_take, if_neg (by omega)] at h5
        simp at h5
end
end Go.AM
