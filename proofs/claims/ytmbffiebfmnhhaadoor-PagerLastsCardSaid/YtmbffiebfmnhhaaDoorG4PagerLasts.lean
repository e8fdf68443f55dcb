/-
  Facts of the abstract evaluator and of the functions that the law reaches, part 4. Conditions: none.
-/
import Derived.ProofKit
import Derived.Deep.Slices
import Derived.DataElems
import Derived.DataReads
import Derived.ChangeArms
import Derived.ChangeSame
import Derived.Test.YtmbffiebfmnhhaaDoorG3PagerLasts
set_option linter.unusedVariables false
set_option linter.unusedSimpArgs false
set_option linter.unnecessarySimpa false
set_option exponentiation.threshold 200000
set_option maxRecDepth 100000
set_option linter.unusedVariables false
set_option linter.unusedSimpArgs false
set_option maxRecDepth 100000
namespace Go.AM.G
open Go Go.AM Go.Proofs
attribute [local irreducible] run bin un ld st box newV mkS fldA fld ixA ix slc slc3 build buildS cv cvS ap cpy lenV gOp pickV b2 aIf aChk evalK resume iterD Option.bind

section
variable {B B0 H0 H : AH} {L : List (Nat × Blk)}
theorem perm12X {a c d : Nat × Blk} {X : List (Nat × Blk)} (h : St H0 B0 B (a :: c :: d :: X) H) : St H0 B0 B (c :: d :: a :: X) H := h.perm (show ([c, d, a] ++ X).Perm ([a, c, d] ++ X) from List.Perm.append_right _ (List.perm_append_comm (l₁ := [c, d]) (l₂ := [a])))
theorem perm21X {a c d : Nat × Blk} {X : List (Nat × Blk)} (h : St H0 B0 B (c :: d :: a :: X) H) : St H0 B0 B (a :: c :: d :: X) H := h.perm (show ([a, c, d] ++ X).Perm ([c, d, a] ++ X) from List.Perm.append_right _ (List.perm_append_comm (l₁ := [a]) (l₂ := [c, d])))
theorem crash_loop {d bb m0 : Nat} {cv kv : Value} {torn : Int} {keep : List Int} {Lc : List (Nat × Blk)} {D : Dsk} (hO : D.OK) (hG : GRS 72 2 cv D.cache.length (caCells D.cache) Lc) (hc : D.cache.length < 1000000000000) {Bk : AH} (hk0 : FT Bk kv i64v keep) (hkl : keep.length < 9223372036854775808) (hm0 : m0 < 9223372036854775808) :
    ∀ (m i : Nat) (B H : AH), i + m = D.cache.length → Mo Bk B → St H0 B0 B ((d, ⟨[sl bb 0 (64 * D.n) (64 * D.n), cv, .int .i64 D.fuse, .bool D.down], 55, .fix⟩) :: (bb, ⟨byts (crashGo keep torn (m0 % 65) 0 (D.cache.take i) D.bytes), 5, .fix⟩) :: (Lc ++ L)) H →
    Ev (fun k K => f21_L0 k (ptr d 0) kv (.int .i64 torn) (i64 m0) cv (i64 D.cache.length) (i64 i) K H) (fun o => ∃ B' H', o = (.exit 0, f21_X_L0 (ptr d 0), H') ∧ MoC B B' ∧
      St H0 B0 B' ((d, ⟨[sl bb 0 (64 * D.n) (64 * D.n), cv, .int .i64 D.fuse, .bool D.down], 55, .fix⟩) :: (bb, ⟨byts (crashGo keep torn (m0 % 65) 0 D.cache D.bytes), 5, .fix⟩) :: (Lc ++ L)) H') := by
  intro m
  induction m with
  | zero =>
    intro i B H hi hB hS
    refine Ev.succ (fun k K => f21_L0_succ k _ _ _ _ _ _ _ K H) ?_
    repeat (first | refine Ev.s ?_ | refine Ev.newC fun _ _ _ => ?_ | refine Ev.boxC fun _ _ _ => ?_ | refine Ev.stC fun _ _ => ?_ | refine Ev.sc (by omega) ?_ | refine Ev.scg (by omega) ?_)
    rw [decide_eq_false (by omega)]
    repeat (first | refine Ev.s ?_ | refine Ev.newC fun _ _ _ => ?_ | refine Ev.boxC fun _ _ _ => ?_ | refine Ev.stC fun _ _ => ?_ | refine Ev.sc (by omega) ?_ | refine Ev.scg (by omega) ?_)
    rw [List.take_of_length_le (by omega)] at hS
    exact Ev.ret ⟨B, H, rfl, ⟨Mo.refl B⟩, hS⟩
  | succ m ih =>
    intro i B H hi hB hS
    refine Ev.succ (fun k K => f21_L0_succ k _ _ _ _ _ _ _ K H) ?_
    repeat (first | refine Ev.s ?_ | refine Ev.newC fun _ _ _ => ?_ | refine Ev.boxC fun _ _ _ => ?_ | refine Ev.stC fun _ _ => ?_ | refine Ev.sc (by omega) ?_ | refine Ev.scg (by omega) ?_)
    rw [decide_eq_true (by omega)]
    repeat (first | refine Ev.s ?_ | refine Ev.newC fun _ _ _ => ?_ | refine Ev.boxC fun _ _ _ => ?_ | refine Ev.stC fun _ _ => ?_ | refine Ev.sc (by omega) ?_ | refine Ev.scg (by omega) ?_)
    obtain ⟨⟨a, s⟩, ha, htk⟩ := take_ex (l := D.cache) (m := i) (by omega)
    have hmem := hO.ca (a, s) (List.mem_of_getElem? ha)
    dsimp only at hmem
    have hlen := crashGo_len (keep := keep) (torn := torn) (cut := m0 % 65) (D.cache.take i) 0 D.bytes D.n hO.len fun p hp => hO.ca p (List.mem_of_mem_take hp)
    have hN := hG.now hS (fun p hp => .tail _ (.tail _ (List.mem_append_left _ hp)))
    obtain ⟨p, q1, q2⟩ := ScN.ldAt (P := Tryd.prog) (t := 53) (k := .i64) (i := i) hN (by omega) (AggOf.eq (P := Tryd.prog) (t := 72))
    rw [caCells_at ha] at q2
    have hlast : crashGo keep torn (m0 % 65) 0 (D.cache.take (i + 1)) D.bytes = tears keep torn (m0 % 65) i (a, s) (crashGo keep torn (m0 % 65) 0 (D.cache.take i) D.bytes) := by
      rw [htk, crashGo_snoc, Nat.zero_add, List.length_take, Nat.min_eq_left (by omega)]
    generalize crashGo keep torn (m0 % 65) 0 (D.cache.take i) D.bytes = bs at hS hlen hlast
    refine Ev.prim q1 ?_
    refine Ev.prim q2 ?_
    clear hN q1 q2
    have hkF : FL B kv i64v keep := (hk0.fl).mono hB
    repeat (first | refine Ev.s ?_ | refine Ev.newC fun _ _ _ => ?_ | refine Ev.boxC fun _ _ _ => ?_ | refine Ev.stC fun _ _ => ?_ | refine Ev.sc (by omega) ?_ | refine Ev.scg (by omega) ?_)
    rename_i b2 H2 hS2 H3 hS3
    have hS4 := perm12X hS3
    clear hS hS2
    unfold tears at hlast
    have next : ∀ H5, St H0 B0 B ((b2, ⟨[i64 a, str s], 72, .fix⟩) :: (d, ⟨[sl bb 0 (64 * D.n) (64 * D.n), cv, .int .i64 D.fuse, .bool D.down], 55, .fix⟩) :: (bb, ⟨byts (crashGo keep torn (m0 % 65) 0 (D.cache.take (i + 1)) D.bytes), 5, .fix⟩) :: (Lc ++ L)) H5 →
        Ev (fun k K => f21_L0 k (ptr d 0) kv (.int .i64 torn) (i64 m0) cv (i64 D.cache.length) (i64 (i + 1)) K H5) (fun o => ∃ B' H', o = (.exit 0, f21_X_L0 (ptr d 0), H') ∧ MoC B B' ∧
          St H0 B0 B' ((d, ⟨[sl bb 0 (64 * D.n) (64 * D.n), cv, .int .i64 D.fuse, .bool D.down], 55, .fix⟩) :: (bb, ⟨byts (crashGo keep torn (m0 % 65) 0 D.cache D.bytes), 5, .fix⟩) :: (Lc ++ L)) H') := fun H5 h5 => ih (i + 1) B H5 (by omega) hB h5.drop1
    by_cases ht : (i : Int) = torn
    · rw [decide_eq_true ht]
      rw [if_pos ht] at hlast
      dsimp only at hlast
      clear hS4
      repeat (first | refine Ev.s ?_ | refine Ev.newC fun _ _ _ => ?_ | refine Ev.boxC fun _ _ _ => ?_ | refine Ev.stC fun _ _ => ?_ | refine Ev.sc (by omega) ?_ | refine Ev.scg (by omega) ?_)
      refine Ev.prim (slc_strT (l := s) (i := m0 % 65) (by omega)) ?_
      refine Ev.b2 (lay_spec (n := D.n) hO.n2 hlen hmem.1 (by rw [List.length_take]; omega) (perm12X hS3)) ?_
      rintro _ H5 ⟨_, hS5⟩
      dsimp only at hS5
      rw [← hlast] at hS5
      clear hS3
      repeat (first | refine Ev.s ?_ | refine Ev.newC fun _ _ _ => ?_ | refine Ev.boxC fun _ _ _ => ?_ | refine Ev.stC fun _ _ => ?_ | refine Ev.sc (by omega) ?_ | refine Ev.scg (by omega) ?_)
      exact next H5 (perm21X hS5)
    · rw [decide_eq_false ht]
      rw [if_neg ht] at hlast
      clear hS4
      repeat (first | refine Ev.s ?_ | refine Ev.newC fun _ _ _ => ?_ | refine Ev.boxC fun _ _ _ => ?_ | refine Ev.stC fun _ _ => ?_ | refine Ev.sc (by omega) ?_ | refine Ev.scg (by omega) ?_)
      by_cases hki : i < keep.length
      · rw [decide_eq_true hki]
        repeat (first | refine Ev.s ?_ | refine Ev.newC fun _ _ _ => ?_ | refine Ev.boxC fun _ _ _ => ?_ | refine Ev.stC fun _ _ => ?_ | refine Ev.sc (by omega) ?_ | refine Ev.scg (by omega) ?_)
        obtain ⟨kk, hkk⟩ : ∃ x, keep[i]? = some x := ⟨_, List.getElem?_eq_getElem hki⟩
        refine Ev.ixFg i rfl hkk fun p hp => ?_
        repeat (first | refine Ev.s ?_ | refine Ev.newC fun _ _ _ => ?_ | refine Ev.boxC fun _ _ _ => ?_ | refine Ev.stC fun _ _ => ?_ | refine Ev.sc (by omega) ?_ | refine Ev.scg (by omega) ?_)
        refine Ev.gPrim (and_one rfl) rfl ?_
        have hgd : keep.getD i 0 = kk := by rw [List.getD_eq_getElem?_getD, hkk]; rfl
        rw [hgd] at hlast
        repeat (first | refine Ev.s ?_ | refine Ev.newC fun _ _ _ => ?_ | refine Ev.boxC fun _ _ _ => ?_ | refine Ev.stC fun _ _ => ?_ | refine Ev.sc (by omega) ?_ | refine Ev.scg (by omega) ?_)
        by_cases hodd : kk % 2 = 0
        · rw [if_neg (fun h => h.2 hodd)] at hlast
          rw [decide_eq_false (fun h => h hodd)]
          rw [← hlast] at hS3
          repeat (first | refine Ev.s ?_ | refine Ev.newC fun _ _ _ => ?_ | refine Ev.boxC fun _ _ _ => ?_ | refine Ev.stC fun _ _ => ?_ | refine Ev.sc (by omega) ?_ | refine Ev.scg (by omega) ?_)
          exact next _ hS3
        · rw [if_pos ⟨hki, hodd⟩] at hlast
          dsimp only at hlast
          rw [decide_eq_true hodd]
          repeat (first | refine Ev.s ?_ | refine Ev.newC fun _ _ _ => ?_ | refine Ev.boxC fun _ _ _ => ?_ | refine Ev.stC fun _ _ => ?_ | refine Ev.sc (by omega) ?_ | refine Ev.scg (by omega) ?_)
          refine Ev.b2 (lay_spec (n := D.n) hO.n2 hlen hmem.1 (by omega) (perm12X hS3)) ?_
          rintro _ H5 ⟨_, hS5⟩
          dsimp only at hS5
          rw [← hlast] at hS5
          clear hS3
          repeat (first | refine Ev.s ?_ | refine Ev.newC fun _ _ _ => ?_ | refine Ev.boxC fun _ _ _ => ?_ | refine Ev.stC fun _ _ => ?_ | refine Ev.sc (by omega) ?_ | refine Ev.scg (by omega) ?_)
          exact next H5 (perm21X hS5)
      · rw [decide_eq_false hki]
        rw [if_neg (fun h => hki h.1)] at hlast
        rw [← hlast] at hS3
        repeat (first | refine Ev.s ?_ | refine Ev.newC fun _ _ _ => ?_ | refine Ev.boxC fun _ _ _ => ?_ | refine Ev.stC fun _ _ => ?_ | refine Ev.sc (by omega) ?_ | refine Ev.scg (by omega) ?_)
        exact next _ hS3
theorem crash_tail {d bb m0 : Nat} {cv kv : Value} {torn : Int} {keep : List Int} {Lc : List (Nat × Blk)} {D : Dsk} (hO : D.OK) (hG : GRS 72 2 cv D.cache.length (caCells D.cache) Lc) (hc : D.cache.length < 1000000000000) (hk0 : FT B kv i64v keep) (hkl : keep.length < 9223372036854775808) (hm0 : m0 < 9223372036854775808)
    (hS : St H0 B0 B ((d, ⟨[sl bb 0 (64 * D.n) (64 * D.n), cv, .int .i64 D.fuse, .bool D.down], 55, .fix⟩) :: (bb, ⟨byts D.bytes, 5, .fix⟩) :: (Lc ++ L)) H) :
    Ev (fun k _ => f21_J0 k (ptr d 0) kv (.int .i64 torn) (i64 m0) H) (DkP H0 B0 B L (ptr d 0) (.tuple #[]) { D with bytes := crashGo keep torn (m0 % 65) 0 D.cache D.bytes, cache := [], fuse := -1, down := false }) := by
  refine Ev.eq (fun k _ => f21_J0_eq k _ _ _ _ H) ?_
  have hcell := hG.cell
  repeat (first | refine Ev.s ?_ | refine Ev.newC fun _ _ _ => ?_ | refine Ev.boxC fun _ _ _ => ?_ | refine Ev.stC fun _ _ => ?_ | refine Ev.sc (by omega) ?_ | refine Ev.scg (by omega) ?_)
  refine Ev.prim (hG.len (Und.eq (P := Tryd.prog) (t := 53))) ?_
  refine Ev.bind (Ev.loop (crash_loop hO hG hc hk0 hkl hm0 D.cache.length 0 B H (by omega) (Mo.refl B) hS)) ?_
  rintro _ ⟨B', H', rfl, hm, hS'⟩
  refine Ev.eq (fun k _ => f21_A0_x0 k _ _) ?_
  clear hS
  repeat (first | refine Ev.s ?_ | refine Ev.newC fun _ _ _ => ?_ | refine Ev.boxC fun _ _ _ => ?_ | refine Ev.stC fun _ _ => ?_ | refine Ev.sc (by omega) ?_ | refine Ev.scg (by omega) ?_)
  rename_i H1 hS1 H2 hS2 H3 hS3
  have hS4 := (toFront (X := Lc) (La := [(d, _), (bb, _)]) (L := L) hS3)
  have hS5 : St H0 B0 B' ([(d, _), (bb, _)] ++ L) H3 := hS4.drop (List.sublist_append_right _ _)
  exact Ev.ret ⟨rfl, _, B', hm, ⟨d, bb, _, [], rfl, .inl ⟨rfl, rfl, .inl rfl, rfl⟩, rfl⟩, hS5⟩
theorem Crash_spec {p kv : Value} {D : Dsk} {Ls : List (Nat × Blk)} {keep : List Int} {torn cut : Int} (hD : DK p D Ls) (hO : D.OK) (hc : D.cache.length < 1000000000000) (hk : FT B kv i64v keep) (hkl : keep.length < 9223372036854775808) (hcut : -9223372036854775808 ≤ cut ∧ cut < 9223372036854775808) (hS : St H0 B0 B (Ls ++ L) H) :
    Ev (fun k _ => rn k 21 [p, kv, .int .i64 torn, .int .i64 cut] H) (DkP H0 B0 B L p (.tuple #[]) (D.crash keep torn cut)) := by
  obtain ⟨d, bb, cv, Lc, rfl, hG, rfl⟩ := hD
  simp only [List.cons_append] at hS
  refine Ev.fn (fun k => f21_eq k _ _ _ _ H) ?_
  unfold Dsk.crash cutOf
  repeat (first | refine Ev.s ?_ | refine Ev.newC fun _ _ _ => ?_ | refine Ev.boxC fun _ _ _ => ?_ | refine Ev.stC fun _ _ => ?_ | refine Ev.sc (by omega) ?_ | refine Ev.scg (by omega) ?_)
  by_cases h0 : cut < 0
  · rw [decide_eq_true h0, if_pos h0]
    obtain ⟨m0, hm0⟩ : ∃ m0 : Nat, -(cut + 1) = m0 := ⟨(-(cut + 1)).toNat, by omega⟩
    have e1 : (-(cut + 1) % 65).toNat = m0 % 65 := by rw [hm0]; omega
    rw [e1]
    repeat (first | refine Ev.s ?_ | refine Ev.newC fun _ _ _ => ?_ | refine Ev.boxC fun _ _ _ => ?_ | refine Ev.stC fun _ _ => ?_ | refine Ev.sc (by omega) ?_ | refine Ev.scg (by omega) ?_)
    rw [show IntKind.i64.wrap (0 - (cut + 1)) = (m0 : Int) by rw [wrap64 (by omega)]; omega]
    exact crash_tail hO hG hc hk hkl (by omega) hS
  · rw [decide_eq_false h0, if_neg h0]
    obtain ⟨m0, rfl⟩ : ∃ m0 : Nat, cut = m0 := ⟨cut.toNat, by omega⟩
    have e1 : ((m0 : Int) % 65).toNat = m0 % 65 := by omega
    rw [e1]
    repeat (first | refine Ev.s ?_ | refine Ev.newC fun _ _ _ => ?_ | refine Ev.boxC fun _ _ _ => ?_ | refine Ev.stC fun _ _ => ?_ | refine Ev.sc (by omega) ?_ | refine Ev.scg (by omega) ?_)
    exact crash_tail hO hG hc hk hkl (by omega) hS
end
end Go.AM.G
set_option linter.unusedVariables false
set_option linter.unusedSimpArgs false
namespace Go.AM
theorem perm_cnt {α : Type} {A B : List α} (h : ∀ (_ : DecidableEq α) (a : α), A.count a = B.count a) : A.Perm B := by
  classical exact List.perm_iff_count.2 fun a => h _ a
theorem sec_tears_ne {keep : List Int} {torn : Int} {cut k n j : Nat} {p : Nat × List UInt8} {bs : List UInt8} (h : bs.length = 64 * n) (hp : p.1 < n ∧ p.2.length = 64) (hj : j < n) (hne : p.1 ≠ j) : sec (tears keep torn cut k p bs) j = sec bs j := by
  unfold tears
  split
  · rw [sec_lay h hp.1 (by rw [List.length_take]; omega), if_neg hne]
  · split
    · rw [sec_lay64 h hp.1 hp.2 hj, if_neg hne]
    · rfl
theorem sec_crash_ne {keep : List Int} {torn : Int} {cut n j : Nat} (hj : j < n) : ∀ (l : List (Nat × List UInt8)) (k : Nat) (bs : List UInt8), bs.length = 64 * n → (∀ p ∈ l, p.1 < n ∧ p.2.length = 64) → (∀ p ∈ l, p.1 ≠ j) → sec (crashGo keep torn cut k l bs) j = sec bs j
  | [], k, bs, h, _, _ => rfl
  | p :: l, k, bs, h, hp, hn => by
    show sec (crashGo keep torn cut (k + 1) l (tears keep torn cut k p bs)) j = _
    rw [sec_crash_ne hj l (k + 1) _ (tears_len h (hp p (.head _))) (fun q hq => hp q (.tail _ hq)) (fun q hq => hn q (.tail _ hq)), sec_tears_ne h (hp p (.head _)) hj (hn p (.head _))]
def pgB (bs : List UInt8) (n : Nat) : List UInt8 := sec bs (2 * n) ++ sec bs (2 * n + 1)
theorem pg_pgB {D : Dsk} (h : D.cache = []) (n : Nat) : D.pg n = pgB D.bytes n := by
  unfold Dsk.pg Dsk.look
  rw [h]
  rfl
def two (n : Nat) (x : List UInt8) : List (Nat × List UInt8) := [(2 * n, x.take 64), (2 * n + 1, x.drop 64)]
theorem pgB_lay {bs x : List UInt8} {m n i : Nat} (h : bs.length = 64 * (2 * m)) (hn : n < m) (hi : i < m) (hx : x.length = 128) : pgB (layAll (two n x) bs) i = if i = n then x else pgB bs i := by
  have h1 : (x.take 64).length = 64 := by rw [List.length_take]; omega
  have h2 : (x.drop 64).length = 64 := by rw [List.length_drop]; omega
  have h3 : (layB bs (2 * n) (x.take 64)).length = 64 * (2 * m) := by rw [layB_len (by omega)]; exact h
  unfold pgB
  show sec (layB (layB bs (2 * n) (x.take 64)) (2 * n + 1) (x.drop 64)) (2 * i) ++ sec (layB (layB bs (2 * n) (x.take 64)) (2 * n + 1) (x.drop 64)) (2 * i + 1) = _
  rw [sec_lay64 h3 (by omega) h2 (by omega), sec_lay64 h3 (by omega) h2 (by omega), sec_lay64 h (by omega) h1 (by omega), sec_lay64 h (by omega) h1 (by omega)]
  by_cases he : i = n
  · rw [if_pos he, if_neg (by omega), if_pos (by omega), if_pos (by omega), List.take_append_drop]
  · rw [if_neg he, if_neg (by omega), if_neg (by omega), if_neg (by omega), if_neg (by omega)]
theorem pgB_crash {keep : List Int} {torn : Int} {cut m i : Nat} (hi : i < m) (l : List (Nat × List UInt8)) (bs : List UInt8) (h : bs.length = 64 * (2 * m)) (hp : ∀ p ∈ l, p.1 < 2 * m ∧ p.2.length = 64) (hn : ∀ p ∈ l, p.1 / 2 ≠ i) : pgB (crashGo keep torn cut 0 l bs) i = pgB bs i := by
  unfold pgB
  rw [sec_crash_ne (by omega) l 0 bs h hp fun p hq he => hn p hq (by omega), sec_crash_ne (by omega) l 0 bs h hp fun p hq he => hn p hq (by omega)]
def dec (f : Int) : Int := max (f - 1) (-1)
theorem pwriteF {bs t : List UInt8} {c : List (Nat × List UInt8)} {f : Int} {N n k : Nat} (hn : 2 * n + 1 < N) (hn2 : n ≤ 1048576) (hk : 1 ≤ k) (hk9 : k ≤ 9) (ht : t.length ≤ 120) :
    Dsk.pwrite ⟨N, bs, c, f, false⟩ (n : Int) (k : Int) t = if f = 0 then (7, ⟨N, bs, c, f, true⟩) else if dec f = 0 then (7, ⟨N, bs, c ++ [(2 * n, (sealL k t).take 64)], dec f, true⟩) else (0, ⟨N, bs, c ++ two n (sealL k t), dec (dec f), false⟩) := by
  have h1 : ((sealL k t).take 64).length = 64 := by rw [List.length_take, seal_len ht]; rfl
  have h2 : ((sealL k t).drop 64).length = 64 := by rw [List.length_drop, seal_len ht]
  unfold Dsk.pwrite
  rw [sealR_nat hk hk9 ht, if_neg (by dsimp only; omega)]
  dsimp only
  rw [show (2 : Int) * (n : Int) = ((2 * n : Nat) : Int) by omega]
  have e1 : Dsk.write ⟨N, bs, c, f, false⟩ ((2 * n : Nat) : Int) ((sealL k t).take 64) = if f = 0 then (7, ⟨N, bs, c, f, true⟩) else (0, ⟨N, bs, c ++ [(2 * n, (sealL k t).take 64)], dec f, false⟩) := by
    unfold Dsk.write Dsk.act Dsk.put
    dsimp only
    rw [if_neg (by decide), if_neg (by omega), Int.toNat_natCast]
    rfl
  by_cases h0 : f = 0
  · rw [e1, if_pos h0, if_pos h0, if_pos (by show (7 : Int) ≠ 0; decide)]
  · rw [e1, if_neg h0, if_neg h0, if_neg (by show ¬ (0 : Int) ≠ 0; decide)]
    dsimp only
    unfold Dsk.write Dsk.act Dsk.put
    dsimp only
    rw [if_neg (by decide), if_neg (by omega), show (((2 * n : Nat) : Int) + 1).toNat = 2 * n + 1 by omega]
    by_cases h3 : dec f = 0
    · rw [if_pos h3, if_pos h3]
    · rw [if_neg h3, if_neg h3, List.append_assoc]
      rfl
theorem barrierF {bs : List UInt8} {c : List (Nat × List UInt8)} {f : Int} {N : Nat} : Dsk.barrier ⟨N, bs, c, f, false⟩ = if f = 0 then (7, ⟨N, bs, c, f, true⟩) else (0, ⟨N, layAll c bs, [], dec f, false⟩) := by
  unfold Dsk.barrier Dsk.act Dsk.flush
  dsimp only
  rw [if_neg (by decide)]
  rfl
def rootK (k : Nat) : Nat := if k = 0 then 0 else k + 1
def headT (k : Nat) : List UInt8 := sealL 1 (textH (k + 1) ((rootK k : Nat) : Int) (pagesI (k + 2)))
abbrev GK (k : Nat) : Pgr := ⟨k + 1, ((rootK k : Nat) : Int), pagesI (k + 2), [], false⟩
abbrev GK1 (k : Nat) : Pgr := ⟨k + 1, ((rootK k : Nat) : Int), pagesI (k + 2), [((k + 2 : Nat) : Int)], false⟩
def OldP (k : Nat) (x : List UInt8) : Prop := x = List.replicate 128 0 ∨ ∃ j, j < k ∧ x = headT j
theorem headT_len (k : Nat) : (headT k).length = 128 := seal_len (by rw [textH_len]; decide)
theorem pagesI_succ (m : Nat) : pagesI (m + 1) = pagesI m ++ [(m : Int)] := by
  unfold pagesI
  rw [List.range_succ, List.map_append]; rfl
theorem addAll_pages (k : Nat) : addAll (pagesI (k + 2)) [((k + 2 : Nat) : Int)] = pagesI (k + 1 + 2) := by
  show insI (pagesI (k + 2)) _ = _
  unfold insI
  rw [if_neg (by rw [pagesI_mem]; omega), show k + 1 + 2 = k + 2 + 1 by omega, pagesI_succ (k + 2)]
theorem mayR_root (k : Nat) : mayR (pagesI (k + 2)) ((rootK k : Nat) : Int) = true := by
  unfold mayR rootK
  split
  · rfl
  · rename_i h
    simp only [pagesI_mem, Bool.or_eq_true, Bool.and_eq_true, decide_eq_true_eq]
    omega
theorem alloc_GK {k : Nat} (hk : k + 2 < 16) : (GK k).alloc 16 = (((k + 2 : Nat) : Int), 0, GK1 k) := by
  unfold Pgr.alloc
  rw [if_neg Bool.false_ne_true]
  have e : (List.range 16).find? (fun (n : Nat) => !decide ((n : Int) ∈ (GK k).used) && !decide ((n : Int) ∈ (GK k).fresh)) = some (k + 2) := by
    rw [List.find?_range_eq_some]
    refine ⟨?_, List.mem_range.2 hk, fun i hi => ?_⟩
    · simp only [pagesI_mem]
      simp
    · simp only [pagesI_mem]
      simp
      omega
  rw [e]
  rfl
theorem zero_bad : (openR (List.replicate 128 0)).2.2 ≠ 0 := by
  intro h
  have := (open_ok h).2.1.2.1
  exact absurd this (by decide)
theorem readH_bad {E : Dsk} {n m : Nat} (hU : E.Up (2 * m)) (hn : n < m) (hm : m ≤ 512) (h : (openR (E.pg n)).2.2 ≠ 0) : readH E n = none := by
  unfold readH
  rw [hU.pread hn (by omega), if_pos (.inl h)]
theorem readH_odd {E : Dsk} {n m t r : Nat} {U : List Int} (hU : E.Up (2 * m)) (hn : n < m) (hm : m ≤ 512) (hp : E.pg n = sealL 1 (textH t (r : Int) U)) (ht : t < 281474976710656) (h : t % 2 ≠ n) : readH E n = none := by
  have e2 : E.pread (n : Int) = (1, textH t (r : Int) U, 0) := by
    rw [hU.pread hn (by omega)]
    show openR (E.pg n) = _
    rw [hp]
    exact open_seal (k := 1) (by decide) (by decide) (by rw [textH_len]; decide)
  unfold readH
  rw [e2, if_neg (by simp [textH_len])]
  unfold hparse
  have e6 : beT (textH t (r : Int) U) 6 = t := beT_turn ht _
  split
  · rfl
  · rw [if_neg]
    simp only [Bool.and_eq_true, decide_eq_true_eq, e6]
    rintro ⟨⟨⟨⟨_, h2⟩, _⟩, _⟩, _⟩
    exact h h2
theorem readH_head {E : Dsk} {n k : Nat} (hU : E.Up (2 * 16)) (hn : n < 2) (hk : k ≤ 9) (hp : E.pg n = headT k) (h : (k + 1) % 2 = n) : ∃ V, readH E n = some (k + 1, ((rootK k : Nat) : Int), V) ∧ ∀ x, x ∈ V ↔ x ∈ pagesI (k + 2) := by
  refine hU.readH hp hn (by decide) (by omega) h (by unfold rootK; split <;> omega) (by decide) (fun x hx => by rw [pagesI_mem] at hx; omega) (pagesI_mem.2 (by omega)) (pagesI_mem.2 (by omega)) (mayR_root k)
theorem better_gt {a b : HdR} (h : a.1 < b.1) : better (some a) (some b) = some b ∧ better (some b) (some a) = some b := by
  unfold better
  exact ⟨if_pos h, if_neg (by omega)⟩
structure Alive (k : Nat) (D : Dsk) (tx : Nat → List UInt8) : Prop where
  ok : D.OK
  n : D.n = 2 * 16
  dn : D.down = false
  ca : D.cache = []
  hd : D.pg ((k + 1) % 2) = headT k
  od : OldP k (D.pg (k % 2))
  pt : 1 ≤ k → D.pg (k + 1) = sealL 2 (tx (k - 1))
structure Aft (k tried : Nat) (E : Dsk) (tx : Nat → List UInt8) : Prop where
  up : E.Up (2 * 16)
  ca : E.cache = []
  hd : E.pg ((k + 1) % 2) = headT k
  pt : 1 ≤ k → E.pg (k + 1) = sealL 2 (tx (k - 1))
  od : OldP k (E.pg (k % 2)) ∨ tried = k + 1 ∧ E.pg (k + 2) = sealL 2 (tx k)
structure Dead (k : Nat) (D : Dsk) (tx : Nat → List UInt8) : Prop where
  ok : D.OK
  n : D.n = 2 * 16
  dn : D.down = true
  ca : D.cache.length ≤ 10
  af : ∀ keep torn cut, Aft k (k + 1) (D.crash keep torn cut) tx
/-- Power went while a page of the heads', or that of the text, was written. -/
theorem dead_of {k : Nat} {tx : Nat → List UInt8} {bs : List UInt8} {c : List (Nat × List UInt8)} {f : Int} (hk : k + 2 < 16) (hl : bs.length = 64 * (2 * 16)) (hf : -1 ≤ f ∧ f < 9223372036854775808) (hc10 : c.length ≤ 10) (hc : ∀ p ∈ c, p.1 < 2 * 16 ∧ p.2.length = 64)
    (h1 : pgB bs ((k + 1) % 2) = headT k) (h2 : 1 ≤ k → pgB bs (k + 1) = sealL 2 (tx (k - 1)))
    (h3 : (∀ p ∈ c, p.1 / 2 = k + 2) ∧ OldP k (pgB bs (k % 2)) ∨ (∀ p ∈ c, p.1 / 2 = k % 2) ∧ pgB bs (k + 2) = sealL 2 (tx k)) : Dead k ⟨2 * 16, bs, c, f, true⟩ tx := by
  refine ⟨⟨(show 1 ≤ 2 * 16 by decide), (show 2 * 16 ≤ 1024 by decide), hl, hc, hf⟩, rfl, rfl, hc10, fun keep torn cut => ?_⟩
  have hup : (Dsk.crash ⟨2 * 16, bs, c, f, true⟩ keep torn cut).Up (2 * 16) := ⟨Dsk.OK.crash ⟨(show 1 ≤ 2 * 16 by decide), (show 2 * 16 ≤ 1024 by decide), hl, hc, hf⟩ keep torn cut, rfl, rfl, rfl⟩
  have key : ∀ i, i < 16 → (∀ p ∈ c, p.1 / 2 ≠ i) → (Dsk.crash ⟨2 * 16, bs, c, f, true⟩ keep torn cut).pg i = pgB bs i := fun i hi hn => by
    rw [pg_pgB rfl]
    exact pgB_crash hi c bs hl hc hn
  rcases h3 with ⟨a1, a2⟩ | ⟨a1, a2⟩
  · refine ⟨hup, rfl, ?_, fun h => ?_, .inl ?_⟩
    · rw [key _ (by omega) fun p hp => by rw [a1 p hp]; omega]; exact h1
    · rw [key _ (by omega) fun p hp => by rw [a1 p hp]; omega]; exact h2 h
    · rw [key _ (by omega) fun p hp => by rw [a1 p hp]; omega]; exact a2
  · refine ⟨hup, rfl, ?_, fun h => ?_, .inr ⟨rfl, ?_⟩⟩
    · rw [key _ (by omega) fun p hp => by rw [a1 p hp]; omega]; exact h1
    · rw [key _ (by omega) fun p hp => by rw [a1 p hp]; omega]; exact h2 h
    · rw [key _ (by omega) fun p hp => by rw [a1 p hp]; omega]; exact a2
theorem two_mem {n : Nat} {x : List UInt8} {m : Nat} (hx : x.length = 128) (hn : n < m) : ∀ p ∈ two n x, p.1 < 2 * m ∧ p.2.length = 64 ∧ p.1 / 2 = n := by
  intro p hp
  unfold two at hp
  rcases List.mem_cons.1 hp with rfl | hp
  · exact ⟨by dsimp only; omega, by rw [List.length_take]; omega, by dsimp only; omega⟩
  · rw [List.mem_singleton.1 hp]
    exact ⟨by dsimp only; omega, by rw [List.length_drop]; omega, by dsimp only; omega⟩
theorem round_law {k : Nat} {D : Dsk} {tx : Nat → List UInt8} (hA : Alive k D tx) (hk : k + 2 < 16) (ht : (tx k).length ≤ 120) :
    (∃ G' D', (GK1 k).write D ((k + 2 : Nat) : Int) ((2 : Nat) : Int) (tx k) = (7, G', D') ∧ Dead k D' tx) ∨
    (∃ D1, (GK1 k).write D ((k + 2 : Nat) : Int) ((2 : Nat) : Int) (tx k) = (0, GK1 k, D1) ∧ D1.OK ∧ D1.n = 2 * 16 ∧ D1.cache.length ≤ 10 ∧
      ((∃ G' D', (GK1 k).commit D1 ((k + 2 : Nat) : Int) = (7, G', D') ∧ Dead k D' tx) ∨ (∃ D', (GK1 k).commit D1 ((k + 2 : Nat) : Int) = (0, GK (k + 1), D') ∧ Alive (k + 1) D' tx))) := by
  obtain ⟨N, bs, c, f, dn⟩ := D
  obtain ⟨hok, hn, hdn, hca, hhd, hod, htx⟩ := hA
  dsimp only at hn hdn hca
  subst hn hdn hca
  have hl : bs.length = 64 * (2 * 16) := hok.len
  have hfu := hok.fu
  dsimp only at hfu
  have e0 : ∀ i, Dsk.pg ⟨2 * 16, bs, [], f, false⟩ i = pgB bs i := fun i => pg_pgB rfl i
  rw [e0] at hhd hod htx
  have hsl : (sealL 2 (tx k)).length = 128 := seal_len ht
  have hm1 : ∀ p ∈ two (k + 2) (sealL 2 (tx k)), p.1 < 2 * 16 ∧ p.2.length = 64 ∧ p.1 / 2 = k + 2 := two_mem hsl hk
  have hfr : ((k + 2 : Nat) : Int) ∈ (GK1 k).fresh := List.mem_singleton.2 rfl
  have ew : (GK1 k).write ⟨2 * 16, bs, [], f, false⟩ ((k + 2 : Nat) : Int) ((2 : Nat) : Int) (tx k) = ((Dsk.pwrite ⟨2 * 16, bs, [], f, false⟩ ((k + 2 : Nat) : Int) ((2 : Nat) : Int) (tx k)).1, (GK1 k).told (Dsk.pwrite ⟨2 * 16, bs, [], f, false⟩ ((k + 2 : Nat) : Int) ((2 : Nat) : Int) (tx k)).1, (Dsk.pwrite ⟨2 * 16, bs, [], f, false⟩ ((k + 2 : Nat) : Int) ((2 : Nat) : Int) (tx k)).2) := by
    unfold Pgr.write
    rw [if_neg Bool.false_ne_true, if_neg (fun h => h hfr)]
  rw [ew, pwriteF (by omega) (by omega) (by decide) (by decide) ht]
  by_cases f0 : f = 0
  · rw [if_pos f0]
    exact .inl ⟨_, _, rfl, dead_of hk hl hfu (Nat.zero_le _) (fun p hp => (List.not_mem_nil hp).elim) hhd htx (.inl ⟨fun p hp => (List.not_mem_nil hp).elim, hod⟩)⟩
  rw [if_neg f0]
  have hf1 : -1 ≤ dec f ∧ dec f < 9223372036854775808 := by unfold dec; omega
  by_cases f1 : dec f = 0
  · rw [if_pos f1]
    refine .inl ⟨_, _, rfl, dead_of hk hl hf1 (Nat.le_of_ble_eq_true rfl) (fun p hp => ?_) hhd htx (.inl ⟨fun p hp => ?_, hod⟩)⟩
    · rw [List.nil_append, List.mem_singleton] at hp; subst hp; exact ⟨by dsimp only; omega, by rw [List.length_take]; omega⟩
    · rw [List.nil_append, List.mem_singleton] at hp; subst hp; dsimp only; omega
  rw [if_neg f1, List.nil_append]
  have hf2 : -1 ≤ dec (dec f) ∧ dec (dec f) < 9223372036854775808 := by unfold dec; omega
  generalize dec (dec f) = g at hf2
  right
  refine ⟨_, by rw [told0], ⟨(show 1 ≤ 2 * 16 by decide), (show 2 * 16 ≤ 1024 by decide), hl, fun p hp => ⟨(hm1 p hp).1, (hm1 p hp).2.1⟩, hf2⟩, rfl, Nat.le_of_ble_eq_true rfl, ?_⟩
  have ec : ∀ D1, (GK1 k).commit D1 ((k + 2 : Nat) : Int) = (GK1 k).lay D1 ((rootK (k + 1) : Nat) : Int) (pagesI (k + 1 + 2)) := fun D1 => by
    unfold Pgr.commit
    have hu : addAll (GK1 k).used (GK1 k).fresh = pagesI (k + 1 + 2) := addAll_pages k
    have hr : rootK (k + 1) = k + 2 := by unfold rootK; rw [if_neg (by omega)]
    have hm := mayR_root (k + 1)
    rw [hr] at hm
    rw [if_neg Bool.false_ne_true, hu, hm, if_neg (by decide), hr]
  rw [ec]
  unfold Pgr.lay
  rw [barrierF]
  by_cases g0 : g = 0
  · rw [if_pos g0, if_pos (by show (7 : Int) ≠ 0; decide)]
    exact .inl ⟨_, _, rfl, dead_of hk hl hf2 (Nat.le_of_ble_eq_true rfl) (fun p hp => ⟨(hm1 p hp).1, (hm1 p hp).2.1⟩) hhd htx (.inl ⟨fun p hp => (hm1 p hp).2.2, hod⟩)⟩
  rw [if_neg g0, if_neg (by show ¬ (0 : Int) ≠ 0; decide)]
  dsimp only
  have hf3 : -1 ≤ dec g ∧ dec g < 9223372036854775808 := by unfold dec; omega
  have hpl : ∀ i, i < 16 → pgB (layAll (two (k + 2) (sealL 2 (tx k))) bs) i = if i = k + 2 then sealL 2 (tx k) else pgB bs i := fun i hi => pgB_lay hl hk hi hsl
  have hl2 : (layAll (two (k + 2) (sealL 2 (tx k))) bs).length = 64 * (2 * 16) := layAll_len _ _ _ hl fun p hp => ⟨(hm1 p hp).1, (hm1 p hp).2.1⟩
  generalize layAll (two (k + 2) (sealL 2 (tx k))) bs = bs2 at hpl hl2
  have b1 : pgB bs2 ((k + 1) % 2) = headT k := by rw [hpl _ (by omega), if_neg (by omega)]; exact hhd
  have b2 : 1 ≤ k → pgB bs2 (k + 1) = sealL 2 (tx (k - 1)) := fun h => by rw [hpl _ (by omega), if_neg (by omega)]; exact htx h
  have b3 : pgB bs2 (k + 2) = sealL 2 (tx k) := by rw [hpl _ hk, if_pos rfl]
  have hht : (headT (k + 1)).length = 128 := headT_len _
  have hm2 : ∀ p ∈ two (k % 2) (headT (k + 1)), p.1 < 2 * 16 ∧ p.2.length = 64 ∧ p.1 / 2 = k % 2 := two_mem hht (by omega)
  have eh : hwrite ⟨2 * 16, bs2, [], dec g, false⟩ (k + 1 + 1) ((rootK (k + 1) : Nat) : Int) (pagesI (k + 1 + 2)) = if dec g = 0 then (7, ⟨2 * 16, bs2, [], dec g, true⟩) else if dec (dec g) = 0 then (7, ⟨2 * 16, bs2, [] ++ [(2 * (k % 2), (headT (k + 1)).take 64)], dec (dec g), true⟩) else (0, ⟨2 * 16, bs2, [] ++ two (k % 2) (headT (k + 1)), dec (dec (dec g)), false⟩) := by
    unfold hwrite
    rw [show (k + 1 + 1) % 2 = k % 2 by omega]
    exact pwriteF (k := 1) (by omega) (by omega) (by decide) (by decide) (by rw [textH_len]; decide)
  rw [eh]
  by_cases g1 : dec g = 0
  · rw [if_pos g1, if_pos (by show (7 : Int) ≠ 0; decide)]
    exact .inl ⟨_, _, rfl, dead_of hk hl2 hf3 (Nat.zero_le _) (fun p hp => (List.not_mem_nil hp).elim) b1 b2 (.inr ⟨fun p hp => (List.not_mem_nil hp).elim, b3⟩)⟩
  rw [if_neg g1]
  have hf4 : -1 ≤ dec (dec g) ∧ dec (dec g) < 9223372036854775808 := by unfold dec at hf3 ⊢; omega
  by_cases g2 : dec (dec g) = 0
  · rw [if_pos g2, if_pos (by show (7 : Int) ≠ 0; decide)]
    refine .inl ⟨_, _, rfl, dead_of hk hl2 hf4 (Nat.le_of_ble_eq_true rfl) (fun p hp => ?_) b1 b2 (.inr ⟨fun p hp => ?_, b3⟩)⟩
    · rw [List.nil_append, List.mem_singleton] at hp; subst hp; exact ⟨by dsimp only; omega, by rw [List.length_take]; omega⟩
    · rw [List.nil_append, List.mem_singleton] at hp; subst hp; dsimp only; omega
  rw [if_neg g2, if_neg (by show ¬ (0 : Int) ≠ 0; decide)]
  dsimp only
  have hf5 : -1 ≤ dec (dec (dec g)) ∧ dec (dec (dec g)) < 9223372036854775808 := by generalize dec (dec g) = z at hf4; unfold dec; omega
  rw [barrierF, List.nil_append]
  generalize dec (dec (dec g)) = z at hf5
  by_cases z0 : z = 0
  · rw [if_pos z0, if_pos (by show (7 : Int) ≠ 0; decide)]
    exact .inl ⟨_, _, rfl, dead_of hk hl2 hf5 (Nat.le_of_ble_eq_true rfl) (fun p hp => ⟨(hm2 p hp).1, (hm2 p hp).2.1⟩) b1 b2 (.inr ⟨fun p hp => (hm2 p hp).2.2, b3⟩)⟩
  rw [if_neg z0, if_neg (by show ¬ (0 : Int) ≠ 0; decide)]
  dsimp only
  right
  have hl3 : (layAll (two (k % 2) (headT (k + 1))) bs2).length = 64 * (2 * 16) := layAll_len _ _ _ hl2 fun p hp => ⟨(hm2 p hp).1, (hm2 p hp).2.1⟩
  have hq : ∀ i, i < 16 → pgB (layAll (two (k % 2) (headT (k + 1))) bs2) i = if i = k % 2 then headT (k + 1) else pgB bs2 i := fun i hi => pgB_lay hl2 (by omega) hi hht
  refine ⟨_, rfl, ⟨(show 1 ≤ 2 * 16 by decide), (show 2 * 16 ≤ 1024 by decide), hl3, fun p hp => (List.not_mem_nil hp).elim, by show -1 ≤ dec z ∧ dec z < 9223372036854775808; unfold dec; omega⟩, rfl, rfl, rfl, ?_, .inr ⟨k, by omega, ?_⟩, fun _ => ?_⟩
  · rw [pg_pgB rfl, hq _ (by omega), if_pos (by omega)]
  · rw [pg_pgB rfl, hq _ (by omega), if_neg (by omega)]; exact b1
  · rw [pg_pgB rfl, hq _ (by omega), if_neg (by omega)]; exact b3
theorem Alive.aft {k : Nat} {D : Dsk} {tx : Nat → List UInt8} (h : Alive k D tx) (keep : List Int) (torn cut : Int) : Aft k k (D.crash keep torn cut) tx := by
  have e : ∀ i, (D.crash keep torn cut).pg i = D.pg i := fun i => by unfold Dsk.pg; rw [look_crash0 h.ca, look_crash0 h.ca]
  refine ⟨⟨h.ok.crash keep torn cut, h.n, rfl, rfl⟩, rfl, by rw [e]; exact h.hd, fun h1 => by rw [e]; exact h.pt h1, .inl (by rw [e]; exact h.od)⟩
/-- What is opened. -/
theorem open_law {k tried : Nat} {E : Dsk} {tx : Nat → List UInt8} (h : Aft k tried E tx) (hk : k ≤ 8) (ht : tried = k ∨ tried = k + 1) (hT : ∀ n, n < 2 → (openR (E.pg n)).2.2 = 0 → E.pg n = List.replicate 128 0 ∨ ∃ j, j ≤ tried ∧ E.pg n = headT j) :
    ∃ t V, openD E = (0, some (t + 1, ((rootK t : Nat) : Int), V)) ∧ (t = k ∨ t = tried) ∧ t ≤ 9 ∧ (∀ x, x ∈ V ↔ x ∈ pagesI (t + 2)) ∧ (1 ≤ t → E.pg (t + 1) = sealL 2 (tx (t - 1))) := by
  obtain ⟨V, eV, hV⟩ := readH_head h.up (by omega) (by omega) h.hd rfl
  have ho : ∀ x y : Option HdR, readH E ((k + 1) % 2) = x → readH E (k % 2) = y → ∀ z, better x y = some z → better y x = some z → openD E = (0, some z) := by
    intro x y hx hy z h1 h2
    unfold openD
    have hn := h.up.n
    rw [if_neg (by omega), if_neg (by rw [h.up.dn]; decide)]
    rcases Nat.mod_two_eq_zero_or_one k with hk2 | hk2
    · rw [hk2] at hy
      rw [show (k + 1) % 2 = 1 by omega] at hx
      rw [hx, hy, h2]
    · rw [hk2] at hy
      rw [show (k + 1) % 2 = 0 by omega] at hx
      rw [hx, hy, h1]
  have old : ∀ j, j < k → E.pg (k % 2) = headT j → ∃ t V, openD E = (0, some (t + 1, ((rootK t : Nat) : Int), V)) ∧ (t = k ∨ t = tried) ∧ t ≤ 9 ∧ (∀ x, x ∈ V ↔ x ∈ pagesI (t + 2)) ∧ (1 ≤ t → E.pg (t + 1) = sealL 2 (tx (t - 1))) := by
    intro j hj e
    by_cases hp : (j + 1) % 2 = k % 2
    · obtain ⟨W, eW, hW⟩ := readH_head h.up (by omega) (by omega) e hp
      have hb := better_gt (a := (j + 1, ((rootK j : Nat) : Int), W)) (b := (k + 1, ((rootK k : Nat) : Int), V)) (by dsimp only; omega)
      exact ⟨k, V, ho _ _ eV eW _ hb.2 hb.1, .inl rfl, by omega, hV, h.pt⟩
    · exact ⟨k, V, ho _ _ eV (readH_odd h.up (by omega) (by decide) e (by omega) hp) _ rfl rfl, .inl rfl, by omega, hV, h.pt⟩
  have bad : (openR (E.pg (k % 2))).2.2 ≠ 0 → ∃ t V, openD E = (0, some (t + 1, ((rootK t : Nat) : Int), V)) ∧ (t = k ∨ t = tried) ∧ t ≤ 9 ∧ (∀ x, x ∈ V ↔ x ∈ pagesI (t + 2)) ∧ (1 ≤ t → E.pg (t + 1) = sealL 2 (tx (t - 1))) := by
    intro hb
    exact ⟨k, V, ho _ _ eV (readH_bad h.up (by omega) (by decide) hb) _ rfl rfl, .inl rfl, by omega, hV, h.pt⟩
  rcases h.od with (e | ⟨j, hj, e⟩) | ⟨et, hx⟩
  · exact bad (by rw [e]; exact zero_bad)
  · exact old j hj e
  · by_cases hb : (openR (E.pg (k % 2))).2.2 = 0
    · rcases hT (k % 2) (by omega) hb with e | ⟨j, hj, e⟩
      · rw [e] at hb; exact (zero_bad hb).elim
      · by_cases hp : (j + 1) % 2 = k % 2
        · by_cases hjk : j < k
          · exact old j hjk e
          · have : j = k + 1 := by omega
            subst this
            obtain ⟨W, eW, hW⟩ := readH_head h.up (by omega) (by omega) e hp
            have hb := better_gt (a := (k + 1, ((rootK k : Nat) : Int), V)) (b := (k + 1 + 1, ((rootK (k + 1) : Nat) : Int), W)) (by dsimp only; omega)
            exact ⟨k + 1, W, ho _ _ eV eW _ hb.1 hb.2, .inr et.symm, by omega, hW, fun _ => hx⟩
        · exact ⟨k, V, ho _ _ eV (readH_odd h.up (by omega) (by decide) e (by omega) hp) _ rfl rfl, .inl rfl, by omega, hV, h.pt⟩
    · exact bad hb
end Go.AM
namespace Go.AM
structure TwOK (i : Nat) (T : Dsk) : Prop where
  up : T.Up (2 * 16)
  ca : T.cache = []
  hd : T.pg ((i + 1) % 2) = headT i
  od : OldP i (T.pg (i % 2))
def HsOK (i : Nat) (Hs : List (List UInt8)) : Prop := ∀ x ∈ Hs, x = List.replicate 128 0 ∨ ∃ j, j ≤ i ∧ x = headT j
theorem okGK1 {k : Nat} (hk : k + 2 < 16) : (GK1 k).OK 16 := by
  refine ⟨by decide, pagesI_nodup _, fun n hn => ?_, fun n hn => ?_, Nat.le_of_ble_eq_true rfl, ?_, ?_⟩
  · have := pagesI_mem.1 hn; omega
  · rw [List.mem_singleton.1 hn]; omega
  · show k + 1 < _; omega
  · show (0 : Int) ≤ ((rootK k : Nat) : Int) ∧ ((rootK k : Nat) : Int) < 512
    unfold rootK; split <;> omega
theorem tw_write {i : Nat} {T : Dsk} {s : List UInt8} (h : TwOK i T) (hi : i + 2 < 16) (hs : s.length ≤ 120) : ∃ T1, (GK1 i).write T ((i + 2 : Nat) : Int) ((2 : Nat) : Int) s = (0, GK1 i, T1) ∧ T1.Up (2 * 16) ∧ T1.cache.length = 2 ∧ T1.pg ((i + 1) % 2) = headT i := by
  obtain ⟨D', e, u, c, p⟩ := h.up.gwrite (G := GK1 i) (n := i + 2) (k := 2) (t := s) rfl hi (List.mem_singleton.2 rfl) (by decide) (by decide) (by decide) hs
  refine ⟨D', e, u, by rw [c, h.ca]; rfl, ?_⟩
  rw [p, if_neg (by omega)]; exact h.hd
theorem tw_commit {i : Nat} {T1 : Dsk} (u : T1.Up (2 * 16)) (hh : T1.pg ((i + 1) % 2) = headT i) : ∃ T2, (GK1 i).commit T1 ((i + 2 : Nat) : Int) = (0, GK (i + 1), T2) ∧ TwOK (i + 1) T2 := by
  have hr : rootK (i + 1) = i + 2 := by unfold rootK; rw [if_neg (by omega)]
  have hm := mayR_root (i + 1)
  rw [hr] at hm
  have hu : addAll (GK1 i).used (GK1 i).fresh = pagesI (i + 1 + 2) := addAll_pages i
  obtain ⟨T2, e, u2, c2, p2⟩ := u.gcommit (G := GK1 i) (r := i + 2) rfl (by decide) (by decide) (by rw [hu]; exact hm)
  rw [hu] at e p2
  refine ⟨T2, by rw [e]; show _ = ((0 : Int), (⟨i + 1 + 1, ((rootK (i + 1) : Nat) : Int), pagesI (i + 1 + 2), [], false⟩ : Pgr), T2); rw [hr], u2, c2, ?_, .inr ⟨i, by omega, ?_⟩⟩
  · rw [p2 _ (by omega), if_pos rfl]
    unfold headT
    rw [hr]
  · have h2 := p2 ((i + 1) % 2) (by omega)
    rw [if_neg (show ¬ (i + 1) % 2 = (i + 1 + 1) % 2 by omega)] at h2
    rw [h2]; exact hh
theorem HsOK.note {i : Nat} {Hs : List (List UInt8)} {T : Dsk} (h : HsOK i Hs) (hT : TwOK i T) : HsOK i (insS (insS Hs (T.pg 0)) (T.pg 1)) := by
  have key : ∀ n, n < 2 → T.pg n = List.replicate 128 0 ∨ ∃ j, j ≤ i ∧ T.pg n = headT j := by
    intro n hn
    by_cases h2 : n = (i + 1) % 2
    · rw [h2]; exact .inr ⟨i, Nat.le_refl _, hT.hd⟩
    · have : n = i % 2 := by omega
      rw [this]
      rcases hT.od with e | ⟨j, hj, e⟩
      · exact .inl e
      · exact .inr ⟨j, by omega, e⟩
  intro x hx
  rcases insS_mem.1 hx with rfl | hx
  · exact key 1 (by decide)
  rcases insS_mem.1 hx with rfl | hx
  · exact key 0 (by decide)
  · exact h x hx
theorem HsOK.up {i : Nat} {Hs : List (List UInt8)} (h : HsOK i Hs) : HsOK (i + 1) Hs := fun x hx => by
  rcases h x hx with e | ⟨j, hj, e⟩
  · exact .inl e
  · exact .inr ⟨j, by omega, e⟩
theorem list_pages {G : Pgr} {t m : Nat} (hV : ∀ x, x ∈ G.used ↔ x ∈ pagesI (t + 2)) (ht : t + 2 ≤ m) : (G.list m).length = t + 2 := by
  have e : G.list m = Pgr.list ⟨0, 0, pagesI (t + 2), [], false⟩ m := by
    unfold Pgr.list
    congr 1
    funext n
    dsimp only
    simp only [hV]
  rw [e, list_len (pagesI_nodup _) fun x hx => by have := pagesI_mem.1 hx; omega]
  unfold pagesI
  simp
theorem read_page {G : Pgr} {E : Dsk} {n k : Nat} {s : List UInt8} (hU : E.Up (2 * 16)) (hd : G.down = false) (hn : n < 16) (hk : 1 ≤ k) (hk9 : k ≤ 9) (hs : s.length ≤ 120) (hp : E.pg n = sealL k s) : G.read E (n : Int) = (((k : Int), s, 0), G) := by
  unfold Pgr.read
  rw [if_neg (by rw [hd]; exact Bool.false_ne_true), if_neg (by rw [hU.n]; omega), hU.pread hn (by decide)]
  show (openR (E.pg n), G.told (openR (E.pg n)).2.2) = _
  rw [hp, open_seal hk hk9 hs]
  rw [told0]
theorem new_zero {n m : Nat} (hn : 2 * n + 1 < m) : (Dsk.new m).pg n = List.replicate 128 0 := by
  unfold Dsk.pg
  rw [look_new (by omega), look_new hn]
  rfl
theorem headT0 : headT 0 = sealL 1 (textH 1 0 [0, 1]) := rfl
end Go.AM
set_option linter.unusedVariables false
set_option linter.unusedSimpArgs false
set_option maxRecDepth 100000
namespace Go.AM.G
open Go Go.AM Go.Proofs
attribute [local irreducible] run bin un ld st box newV mkS fldA fld ixA ix slc slc3 build buildS cv cvS ap cpy lenV gOp pickV b2 aIf aChk evalK resume iterD Option.bind

section
variable {B B0 H0 H : AH} {L : List (Nat × Blk)}
theorem lkS {P : Program} {t kt et : TypeId} {b : Nat} {S : List (List UInt8)} {x : List UInt8} (hU : P.underlying t = some (.map kt et)) (hK : P.underlying kt = some .string) (hz : zeroT P et = some (.bool false)) (hS : St H0 B0 B L H) (hm : (b, ⟨entS S, t, .map⟩) ∈ L) :
    lkU P t H (.map (some b)) (str x) false = some (.bool (decide (x ∈ S))) := by
  unfold lkU mapCells mapB
  rw [hU]
  dsimp only
  rw [hK, Option.bind_some, hS.get hm, Option.bind_some, if_pos rfl, Option.map_some, Option.bind_some, if_pos (show keyOK .string (str x) = true from rfl)]
  dsimp only
  rcases keyAt_ent S x with ⟨h1, h2⟩ | ⟨h1, i, h2, h3⟩
  · rw [h2, Option.bind_some]
    dsimp only
    rw [hz, Option.map_some, decide_eq_false h1]; rfl
  · rw [h2, Option.bind_some]
    dsimp only
    rw [h3, Option.map_some, decide_eq_true h1]; rfl
theorem Fuse_spec {p : Value} {D : Dsk} {Ls : List (Nat × Blk)} {n : Int} (hD : DK p D Ls) (hS : St H0 B0 B (Ls ++ L) H) :
    Ev (fun k _ => rn k 18 [p, .int .i64 n] H) (DkP H0 B0 B L p (.tuple #[]) { D with fuse := max n (-1) }) := by
  obtain ⟨d, bb, cv, Lc, rfl, hG, rfl⟩ := hD
  simp only [List.cons_append] at hS
  refine Ev.fn (fun k => f18_eq k _ _ H) ?_
  have hcell := hG.cell
  refine Ev.prim (show fold1 maxV [.int .i64 n, .int .i64 (-1)] = some (.int .i64 (max n (-1))) from max_int) ?_
  repeat (first | refine Ev.s ?_ | refine Ev.newC fun _ _ _ => ?_ | refine Ev.boxC fun _ _ _ => ?_ | refine Ev.stC fun _ _ => ?_ | refine Ev.sc (by omega) ?_ | refine Ev.scg (by omega) ?_)
  exact Ev.ret ⟨rfl, _, B, ⟨Mo.refl B⟩, ⟨d, bb, cv, Lc, rfl, hG, rfl⟩, by assumption⟩
theorem image_spec {dv : Value} {D : Dsk} {Ls : List (Nat × Blk)} {n : Nat} (hD : DK dv D Ls) (hU : D.Up (2 * 16)) (hc : D.cache.length < 1000) (hn : n < 16) (hS : St H0 B0 B (Ls ++ L) H) :
    Ev (fun k _ => rn k 36 [dv, i64 n] H) (fun r => r.1 = str (D.pg n) ∧ ∃ B', MoC B B' ∧ St H0 B0 B' (Ls ++ L) r.2) := by
  refine Ev.fn (fun k => f36_eq k _ _ H) ?_
  repeat (first | refine Ev.s ?_ | refine Ev.newC fun _ _ _ => ?_ | refine Ev.boxC fun _ _ _ => ?_ | refine Ev.stC fun _ _ => ?_ | refine Ev.sc (by omega) ?_ | refine Ev.scg (by omega) ?_)
  refine Ev.b2 (Read_spec (i := ((2 * n : Nat) : Int)) hD hU.ok (by omega) hS) ?_
  rw [hU.read (by omega)]
  clear hS
  rintro _ H1 ⟨rfl, B1, hm1, hS1⟩
  dsimp only at hS1
  repeat (first | refine Ev.s ?_ | refine Ev.newC fun _ _ _ => ?_ | refine Ev.boxC fun _ _ _ => ?_ | refine Ev.stC fun _ _ => ?_ | refine Ev.sc (by omega) ?_ | refine Ev.scg (by omega) ?_)
  refine Ev.b2 (Read_spec (i := ((2 * n + 1 : Nat) : Int)) hD hU.ok (by omega) hS1) ?_
  rw [hU.read (by omega)]
  clear hS1
  rintro _ H2 ⟨rfl, B2, hm2, hS2⟩
  dsimp only at hS2
  repeat (first | (first | refine Ev.s ?_ | refine Ev.newC fun _ _ _ => ?_ | refine Ev.boxC fun _ _ _ => ?_ | refine Ev.stC fun _ _ => ?_ | refine Ev.sc (by omega) ?_ | refine Ev.scg (by omega) ?_) | rw [decide_eq_true (by omega)] | rw [decide_eq_false (by omega)])
  have h1 := look_len hU.ok (j := 2 * n) (by rw [hU.n]; omega)
  have h2 := look_len hU.ok (j := 2 * n + 1) (by rw [hU.n]; omega)
  refine Ev.prim (add_str (a := D.look (2 * n)) (b := D.look (2 * n + 1)) (by rw [h1, h2]; decide)) ?_
  exact Ev.ret ⟨rfl, B2, ⟨hm1.mo.trans hm2.mo⟩, hS2⟩
theorem note_spec {w t hb : Nat} {dv pv qv : Value} {T : Dsk} {Hs : List (List UInt8)} {Ls : List (Nat × Blk)} (hD : DK (ptr t 0) T Ls) (hU : T.Up (2 * 16)) (hc : T.cache.length < 1000) [IsCell dv] [IsCell pv] [IsCell qv]
    (hS : St H0 B0 B ((w, ⟨[dv, ptr t 0, pv, qv, .map (some hb)], 47, .fix⟩) :: (hb, ⟨entS Hs, 45, .map⟩) :: (Ls ++ L)) H) :
    Ev (fun k _ => rn k 20 [ptr w 0] H) (fun r => r.1 = .tuple #[] ∧ ∃ B', MoC B B' ∧ St H0 B0 B' ((w, ⟨[dv, ptr t 0, pv, qv, .map (some hb)], 47, .fix⟩) :: (hb, ⟨entS (insS (insS Hs (T.pg 0)) (T.pg 1)), 45, .map⟩) :: (Ls ++ L)) r.2) := by
  refine Ev.fn (fun k => f20_eq k _ H) ?_
  repeat (first | refine Ev.s ?_ | refine Ev.newC fun _ _ _ => ?_ | refine Ev.boxC fun _ _ _ => ?_ | refine Ev.stC fun _ _ => ?_ | refine Ev.sc (by omega) ?_ | refine Ev.scg (by omega) ?_)
  refine Ev.b2 (image_spec (n := 0) hD hU hc (by decide) (hS.perm (L' := Ls ++ ((w, _) :: (hb, _) :: L)) (by (refine perm_cnt ?_; intro _ a; simp only [List.count_append, List.count_cons, List.cons_append, List.nil_append, List.append_assoc]; ac_rfl)))) ?_
  clear hS
  rintro _ H1 ⟨rfl, B1, hm1, hS1⟩
  dsimp only at hS1
  have hS2 := hS1.perm (L' := (hb, ⟨entS Hs, 45, .map⟩) :: (w, ⟨[dv, ptr t 0, pv, qv, .map (some hb)], 47, .fix⟩) :: (Ls ++ L)) (by (refine perm_cnt ?_; intro _ a; simp only [List.count_append, List.count_cons, List.cons_append, List.nil_append, List.append_assoc]; ac_rfl))
  clear hS1
  repeat (first | refine Ev.s ?_ | refine Ev.newC fun _ _ _ => ?_ | refine Ev.boxC fun _ _ _ => ?_ | refine Ev.stC fun _ _ => ?_ | refine Ev.sc (by omega) ?_ | refine Ev.scg (by omega) ?_)
  refine Ev.mpTrue (x := T.pg 0) (by exact Tryd.underlying45) (by exact Tryd.underlying9) hS2 fun H3 hS3 => ?_
  clear hS2
  repeat (first | refine Ev.s ?_ | refine Ev.newC fun _ _ _ => ?_ | refine Ev.boxC fun _ _ _ => ?_ | refine Ev.stC fun _ _ => ?_ | refine Ev.sc (by omega) ?_ | refine Ev.scg (by omega) ?_)
  refine Ev.b2 (image_spec (n := 1) hD hU hc (by decide) (hS3.perm (L' := Ls ++ ((hb, _) :: (w, _) :: L)) (by (refine perm_cnt ?_; intro _ a; simp only [List.count_append, List.count_cons, List.cons_append, List.nil_append, List.append_assoc]; ac_rfl)))) ?_
  clear hS3
  rintro _ H4 ⟨rfl, B4, hm4, hS4⟩
  dsimp only at hS4
  have hS5 := hS4.perm (L' := (hb, ⟨entS (insS Hs (T.pg 0)), 45, .map⟩) :: (w, ⟨[dv, ptr t 0, pv, qv, .map (some hb)], 47, .fix⟩) :: (Ls ++ L)) (by (refine perm_cnt ?_; intro _ a; simp only [List.count_append, List.count_cons, List.cons_append, List.nil_append, List.append_assoc]; ac_rfl))
  clear hS4
  repeat (first | refine Ev.s ?_ | refine Ev.newC fun _ _ _ => ?_ | refine Ev.boxC fun _ _ _ => ?_ | refine Ev.stC fun _ _ => ?_ | refine Ev.sc (by omega) ?_ | refine Ev.scg (by omega) ?_)
  refine Ev.mpTrue (x := T.pg 1) (by exact Tryd.underlying45) (by exact Tryd.underlying9) hS5 fun H6 hS6 => ?_
  exact Ev.ret ⟨rfl, B4, ⟨hm1.mo.trans hm4.mo⟩, hS6.perm (by (refine perm_cnt ?_; intro _ a; simp only [List.count_append, List.count_cons, List.cons_append, List.nil_append, List.append_assoc]; ac_rfl))⟩
theorem torn_loop {w d hb : Nat} {tv pv qv : Value} {E : Dsk} {Hs : List (List UInt8)} {Ls : List (Nat × Blk)} (hD : DK (ptr d 0) E Ls) (hU : E.Up (2 * 16)) (hc : E.cache.length < 1000) [IsCell tv] [IsCell pv] [IsCell qv] : ∀ (m i : Nat) (B H : AH), i + m = 2 → (∀ n, n < i → (openR (E.pg n)).2.2 = 0 → E.pg n ∈ Hs) →
    St H0 B0 B ((w, ⟨[ptr d 0, tv, pv, qv, .map (some hb)], 47, .fix⟩) :: (hb, ⟨entS Hs, 45, .map⟩) :: (Ls ++ L)) H →
    Ev (fun k K => f22_L0 k (ptr w 0) (i64 i) K H) (fun o => (∃ H', o = (.ret, f22_X_L0 (.bool true), H')) ∨ (∃ B' H', o = (.exit 0, f22_X_L0 unk, H') ∧ (∀ n, n < 2 → (openR (E.pg n)).2.2 = 0 → E.pg n ∈ Hs) ∧ MoC B B' ∧
      St H0 B0 B' ((w, ⟨[ptr d 0, tv, pv, qv, .map (some hb)], 47, .fix⟩) :: (hb, ⟨entS Hs, 45, .map⟩) :: (Ls ++ L)) H')) := by
  intro m
  induction m with
  | zero =>
    intro i B H hi hP hS
    refine Ev.succ (fun k K => f22_L0_succ k _ _ K H) ?_
    repeat (first | (first | refine Ev.s ?_ | refine Ev.newC fun _ _ _ => ?_ | refine Ev.boxC fun _ _ _ => ?_ | refine Ev.stC fun _ _ => ?_ | refine Ev.sc (by omega) ?_ | refine Ev.scg (by omega) ?_) | rw [decide_eq_true (by omega)] | rw [decide_eq_false (by omega)])
    have : i = 2 := by omega
    subst this
    exact Ev.ret (.inr ⟨B, H, rfl, hP, ⟨Mo.refl B⟩, hS⟩)
  | succ m ih =>
    intro i B H hi hP hS
    refine Ev.succ (fun k K => f22_L0_succ k _ _ K H) ?_
    repeat (first | (first | refine Ev.s ?_ | refine Ev.newC fun _ _ _ => ?_ | refine Ev.boxC fun _ _ _ => ?_ | refine Ev.stC fun _ _ => ?_ | refine Ev.sc (by omega) ?_ | refine Ev.scg (by omega) ?_) | rw [decide_eq_true (by omega)] | rw [decide_eq_false (by omega)])
    refine Ev.b2 (image_spec (n := i) hD hU hc (by omega) (hS.perm (L' := Ls ++ ((w, _) :: (hb, _) :: L)) (by (refine perm_cnt ?_; intro _ a; simp only [List.count_append, List.count_cons, List.cons_append, List.nil_append, List.append_assoc]; ac_rfl)))) ?_
    clear hS
    rintro _ H1 ⟨rfl, B1, hm1, hS1⟩
    dsimp only at hS1
    have hpl : (E.pg i).length < 9223372036854775808 := by
      have h1 := look_len hU.ok (j := 2 * i) (by rw [hU.n]; omega)
      have h2 := look_len hU.ok (j := 2 * i + 1) (by rw [hU.n]; omega)
      unfold Dsk.pg
      rw [List.length_append, h1, h2]; decide
    refine Ev.b2 (Open_spec (b := E.pg i) hpl hS1) ?_
    clear hS1
    rintro _ H2 ⟨rfl, B2, hm2, hS2⟩
    dsimp only at hS2
    have hS3 := hS2.perm (L' := (w, ⟨[ptr d 0, tv, pv, qv, .map (some hb)], 47, .fix⟩) :: (hb, ⟨entS Hs, 45, .map⟩) :: (Ls ++ L)) (by (refine perm_cnt ?_; intro _ a; simp only [List.count_append, List.count_cons, List.cons_append, List.nil_append, List.append_assoc]; ac_rfl))
    clear hS2
    have next : (((openR (E.pg i)).2.2 = 0 → E.pg i ∈ Hs)) → Ev (fun k K => f22_L0 k (ptr w 0) (i64 (i + 1)) K H2) (fun o => (∃ H', o = (.ret, f22_X_L0 (.bool true), H')) ∨ (∃ B' H', o = (.exit 0, f22_X_L0 unk, H') ∧ (∀ n, n < 2 → (openR (E.pg n)).2.2 = 0 → E.pg n ∈ Hs) ∧ MoC B B' ∧
      St H0 B0 B' ((w, ⟨[ptr d 0, tv, pv, qv, .map (some hb)], 47, .fix⟩) :: (hb, ⟨entS Hs, 45, .map⟩) :: (Ls ++ L)) H')) := by
      intro hi2
      refine (ih (i + 1) B2 H2 (by omega) (fun n hn => ?_) hS3).mono ?_
      · by_cases h : n = i
        · subst h; exact hi2
        · exact hP n (by omega)
      · rintro o (⟨H', h⟩ | ⟨B', H', h1, h2, h3, h4⟩)
        · exact .inl ⟨H', h⟩
        · exact .inr ⟨B', H', h1, h2, ⟨hm1.mo.trans (hm2.mo.trans h3.mo)⟩, h4⟩
    unfold OpenV
    repeat (first | refine Ev.s ?_ | refine Ev.newC fun _ _ _ => ?_ | refine Ev.boxC fun _ _ _ => ?_ | refine Ev.stC fun _ _ => ?_ | refine Ev.sc (by omega) ?_ | refine Ev.scg (by omega) ?_)
    by_cases hz : (openR (E.pg i)).2.2 = 0
    · rw [decide_eq_true hz]
      repeat (first | refine Ev.s ?_ | refine Ev.newC fun _ _ _ => ?_ | refine Ev.boxC fun _ _ _ => ?_ | refine Ev.stC fun _ _ => ?_ | refine Ev.sc (by omega) ?_ | refine Ev.scg (by omega) ?_)
      refine Ev.gPrim (lkS (x := E.pg i) (by exact Tryd.underlying45) (by exact Tryd.underlying9) (by kernel_rfl) hS3 (.tail _ (.head _))) rfl ?_
      by_cases hmem : E.pg i ∈ Hs
      · rw [decide_eq_true hmem]
        repeat (first | (first | refine Ev.s ?_ | refine Ev.newC fun _ _ _ => ?_ | refine Ev.boxC fun _ _ _ => ?_ | refine Ev.stC fun _ _ => ?_ | refine Ev.sc (by omega) ?_ | refine Ev.scg (by omega) ?_) | rw [decide_eq_true (by omega)] | rw [decide_eq_false (by omega)])
        exact next fun _ => hmem
      · rw [decide_eq_false hmem]
        repeat (first | (first | refine Ev.s ?_ | refine Ev.newC fun _ _ _ => ?_ | refine Ev.boxC fun _ _ _ => ?_ | refine Ev.stC fun _ _ => ?_ | refine Ev.sc (by omega) ?_ | refine Ev.scg (by omega) ?_) | rw [decide_eq_true (by omega)] | rw [decide_eq_false (by omega)])
        exact Ev.ret (.inl ⟨H2, rfl⟩)
    · rw [decide_eq_false hz]
      repeat (first | (first | refine Ev.s ?_ | refine Ev.newC fun _ _ _ => ?_ | refine Ev.boxC fun _ _ _ => ?_ | refine Ev.stC fun _ _ => ?_ | refine Ev.sc (by omega) ?_ | refine Ev.scg (by omega) ?_) | rw [decide_eq_true (by omega)] | rw [decide_eq_false (by omega)])
      exact next fun h => (hz h).elim
end
end Go.AM.G
set_option linter.unusedVariables false
set_option linter.unusedSimpArgs false
namespace Go.AM
open Go.ChangeShapes Go.WideShapes Go.Deep Go.RowKit
variable {P : Program}

structure Ro (P : Program) (W : World) (m : Mp) (H : AH) : Prop where
  rel : Rel P W.heap.size W m H W
  ro : ∀ b k, blk H b = some k → k.kind = .ro
def Sub (m m' : Mp) : Prop := ∀ b L, m b = some L → m' b = some L
theorem Sub.refl (m : Mp) : Sub m m := fun _ _ h => h
theorem Sub.trans {a b c : Mp} (h : Sub a b) (k : Sub b c) : Sub a c := fun x L hx => k x L (h x L hx)
theorem Ro.empty (W : World) : Ro P W (fun _ => none) [] :=
  ⟨⟨Below.refl _ _, Nat.le_refl _, fun _ _ h => (by cases h), fun _ _ _ h => (by cases h), fun _ _ _ _ _ _ h => (by cases h)⟩, fun b k h => (by simp [blk] at h)⟩
def SlOK (W : World) (cs : List Value) : Prop := ∀ a len cap, Value.slice (some a) len cap ∈ cs → a.spot = none ∧ ∃ c e fr, W.heap[a.block]? = some (.cells c e fr)

/-- One more that came in. -/
theorem Ro.add {W : World} {m : Mp} {H : AH} {ks : List Value} {e : TypeId} {bl base : Nat} {c : Array Value} {te : TypeId} {fr : Nat × Nat} (R : Ro P W m H) (hb : W.heap[bl]? = some (.cells c te fr))
    (hl : LRel m ks ((c.toList.drop base).take ks.length)) :
    ∃ m' : Mp, Sub m m' ∧ m' H.length = some ⟨bl, base, .ro, 0, 0⟩ ∧ Ro P W m' (mkB H ks e .ro) := by
  refine ⟨fun b => if b = H.length then some ⟨bl, base, .ro, 0, 0⟩ else m b, ?_, if_pos rfl, ?_⟩
  · intro b L h
    have := (R.rel.dom b L h).1
    show (if b = H.length then _ else m b) = _
    rw [if_neg (by omega)]; exact h
  have hsub : Sub m (fun b => if b = H.length then some ⟨bl, base, .ro, 0, 0⟩ else m b) := by
    intro b L h
    have := (R.rel.dom b L h).1
    show (if b = H.length then _ else m b) = _
    rw [if_neg (by omega)]; exact h
  have hro : ∀ b k, blk (mkB H ks e .ro) b = some k → k.kind = .ro := by
    intro b k h
    by_cases hbn : b < H.length
    · rw [blk_mkB_old hbn] at h; exact R.ro b k h
    · have := blk_lt h
      rw [length_mkB] at this
      have : b = H.length := by omega
      subst this
      rw [blk_mkB_new] at h; cases h; rfl
  refine ⟨⟨R.rel.below, R.rel.hB, ?_, ?_, ?_⟩, hro⟩
  · intro b L h
    replace h : (if b = H.length then some _ else m b) = some L := h
    rw [length_mkB]
    by_cases hb2 : b = H.length
    · rw [if_pos hb2] at h; cases h
      exact ⟨by omega, (Array.getElem?_eq_some_iff.1 hb).1⟩
    · rw [if_neg hb2] at h
      have := R.rel.dom b L h
      exact ⟨by omega, this.2⟩
  · intro b L k h hk
    replace h : (if b = H.length then some _ else m b) = some L := h
    by_cases hb2 : b = H.length
    · rw [if_pos hb2] at h; cases h
      subst hb2
      rw [blk_mkB_new] at hk; cases hk
      exact ⟨rfl, fun _ => ⟨c, te, fr, hb, hl.mono hsub, fun hh => absurd rfl hh, fun hh => (by cases hh), fun hh => (by cases hh), fun hh => (by cases hh), fun hh => (by cases hh)⟩, fun hh => (by cases hh), fun _ _ hh => (by cases hh), fun hh => absurd rfl hh, fun hh => (by cases hh)⟩
    · rw [if_neg hb2] at h
      have hlt := (R.rel.dom b L h).1
      rw [blk_mkB_old hlt] at hk
      have h1 := R.rel.blks b L k h hk
      exact h1.at hsub rfl
  · intro b1 b2 L1 L2 k1 k2 _ _ h1 _ hne _
    exact absurd (hro b1 k1 h1) hne

/-- A kind of datum over the abstract heap. -/
structure Kn (α : Type) where
  K : AH → α → List Value → Prop
  mono : ∀ {H H' : AH} {a : α} {cs : List Value}, Mo H H' → K H a cs → K H' a cs
def Kn.int (k : IntKind) : Kn Int := ⟨fun _ n cs => cs = [.int k n], fun _ h => h⟩
def Kn.bool : Kn Bool := ⟨fun _ n cs => cs = [.bool n], fun _ h => h⟩
def Kn.string : Kn ByteArray := ⟨fun _ n cs => cs = [.string n], fun _ h => h⟩
/-- A slice that came in. -/
def Kn.slice {α : Type} (e : TypeId) (sz : Nat) (d : Kn α) : Kn (List α) :=
  ⟨fun H l cs => (cs = [.slice none 0 0] ∧ l = []) ∨ ∃ (b : Nat) (css : List (List Value)), cs = [sl b 0 l.length (l.length + 1)] ∧ blk H b = some ⟨css.flatten, e, .ro⟩ ∧ css.length = l.length ∧ ∀ (i : Nat) (a : α) (c : List Value), l[i]? = some a → css[i]? = some c → c.length = sz ∧ d.K H a c,
   by
    intro H H' l cs hm h
    rcases h with h | ⟨b, css, h1, h2, h3, h4⟩
    · exact .inl h
    · exact .inr ⟨b, css, h1, hm _ _ h2, h3, fun i a c h5 h6 => ⟨(h4 i a c h5 h6).1, d.mono hm (h4 i a c h5 h6).2⟩⟩⟩
/-- What follows from a cells' list: each is one. -/
def OpA (P : Program) (t : TypeId) {α : Type} (d : Kn α) (G : α → Prop) : Prop :=
  ∀ (Hh : Type) (enc : TypeId × Value → Hh) (W : World) (spare : Nat → Bool) (held : Bool) (fuel : Nat) (cs : List Value) (x : DataW Hh × List MemPlace),
    DataW.trod enc P W 0 spare held fuel t cs = some x → SlOK W cs → ∀ (m : Mp) (H : AH), Ro P W m H →
    ∃ m' H' cs' a, Ro P W m' H' ∧ Sub m m' ∧ Fr H H' ∧ LRel m' cs' cs ∧ d.K H' a cs' ∧ G a
theorem LRel.one {m : Mp} {x y : Value} (h : VRel m x y) : LRel m [x] [y] := LRel.cons h (LRel.nil m)
theorem opA_int {t : TypeId} {k : IntKind} (ht : P.underlying t = some (.int k)) : OpA P t (Kn.int k) (fun n => (Lit.int k n).wf = true) := by
  intro Hh enc W spare held fuel cs x h _ m H R
  obtain ⟨n, rfl, _, hw⟩ := DataW.trod_int ht h
  exact ⟨m, H, _, n, R, Sub.refl m, Fr.refl H, LRel.one (.flat _ rfl), rfl, hw⟩
theorem opA_string {t : TypeId} (ht : P.underlying t = some .string) : OpA P t Kn.string (fun s => s.size ≤ maxLen) := by
  intro Hh enc W spare held fuel cs x h _ m H R
  obtain ⟨n, rfl, _, hw⟩ := DataW.trod_string ht h
  exact ⟨m, H, _, n, R, Sub.refl m, Fr.refl H, LRel.one (.flat _ rfl), rfl, hw⟩
/-- No slice among a type's cells. -/
def NoSl (P : Program) (t : TypeId) : Prop :=
  ∀ (Hh : Type) (enc : TypeId × Value → Hh) (W : World) (spare : Nat → Bool) (held : Bool) (fuel : Nat) (cs : List Value) (x : DataW Hh × List MemPlace), DataW.trod enc P W 0 spare held fuel t cs = some x → SlOK W cs
theorem noSl_int {t : TypeId} {k : IntKind} (ht : P.underlying t = some (.int k)) : NoSl P t := by
  intro Hh enc W spare held fuel cs x h
  obtain ⟨n, rfl, _, hw⟩ := DataW.trod_int ht h
  intro a l c hm; simp at hm
theorem noSl_string {t : TypeId} (ht : P.underlying t = some .string) : NoSl P t := by
  intro Hh enc W spare held fuel cs x h
  obtain ⟨n, rfl, _, hw⟩ := DataW.trod_string ht h
  intro a l c hm; simp at hm

theorem flatten_snoc {α : Type} (l : List (List α)) (x : List α) : (l ++ [x]).flatten = l.flatten ++ x := by simp
theorem opA_slice {t e : TypeId} {α : Type} {d : Kn α} {G : α → Prop} {sz : Nat} (ht : P.underlying t = some (.slice e)) (hsz : P.cellsOf e = sz) (he : OpA P e d G) (hn : NoSl P e) :
    OpA P t (Kn.slice e sz d) (fun l => l.length ≤ maxLen ∧ ∀ x ∈ l, G x) := by
  intro Hh enc W spare held fuel cs x h hs m H R
  rcases open_slice ht h with ⟨rfl, _⟩ | ⟨a, len, cap, mm, n, D, Pl, rfl, _, hlc, hcm, hm, _, hel⟩
  · exact ⟨m, H, [.slice none 0 0], [], R, Sub.refl m, Fr.refl H, LRel.one (.flat _ rfl), Or.inl ⟨rfl, rfl⟩, by simp, fun x hx => by simp at hx⟩
  · have hlm : len ≤ mm := by rw [hm]; split <;> omega
    obtain ⟨hsp, c, te, fr, hb⟩ := hs a len cap (by simp)
    have hcell : ∀ i, i < mm → ∃ cs', cs' = (c.toList.drop (a.off + i * sz)).take sz ∧ cs'.length = sz ∧ DataW.trod enc P W 0 spare held n e cs' = some (D i, Pl i) := by
      intro i hi
      obtain ⟨cs', h1, h2⟩ := hel i hi
      obtain ⟨_, h3, h4⟩ := World.cells?_some h1
      rw [hsz] at h3 h4
      refine ⟨cs', ?_, h3, h2⟩
      apply List.ext_getElem?
      intro j
      by_cases hj : j < sz
      · rw [List.getElem?_take_of_lt hj, List.getElem?_drop, ← h4 j hj]
        have e1 : (a.add (i * sz)).add j = a.add (i * sz + j) := add_add _ _ _
        have e2 : (a.add (i * sz + j)).block = a.block ∧ (a.add (i * sz + j)).spot = none ∧ (a.add (i * sz + j)).off = a.off + (i * sz + j) := by
          unfold Addr.add
          by_cases h0 : i * sz + j = 0
          · rw [if_pos h0, h0]; exact ⟨rfl, hsp, rfl⟩
          · rw [if_neg h0]; exact ⟨rfl, rfl, rfl⟩
        rw [e1]
        unfold World.cell?
        rw [e2.1, hb]
        simp only [e2.2.1, e2.2.2]
        simp [Nat.add_assoc]
      · rw [List.getElem?_eq_none (by omega), List.getElem?_eq_none (by rw [List.length_take]; omega)]
    have key : ∀ q, q ≤ len → ∃ (m' : Mp) (H' : AH) (l : List α) (css : List (List Value)), Ro P W m' H' ∧ Sub m m' ∧ Fr H H' ∧ l.length = q ∧ css.length = q ∧ (∀ x ∈ l, G x) ∧ css.flatten.length = q * sz ∧ LRel m' css.flatten ((c.toList.drop a.off).take (q * sz)) ∧
        ∀ (i : Nat) (y : α) (c : List Value), l[i]? = some y → css[i]? = some c → c.length = sz ∧ d.K H' y c := by
      intro q
      induction q with
      | zero => exact fun _ => ⟨m, H, [], [], R, Sub.refl m, Fr.refl H, rfl, rfl, fun x hx => by simp at hx, by simp, by simpa using LRel.nil m, fun i y c h => by simp at h⟩
      | succ q ih =>
        intro hq
        obtain ⟨m1, H1, l, css, R1, s1, f1, hl, hcs, hG, hfl, hLR, hK⟩ := ih (by omega)
        obtain ⟨cs', e1, e2, e3⟩ := hcell q (by omega)
        obtain ⟨m2, H2, ds, y, R2, s2, f2, hLR2, hK2, hG2⟩ := he Hh enc W spare held n cs' _ e3 (hn Hh enc W spare held n cs' _ e3) m1 H1 R1
        refine ⟨m2, H2, l ++ [y], css ++ [ds], R2, s1.trans s2, f1.trans f2, by simp [hl], by simp [hcs], ?_, ?_, ?_, ?_⟩
        · intro x hx
          rcases List.mem_append.1 hx with hx | hx
          · exact hG x hx
          · simp at hx; subst hx; exact hG2
        · rw [flatten_snoc, List.length_append, hfl, hLR2.1, e2, Nat.succ_mul]
        · rw [flatten_snoc, Nat.succ_mul, List.take_add, List.drop_drop, ← e1]
          exact (hLR.mono s2).append hLR2
        · intro i y' c' h1 h2
          by_cases hi : i < q
          · rw [List.getElem?_append_left (by omega)] at h1 h2
            exact ⟨(hK i y' c' h1 h2).1, d.mono f2.mo (hK i y' c' h1 h2).2⟩
          · have hi2 := (List.getElem?_eq_some_iff.1 h1).1
            have : i = q := by simp [hl] at hi2; omega
            subst this
            rw [List.getElem?_append_right (by omega), hl, Nat.sub_self] at h1
            rw [List.getElem?_append_right (by omega), hcs, Nat.sub_self] at h2
            simp at h1 h2
            subst h1 h2
            exact ⟨by rw [hLR2.1, e2], hK2⟩
    obtain ⟨m1, H1, l, css, R1, s1, f1, hl, hcs, hG, hfl, hLR, hK⟩ := key len (Nat.le_refl _)
    obtain ⟨m2, s2, hm2, R2⟩ := R1.add (ks := css.flatten) (e := e) (base := a.off) hb (by rw [hfl]; exact hLR)
    have fnew : Fr H1 (mkB H1 css.flatten e .ro) := ⟨by rw [length_mkB]; omega, fun b hb => blk_mkB_old hb⟩
    refine ⟨m2, mkB H1 css.flatten e .ro, [sl H1.length 0 l.length (l.length + 1)], l, R2, s1.trans s2, f1.trans fnew, ?_, Or.inr ⟨H1.length, css, rfl, blk_mkB_new, by omega, fun i y c h1 h2 => ⟨(hK i y c h1 h2).1, d.mono fnew.mo (hK i y c h1 h2).2⟩⟩, by omega, hG⟩
    refine LRel.one ?_
    rw [hl]
    have ea : a = ⟨a.block, a.off, none⟩ := by rw [← hsp]
    rw [ea]
    exact .slice H1.length 0 a.off len (len + 1) cap ⟨a.block, a.off, .ro, 0, 0⟩ hm2 rfl (by omega) hlc (.inl (by simp)) (fun h => (by cases h)) (fun h => (by cases h)) (fun _ => .inl (by omega))

theorem slOK_cell {W : World} {base : Nat} {u : TypeId} {a : Addr} {len cap : Nat} (h : Cell.okWide P W .any base u (.slice (some a) len cap)) : a.spot = none ∧ ∃ c e fr, W.heap[a.block]? = some (.cells c e fr) := by
  have hc : ∃ e n, W.has P .any base a e n := by
    unfold Cell.okWide at h
    cases hu : P.underlying u with
    | none => rw [hu] at h; simp [Cell.ok, hu] at h
    | some D =>
      rw [hu] at h
      cases D <;> simp [Cell.ok, hu] at h
      exact ⟨_, _, h.2.2⟩
  obtain ⟨e, n, hh⟩ := hc
  obtain ⟨_, h1, row, cells, h2, _⟩ := hh
  refine ⟨h1, ?_⟩
  unfold World.shape? at h2
  split at h2
  · rename_i c' e' fr' hb; exact ⟨c', e', fr', hb⟩
  · cases h2
theorem slOK_of {W : World} {base : Nat} {t : TypeId} {v : Value} (h : Value.okWide P W .any base t v) : SlOK W v.cells.toList := by
  intro a len cap hm
  have key : (∃ u, Cell.okWide P W .any base u (.slice (some a) len cap)) := by
    unfold Value.okWide at h
    split at h
    · obtain ⟨cs, rfl, _, ts, _, _, hr⟩ := h
      obtain ⟨i, hi⟩ := List.getElem?_of_mem hm
      obtain ⟨u, _, hu⟩ := hr i _ (by simpa [Value.cells] using hi)
      exact ⟨u, hu⟩
    · obtain ⟨cs, rfl, _, ts, _, _, hr⟩ := h
      obtain ⟨i, hi⟩ := List.getElem?_of_mem hm
      obtain ⟨u, _, hu⟩ := hr i _ (by simpa [Value.cells] using hi)
      exact ⟨u, hu⟩
    · cases v with
      | agg cs =>
        exfalso
        unfold Cell.okWide at h
        cases hu : P.underlying t with
        | none => rw [hu] at h; simp [Cell.ok, hu] at h
        | some D => rw [hu] at h; cases D <;> simp [Cell.ok, hu] at h
      | slice p l c =>
        simp [Value.cells] at hm
        obtain ⟨rfl, rfl, rfl⟩ := hm
        exact ⟨t, h⟩
      | _ => simp [Value.cells] at hm
  obtain ⟨u, hu⟩ := key
  exact slOK_cell hu
/-- An argument. -/
structure OpV (P : Program) (t : TypeId) {α : Type} (d : Kn α) (G : α → Prop) (KV : AH → α → Value → Prop) : Prop where
  op : OpA P t d G
  val : ∀ (W : World) (base : Nat) (v : Value), Value.okWide P W .any base t v → (∃ cs, v = .agg cs) ∧ (∀ H a cs, d.K H a cs → KV H a (.agg cs.toArray)) ∨ v.cells = #[v] ∧ (∀ H a v, d.K H a [v] → KV H a v)
  mono : ∀ {H H' : AH} {a : α} {v : Value}, Mo H H' → KV H a v → KV H' a v
def KvC {α : Type} (d : Kn α) (H : AH) (a : α) (v : Value) : Prop := d.K H a [v]
theorem opV_cell {t : TypeId} {D : TypeDesc} {α : Type} {d : Kn α} {G : α → Prop} (ht : P.underlying t = some D) (hD : (∀ fs, D ≠ .struct fs) ∧ ∀ n e, D ≠ .array n e) (A : OpA P t d G) : OpV P t d G (KvC d) := by
  refine ⟨A, fun W base v h => .inr ⟨?_, fun H a v h => h⟩, fun hm h => d.mono hm h⟩
  unfold Value.okWide at h
  rw [ht] at h
  have h' : Cell.okWide P W .any base t v := by
    cases D with
    | struct fs => exact absurd rfl (hD.1 fs)
    | array n e => exact absurd rfl (hD.2 n e)
    | _ => exact h
  cases v with
  | agg cs =>
    exfalso
    unfold Cell.okWide at h'
    rw [ht] at h'
    cases D <;> simp [Cell.ok, ht] at h'
  | _ => rfl
/-- All arguments. -/
structure OpAs (P : Program) (ts : List TypeId) {α : Type} (G : α → Prop) (KV : AH → α → List Value → Prop) : Prop where
  op : ∀ (Hh : Type) (enc : TypeId × Value → Hh) (W : World) (base : Nat) (spare : Nat → Bool) (held : Bool) (vs : List Value) (ds : List (DataW Hh)) (ps : List MemPlace),
    DataW.TrodAll enc P W 0 spare held ts vs ds ps → (∀ (j : Nat) t v, ts[j]? = some t → vs[j]? = some v → Value.okWide P W .any base t v) → ∀ (m : Mp) (H : AH), Ro P W m H →
    ∃ m' H' vs' a, Ro P W m' H' ∧ Sub m m' ∧ Fr H H' ∧ LRel m' vs' vs ∧ KV H' a vs' ∧ G a
  mono : ∀ {H H' : AH} {a : α} {vs : List Value}, Mo H H' → KV H a vs → KV H' a vs
theorem opAs_nil : OpAs P [] (fun _ : Unit => True) (fun _ _ vs => vs = []) := by
  refine ⟨?_, fun _ h => h⟩
  intro Hh enc W base spare held vs ds ps h _ m H R
  obtain ⟨rfl, rfl, rfl⟩ := trodAll_nil h
  exact ⟨m, H, [], (), R, Sub.refl m, Fr.refl H, LRel.nil m, rfl, trivial⟩
theorem opAs_cons {t : TypeId} {ts : List TypeId} {α β : Type} {d : Kn α} {G : α → Prop} {KV : AH → α → Value → Prop} {G' : β → Prop} {KV' : AH → β → List Value → Prop} (A : OpV P t d G KV) (B : OpAs P ts G' KV') :
    OpAs P (t :: ts) (fun x : α × β => G x.1 ∧ G' x.2) (fun H x vs => ∃ v vs', vs = v :: vs' ∧ KV H x.1 v ∧ KV' H x.2 vs') := by
  refine ⟨?_, fun hm ⟨v, vs', h1, h2, h3⟩ => ⟨v, vs', h1, A.mono hm h2, B.mono hm h3⟩⟩
  intro Hh enc W base spare held vs ds ps h hv m H R
  obtain ⟨v, vs', d0, ds', p, q, rfl, rfl, rfl, ⟨fuel, h0⟩, hr⟩ := trodAll_cons h
  have hok := hv 0 t v rfl rfl
  obtain ⟨m2, H2, us, y2, R2, s2, f2, l2, k2, g2⟩ := B.op Hh enc W base spare held vs' ds' q hr (fun j t' v' h1 h2 => hv (j + 1) t' v' h1 h2) m H R
  obtain ⟨m1, H1, cs', y1, R1, s1, f1, l1, k1, g1⟩ := A.op Hh enc W spare held fuel _ _ h0 (slOK_of hok) m2 H2 R2
  rcases A.val W base v hok with ⟨⟨cs, rfl⟩, hk⟩ | ⟨hc, hk⟩
  · exact ⟨m1, H1, .agg cs'.toArray :: us, (y1, y2), R1, s2.trans s1, f2.trans f1, LRel.cons (VRel.aggL (by simpa [Value.cells] using l1)) (l2.mono s1), ⟨_, _, rfl, hk _ _ _ k1, B.mono f1.mo k2⟩, g1, g2⟩
  · rw [hc] at l1
    obtain ⟨x, rfl⟩ : ∃ x, cs' = [x] := List.length_eq_one_iff.1 l1.1
    exact ⟨m1, H1, x :: us, (y1, y2), R1, s2.trans s1, f2.trans f1, LRel.cons (l1.2 0 x v rfl rfl) (l2.mono s1), ⟨_, _, rfl, hk _ _ _ k1, B.mono f1.mo k2⟩, g1, g2⟩
theorem rgFind_mem : ∀ (l : List (Array Tmp × Code × Code)) (x : Array Tmp × Code × Code), nodupB (l.map fun x => firstId x.2.2) = true → x ∈ l → rgFind (firstId x.2.2) l = some x
  | [], x, _, h => by cases h
  | y :: l, x, hn, h => by
    simp only [List.map_cons, nodupB, Bool.and_eq_true, Bool.not_eq_true'] at hn
    unfold rgFind
    cases h with
    | head => simp
    | tail _ h =>
      have hne : (firstId y.2.2 == firstId x.2.2) = false := by
        cases he : firstId y.2.2 == firstId x.2.2 with
        | false => rfl
        | true =>
          exfalso
          have h1 : firstId y.2.2 = firstId x.2.2 := by simpa using he
          have h2 : (l.map fun x => firstId x.2.2).contains (firstId y.2.2) = true := by
            rw [List.contains_iff_mem, h1]
            exact List.mem_map.2 ⟨x, h, rfl⟩
          rw [h2] at hn
          cases hn.1
      rw [hne]
      exact rgFind_mem l x hn.2 h
theorem ranges_go {tbs : FuncId → Tbl} : ∀ (l : List Func) (i : Nat), rangesGo tbs i l = true → ∀ (j : Nat) (fn : Func) (c : Code), l[j]? = some fn → fn.body = some c → rgs c = [] ∨ (fidOf (tbs (i + j)) = i + j ∧ nodupB ((rgs c).map fun x => firstId x.2.2) = true)
  | [], i, _, j, fn, c, h, _ => by simp at h
  | f0 :: l, i, h, 0, fn, c, hj, hc => by
    simp only [List.getElem?_cons_zero, Option.some.injEq] at hj
    subst hj
    simp only [rangesGo, hc, Bool.and_eq_true, Bool.or_eq_true] at h
    rcases h.1 with h1 | h1
    · exact .inl (List.isEmpty_iff.1 h1)
    · exact .inr ⟨by simpa using h1.1, h1.2⟩
  | f0 :: l, i, h, j + 1, fn, c, hj, hc => by
    simp only [rangesGo, Bool.and_eq_true] at h
    have := ranges_go l (i + 1) h.2 j fn c (by simpa using hj) hc
    rwa [show i + 1 + j = i + (j + 1) by omega] at this
theorem ranges_ok {P : Program} {tbs : FuncId → Tbl} (h : rangesB P tbs = true) : RangesOK P tbs := by
  intro f fn c hf hc
  rcases ranges_go _ 0 h f fn c (by rw [Array.getElem?_toList]; exact hf) hc with h1 | ⟨h1, h2⟩
  · exact .inl h1
  · rw [Nat.zero_add] at h1
    refine .inr ⟨h1, fun x hx => ?_⟩
    unfold rangeAt
    rw [hf, Option.bind_some, hc, Option.bind_some]
    exact rgFind_mem _ x h2 hx
/-- Behind a call: nothing that was there is another. -/
theorem walk_of {W : World} {f : FuncId} {args vs : List Value} {m : Mp} {H H' : AH} {v : Value} {call : CallF} (hc : CallOK P call) (R : Ro P W m H) (hl : LRel m args vs) (h : call f args H = some (v, H')) (hf : flat1 v = true) (hy : f < yOff := by unfold yOff; omega) :
    Calls P f vs.toArray W fun e W' => e = .returned v ∧ Below W.heap.size W W' := by
  refine ((hc.1 f args H v H' hy h).2 W.heap.size W m W vs R.rel hl).mono fun e w' ⟨m', v', he, hv, hr, _⟩ => ?_
  rw [VRel.flat_inv hf hv] at he
  exact ⟨he, hr.below⟩
end Go.AM
set_option linter.unusedVariables false
set_option linter.unusedSimpArgs false
set_option maxRecDepth 100000
namespace Go.AM.G
open Go Go.AM Go.Proofs
attribute [local irreducible] run bin un ld st box newV mkS fldA fld ixA ix slc slc3 build buildS cv cvS ap cpy lenV gOp pickV b2 aIf aChk evalK resume iterD Option.bind

section
variable {B B0 H0 H : AH} {L : List (Nat × Blk)}
abbrev KStrs := Kn.slice 9 1 Kn.string
theorem strs_open {H : AH} {l : List ByteArray} {m : Value} (h : KStrs.K H l [m]) : FL H m str (l.map fun s => s.data.toList) := by
  rcases h with ⟨h1, rfl⟩ | ⟨b, css, h1, h2, h3, h4⟩
  · cases h1; exact FL.nil
  · cases h1
    have hl : (l.map fun s => s.data.toList).length = l.length := List.length_map ..
    refine ⟨.inr ⟨b, 0, l.length + 1, by rw [hl], by omega, by simp, ?_⟩⟩
    right
    refine ⟨_, h2, ?_⟩
    have e : css.flatten = (l.map fun s => s.data.toList).map str := by
      have : css = l.map fun s => [Value.string s] := by
        apply List.ext_getElem?
        intro i
        by_cases hi : i < l.length
        · rw [List.getElem?_map, List.getElem?_eq_getElem hi, List.getElem?_eq_getElem (by omega)]
          have := (h4 i _ _ (List.getElem?_eq_getElem hi) (List.getElem?_eq_getElem (by omega))).2
          exact congrArg some this
        · rw [List.getElem?_eq_none (by omega), List.getElem?_eq_none (by simp; omega)]
      rw [this, List.map_map]
      clear this h2 h3 h4
      induction l with
      | nil => rfl
      | cons a l ih =>
        simp only [List.map_cons, List.flatten_cons, List.cons_append, List.nil_append, Function.comp]
        rw [ih (by simp)]
    rw [e]
    unfold rdN
    rw [if_pos (by simp), List.drop_zero, List.take_of_length_le (by simp)]
abbrev KInts := Kn.slice 3 1 (Kn.int .i64)
theorem ints_open {H : AH} {l : List Int} {m : Value} (h : KInts.K H l [m]) : FL H m i64v l := by
  rcases h with ⟨h1, rfl⟩ | ⟨b, css, h1, h2, h3, h4⟩
  · cases h1; exact FL.nil
  · cases h1
    refine ⟨.inr ⟨b, 0, l.length + 1, rfl, by omega, by simp, ?_⟩⟩
    right
    refine ⟨_, h2, ?_⟩
    have e : css.flatten = l.map i64v := by
      have : css = l.map fun s => [Value.int .i64 s] := by
        apply List.ext_getElem?
        intro i
        by_cases hi : i < l.length
        · rw [List.getElem?_map, List.getElem?_eq_getElem hi, List.getElem?_eq_getElem (by omega)]
          have := (h4 i _ _ (List.getElem?_eq_getElem hi) (List.getElem?_eq_getElem (by omega))).2
          exact congrArg some this
        · rw [List.getElem?_eq_none (by omega), List.getElem?_eq_none (by simp; omega)]
      rw [this]
      clear this h2 h3 h4
      induction l with
      | nil => rfl
      | cons a l ih =>
        simp only [List.map_cons, List.flatten_cons, List.cons_append, List.nil_append]
        rw [ih]
    rw [e]
    unfold rdN
    rw [if_pos (by simp), List.drop_zero, List.take_of_length_le (by simp)]
abbrev TwBk (w d t p q hb : Nat) : Nat × Blk := (w, ⟨[ptr d 0, ptr t 0, ptr p 0, ptr q 0, .map (some hb)], 47, .fix⟩)
abbrev HsBk (hb : Nat) (Hs : List (List UInt8)) : Nat × Blk := (hb, ⟨entS Hs, 45, .map⟩)
def txt (l : List (List UInt8)) (i : Nat) : List UInt8 := (l.getD i []).take (min (l.getD i []).length 120)
theorem txt_len (l : List (List UInt8)) (i : Nat) : (txt l i).length ≤ 120 := by unfold txt; rw [List.length_take]; omega
theorem permN1 {α : Type} (a b x y : α) (Ld Lf R : List α) : (a :: b :: (Ld ++ (x :: y :: (Lf ++ R)))).Perm ((x :: y :: (Lf ++ Ld)) ++ (a :: b :: R)) := by (refine perm_cnt ?_; intro _ a; simp only [List.count_append, List.count_cons, List.cons_append, List.nil_append, List.append_assoc]; ac_rfl)
theorem permN2 {α : Type} (a b x y : α) (Ld Lf Ls R : List α) : (a :: b :: (Ls ++ ((x :: y :: (Lf ++ Ld)) ++ R))).Perm (a :: b :: (Ld ++ (x :: y :: (Lf ++ (Ls ++ R))))) := by (refine perm_cnt ?_; intro _ a; simp only [List.count_append, List.count_cons, List.cons_append, List.nil_append, List.append_assoc]; ac_rfl)
theorem permW {α : Type} (a b : α) (X R : List α) : (a :: b :: (X ++ R)).Perm (X ++ (a :: b :: R)) := by (refine perm_cnt ?_; intro _ a; simp only [List.count_append, List.count_cons, List.cons_append, List.nil_append, List.append_assoc]; ac_rfl)
theorem permX {α : Type} (a b : α) (X Y R : List α) : (a :: b :: (Y ++ (X ++ R))).Perm (X ++ (a :: b :: (Y ++ R))) := by (refine perm_cnt ?_; intro _ a; simp only [List.count_append, List.count_cons, List.cons_append, List.nil_append, List.append_assoc]; ac_rfl)
theorem permN3 {α : Type} (a b x y : α) (Ld Lf R : List α) : (a :: b :: (Ld ++ (x :: y :: (Lf ++ R)))).Perm (a :: b :: ((x :: y :: (Lf ++ Ld)) ++ R)) := by (refine perm_cnt ?_; intro _ a; simp only [List.count_append, List.count_cons, List.cons_append, List.nil_append, List.append_assoc]; ac_rfl)
theorem permN4 {α : Type} (a b x y : α) (Ld Lf R : List α) : (a :: b :: ((x :: y :: (Lf ++ Ld)) ++ R)).Perm (Ld ++ (a :: b :: x :: y :: (Lf ++ R))) := by (refine perm_cnt ?_; intro _ a; simp only [List.count_append, List.count_cons, List.cons_append, List.nil_append, List.append_assoc]; ac_rfl)
def LSt (tx : Nat → List UInt8) (i sure : Nat) (D : Dsk) (G : Pgr) : Prop := (sure = i ∧ G = GK i ∧ Alive i D tx) ∨ (sure + 1 = i ∧ Dead sure D tx)
/-- All that stands at a round's head. -/
structure LI (l : List (List UInt8)) (w d t p q hb i sure : Nat) (D T : Dsk) (G : Pgr) (Hs : List (List UInt8)) (v16 : Value) (Ls1 Ls2 Lp : List (Nat × Blk)) : Prop where
  ls : LSt (txt l) i sure D G
  pk : PK (ptr p 0) (ptr d 0) G D Ls1
  tw : TwOK i T
  qk : PK (ptr q 0) (ptr t 0) (GK i) T Ls2
  hs : HsOK i Hs
  pg : GRS 3 1 v16 i ((frs i).map i64v) Lp
theorem LSt.down {tx : Nat → List UInt8} {i sure : Nat} {D : Dsk} {G : Pgr} (h : LSt tx i sure D G) : D.OK ∧ D.n = 2 * 16 ∧ D.cache.length ≤ 10 ∧ (D.down = false ∧ sure = i ∧ G = GK i ∧ Alive i D tx ∨ D.down = true) ∧ (sure = i ∨ sure + 1 = i) ∧ ∀ keep torn cut, Aft sure i (D.crash keep torn cut) tx := by
  rcases h with ⟨rfl, rfl, hA⟩ | ⟨rfl, hD⟩
  · exact ⟨hA.ok, hA.n, by rw [hA.ca]; decide, .inl ⟨hA.dn, rfl, rfl, hA⟩, .inl rfl, hA.aft⟩
  · exact ⟨hD.ok, hD.n, hD.ca, .inr hD.dn, .inr rfl, hD.af⟩
theorem lasts_J1 {lv kv torn cut v16 : Value} {w d t p q hb i sure : Nat} {l : List (List UInt8)} {T : Dsk} {Hs : List (List UInt8)} {Ls1 Ls2 Lp : List (Nat × Blk)} {Q : Out → Prop} (hi : i < 8) (hT : TwOK i T) (hQ : PK (ptr q 0) (ptr t 0) (GK1 i) T Ls2) (hH : HsOK i Hs)
    (hS : St H0 B0 B (TwBk w d t p q hb :: HsBk hb Hs :: (Ls1 ++ (Ls2 ++ (Lp ++ L)))) H)
    (hk : ∀ B' H' T' Hs' Ls2', MoC B B' → TwOK (i + 1) T' → PK (ptr q 0) (ptr t 0) (GK (i + 1)) T' Ls2' → HsOK (i + 1) Hs' → St H0 B0 B' (TwBk w d t p q hb :: HsBk hb Hs' :: (Ls1 ++ (Ls2' ++ (Lp ++ L)))) H' →
      Ev (fun K K2 => f5_L0 K lv kv torn cut (.bool true) (ptr w 0) (i64 sure) (i64 (i + 1)) v16 (i64 (i + 1)) K2 H') Q) :
    Ev (fun K K2 => f5_J1 K K2 lv kv torn cut (.bool true) (ptr w 0) (i64 sure) (i64 (i + 1)) v16 (i64 i) (str (txt l i)) (i64 (i + 2)) H) Q := by
  refine Ev.eq (fun K K2 => f5_J1_eq K K2 _ _ _ _ _ _ _ _ _ _ _ _ H) ?_
  repeat (first | refine Ev.s ?_ | refine Ev.newC fun _ _ _ => ?_ | refine Ev.boxC fun _ _ _ => ?_ | refine Ev.stC fun _ _ => ?_ | refine Ev.sc (by omega) ?_ | refine Ev.scg (by omega) ?_)
  obtain ⟨T1, e1, u1, c1, h1⟩ := tw_write (s := txt l i) hT (by omega) (txt_len l i)
  refine Ev.b2 (Write_specP (n := ((i + 2 : Nat) : Int)) (kind := ((2 : Nat) : Int)) (t := txt l i) hQ hT.up.ok (by rw [hT.ca]; decide) (Nat.le_of_ble_eq_true rfl) (by have := txt_len l i; omega) (by decide) (hS.perm (L' := Ls2 ++ (TwBk w d t p q hb :: HsBk hb Hs :: (Ls1 ++ (Lp ++ L)))) (by (refine perm_cnt ?_; intro _ a; simp only [List.count_append, List.count_cons, List.cons_append, List.nil_append, List.append_assoc]; ac_rfl)))) ?_
  rw [e1]
  clear hS
  rintro _ H1 ⟨rfl, Ls3, B1, hm1, hQ1, hS1⟩
  dsimp only at hS1
  have hS2 := hS1.perm (L' := TwBk w d t p q hb :: HsBk hb Hs :: (Ls1 ++ (Ls3 ++ (Lp ++ L)))) (by (refine perm_cnt ?_; intro _ a; simp only [List.count_append, List.count_cons, List.cons_append, List.nil_append, List.append_assoc]; ac_rfl))
  clear hS1
  dsimp only
  repeat (first | (first | refine Ev.s ?_ | refine Ev.newC fun _ _ _ => ?_ | refine Ev.boxC fun _ _ _ => ?_ | refine Ev.stC fun _ _ => ?_ | refine Ev.sc (by omega) ?_ | refine Ev.scg (by omega) ?_) | rw [decide_eq_true (by omega)] | rw [decide_eq_false (by omega)])
  obtain ⟨T2, e2, hT2⟩ := tw_commit (i := i) u1 h1
  refine Ev.b2 (Commit_spec (root := ((i + 2 : Nat) : Int)) (m := 16) hQ1 u1.ok (okGK1 (by omega)) (by rw [c1]; decide) (hS2.perm (L' := Ls3 ++ (TwBk w d t p q hb :: HsBk hb Hs :: (Ls1 ++ (Lp ++ L)))) (by (refine perm_cnt ?_; intro _ a; simp only [List.count_append, List.count_cons, List.cons_append, List.nil_append, List.append_assoc]; ac_rfl)))) ?_
  rw [e2]
  clear hS2
  rintro _ H3 ⟨rfl, Ls4, B3, hm3, hQ3, hS3⟩
  dsimp only at hS3
  have hQ4 := hQ3
  obtain ⟨qb, mb, fv, Lf, Ld, hp, hD, hF, rfl⟩ := hQ4
  have hS4 := hS3.perm (permN1 (TwBk w d t p q hb) (HsBk hb Hs) _ _ Ld Lf (Ls1 ++ (Lp ++ L)))
  clear hS3
  dsimp only
  repeat (first | (first | refine Ev.s ?_ | refine Ev.newC fun _ _ _ => ?_ | refine Ev.boxC fun _ _ _ => ?_ | refine Ev.stC fun _ _ => ?_ | refine Ev.sc (by omega) ?_ | refine Ev.scg (by omega) ?_) | rw [decide_eq_true (by omega)] | rw [decide_eq_false (by omega)])
  refine Ev.b2 (note_spec hD hT2.up (by rw [hT2.ca]; decide) hS4) ?_
  clear hS4
  rintro _ H5 ⟨rfl, B5, hm5, hS5⟩
  dsimp only at hS5
  have hS6 := hS5.perm (permN2 (TwBk w d t p q hb) (HsBk hb (insS (insS Hs (T2.pg 0)) (T2.pg 1))) _ _ Ld Lf Ls1 (Lp ++ L))
  clear hS5
  repeat (first | (first | refine Ev.s ?_ | refine Ev.newC fun _ _ _ => ?_ | refine Ev.boxC fun _ _ _ => ?_ | refine Ev.stC fun _ _ => ?_ | refine Ev.sc (by omega) ?_ | refine Ev.scg (by omega) ?_) | rw [decide_eq_true (by omega)] | rw [decide_eq_false (by omega)])
  exact hk B5 H5 T2 _ _ ⟨hm1.mo.trans (hm3.mo.trans hm5.mo)⟩ hT2 hQ3 (hH.up.note hT2) hS6
theorem lasts_L0 {lv kv torn cut : Value} {w d t p q hb : Nat} {l : List (List UInt8)} {Bl : AH} (hl0 : FT Bl lv str l) (hll : l.length < 9223372036854775808) (hls : ∀ s ∈ l, s.length < 9223372036854775808) :
    ∀ (m i : Nat) (B H : AH) (sure : Nat) (D T : Dsk) (G : Pgr) (Hs : List (List UInt8)) (v16 : Value) (Ls1 Ls2 Lp : List (Nat × Blk)), i + m = 8 → i ≤ l.length → Mo Bl B → LI l w d t p q hb i sure D T G Hs v16 Ls1 Ls2 Lp →
    St H0 B0 B (TwBk w d t p q hb :: HsBk hb Hs :: (Ls1 ++ (Ls2 ++ (Lp ++ L)))) H →
    Ev (fun K K2 => f5_L0 K lv kv torn cut (.bool true) (ptr w 0) (i64 sure) (i64 i) v16 (i64 i) K2 H) (fun o => ∃ B' H' i' sure' D' T' G' Hs' v16' Ls1' Ls2' Lp', o = (.exit 0, f5_X_L0 lv kv torn cut unk (.bool true) (ptr w 0) (i64 sure') (i64 i') v16', H') ∧ i' ≤ 8 ∧ i' ≤ l.length ∧ MoC B B' ∧ LI l w d t p q hb i' sure' D' T' G' Hs' v16' Ls1' Ls2' Lp' ∧
      St H0 B0 B' (TwBk w d t p q hb :: HsBk hb Hs' :: (Ls1' ++ (Ls2' ++ (Lp' ++ L)))) H') := by
  intro m
  induction m with
  | zero =>
    intro i B H sure D T G Hs v16 Ls1 Ls2 Lp hi hil hB hI hS
    have hl : FL B lv str l := (hl0.fl).mono hB
    refine Ev.succ (fun k K => f5_L0_succ k _ _ _ _ _ _ _ _ _ _ K H) ?_
    repeat (first | refine Ev.s ?_ | refine Ev.newC fun _ _ _ => ?_ | refine Ev.boxC fun _ _ _ => ?_ | refine Ev.stC fun _ _ => ?_ | refine Ev.sc (by omega) ?_ | refine Ev.scg (by omega) ?_)
    by_cases hil : i < l.length
    · rw [decide_eq_true hil]
      repeat (first | refine Ev.s ?_ | refine Ev.newC fun _ _ _ => ?_ | refine Ev.boxC fun _ _ _ => ?_ | refine Ev.stC fun _ _ => ?_ | refine Ev.sc (by omega) ?_ | refine Ev.scg (by omega) ?_)
      rw [decide_eq_false (by omega)]
      repeat (first | refine Ev.s ?_ | refine Ev.newC fun _ _ _ => ?_ | refine Ev.boxC fun _ _ _ => ?_ | refine Ev.stC fun _ _ => ?_ | refine Ev.sc (by omega) ?_ | refine Ev.scg (by omega) ?_)
      exact Ev.ret ⟨B, H, i, sure, D, T, G, Hs, v16, Ls1, Ls2, Lp, rfl, by omega, by omega, ⟨Mo.refl B⟩, hI, hS⟩
    · rw [decide_eq_false hil]
      repeat (first | refine Ev.s ?_ | refine Ev.newC fun _ _ _ => ?_ | refine Ev.boxC fun _ _ _ => ?_ | refine Ev.stC fun _ _ => ?_ | refine Ev.sc (by omega) ?_ | refine Ev.scg (by omega) ?_)
      exact Ev.ret ⟨B, H, i, sure, D, T, G, Hs, v16, Ls1, Ls2, Lp, rfl, by omega, by omega, ⟨Mo.refl B⟩, hI, hS⟩
  | succ m ih =>
    intro i B H sure D T G Hs v16 Ls1 Ls2 Lp hi hil0 hB hI hS
    have hl : FL B lv str l := (hl0.fl).mono hB
    obtain ⟨dok, dn, dca, dst, dsu, _⟩ := hI.ls.down
    refine Ev.succ (fun k K => f5_L0_succ k _ _ _ _ _ _ _ _ _ _ K H) ?_
    repeat (first | refine Ev.s ?_ | refine Ev.newC fun _ _ _ => ?_ | refine Ev.boxC fun _ _ _ => ?_ | refine Ev.stC fun _ _ => ?_ | refine Ev.sc (by omega) ?_ | refine Ev.scg (by omega) ?_)
    by_cases hil : i < l.length
    case neg =>
      rw [decide_eq_false hil]
      repeat (first | refine Ev.s ?_ | refine Ev.newC fun _ _ _ => ?_ | refine Ev.boxC fun _ _ _ => ?_ | refine Ev.stC fun _ _ => ?_ | refine Ev.sc (by omega) ?_ | refine Ev.scg (by omega) ?_)
      exact Ev.ret ⟨B, H, i, sure, D, T, G, Hs, v16, Ls1, Ls2, Lp, rfl, by omega, by omega, ⟨Mo.refl B⟩, hI, hS⟩
    rw [decide_eq_true hil]
    repeat (first | refine Ev.s ?_ | refine Ev.newC fun _ _ _ => ?_ | refine Ev.boxC fun _ _ _ => ?_ | refine Ev.stC fun _ _ => ?_ | refine Ev.sc (by omega) ?_ | refine Ev.scg (by omega) ?_)
    rw [decide_eq_true (by omega)]
    repeat (first | refine Ev.s ?_ | refine Ev.newC fun _ _ _ => ?_ | refine Ev.boxC fun _ _ _ => ?_ | refine Ev.stC fun _ _ => ?_ | refine Ev.sc (by omega) ?_ | refine Ev.scg (by omega) ?_)
    obtain ⟨Ld, hD, hsub⟩ := hI.pk.sub
    refine Ev.b2 (Down_spec hD hS fun x hx => .tail _ (.tail _ (List.mem_append_left _ (hsub x hx)))) ?_
    rintro _ _ h
    cases h
    rcases dst with ⟨hdn, rfl, rfl, hA⟩ | hdn
    case inr =>
      rw [hdn]
      repeat (first | refine Ev.s ?_ | refine Ev.newC fun _ _ _ => ?_ | refine Ev.boxC fun _ _ _ => ?_ | refine Ev.stC fun _ _ => ?_ | refine Ev.sc (by omega) ?_ | refine Ev.scg (by omega) ?_)
      exact Ev.ret ⟨B, H, i, sure, D, T, G, Hs, v16, Ls1, Ls2, Lp, rfl, by omega, by omega, ⟨Mo.refl B⟩, hI, hS⟩
    rw [hdn]
    repeat (first | refine Ev.s ?_ | refine Ev.newC fun _ _ _ => ?_ | refine Ev.boxC fun _ _ _ => ?_ | refine Ev.stC fun _ _ => ?_ | refine Ev.sc (by omega) ?_ | refine Ev.scg (by omega) ?_)
    obtain ⟨s0, hs⟩ : ∃ x, l[sure]? = some x := ⟨_, List.getElem?_eq_getElem hil⟩
    have hsl := hls s0 (List.mem_of_getElem? hs)
    refine Ev.ixF sure rfl hs fun pp hp => ?_
    repeat (first | refine Ev.s ?_ | refine Ev.newC fun _ _ _ => ?_ | refine Ev.boxC fun _ _ _ => ?_ | refine Ev.stC fun _ _ => ?_ | refine Ev.sc (by omega) ?_ | refine Ev.scg (by omega) ?_)
    refine Ev.ixF sure rfl hs fun pp2 hp2 => ?_
    repeat (first | refine Ev.s ?_ | refine Ev.newC fun _ _ _ => ?_ | refine Ev.boxC fun _ _ _ => ?_ | refine Ev.stC fun _ _ => ?_ | refine Ev.sc (by omega) ?_ | refine Ev.scg (by omega) ?_)
    rw [show (if (120 : Int) < (s0.length : Int) then (120 : Int) else (s0.length : Int)) = ((min s0.length 120 : Nat) : Int) by split <;> omega]
    refine Ev.prim (slc_strT (l := s0) (i := min s0.length 120) (Nat.min_le_left _ _)) ?_
    have et : s0.take (min s0.length 120) = txt l sure := by unfold txt; rw [List.getD_eq_getElem?_getD, hs]; rfl
    rw [et]
    repeat (first | refine Ev.s ?_ | refine Ev.newC fun _ _ _ => ?_ | refine Ev.boxC fun _ _ _ => ?_ | refine Ev.stC fun _ _ => ?_ | refine Ev.sc (by omega) ?_ | refine Ev.scg (by omega) ?_)
    have hd16 : D.n / 2 = 16 := by omega
    refine Ev.b2 (Alloc_spec hI.pk dok (show ([] : List Int).length < 100000 by decide) (hS.perm (L' := Ls1 ++ (TwBk w d t p q hb :: HsBk hb Hs :: (Ls2 ++ (Lp ++ L)))) (by (refine perm_cnt ?_; intro _ a; simp only [List.count_append, List.count_cons, List.cons_append, List.nil_append, List.append_assoc]; ac_rfl)))) ?_
    rw [hd16, alloc_GK (by omega)]
    clear hS hl
    rintro _ H1 ⟨rfl, Ls3, B1, hm1, hP1, hS1⟩
    dsimp only at hS1 hP1
    have hS2 := hS1.perm (L' := TwBk w d t p q hb :: HsBk hb Hs :: (Ls3 ++ (Ls2 ++ (Lp ++ L)))) (by (refine perm_cnt ?_; intro _ a; simp only [List.count_append, List.count_cons, List.cons_append, List.nil_append, List.append_assoc]; ac_rfl))
    clear hS1
    repeat (first | refine Ev.s ?_ | refine Ev.newC fun _ _ _ => ?_ | refine Ev.boxC fun _ _ _ => ?_ | refine Ev.stC fun _ _ => ?_ | refine Ev.sc (by omega) ?_ | refine Ev.scg (by omega) ?_)
    have ht16 : T.n / 2 = 16 := by rw [hI.tw.up.n]
    refine Ev.b2 (Alloc_spec hI.qk hI.tw.up.ok (show ([] : List Int).length < 100000 by decide) (hS2.perm (L' := Ls2 ++ (TwBk w d t p q hb :: HsBk hb Hs :: (Ls3 ++ (Lp ++ L)))) (by (refine perm_cnt ?_; intro _ a; simp only [List.count_append, List.count_cons, List.cons_append, List.nil_append, List.append_assoc]; ac_rfl)))) ?_
    rw [ht16, alloc_GK (by omega)]
    clear hS2
    rintro _ H3 ⟨rfl, Ls4, B3, hm3, hQ3, hS3⟩
    dsimp only at hS3 hQ3
    have hS4 := hS3.perm (L' := Lp ++ (TwBk w d t p q hb :: HsBk hb Hs :: (Ls3 ++ (Ls4 ++ L)))) (by (refine perm_cnt ?_; intro _ a; simp only [List.count_append, List.count_cons, List.cons_append, List.nil_append, List.append_assoc]; ac_rfl))
    clear hS3
    dsimp only
    repeat (first | (first | refine Ev.s ?_ | refine Ev.newC fun _ _ _ => ?_ | refine Ev.boxC fun _ _ _ => ?_ | refine Ev.stC fun _ _ => ?_ | refine Ev.sc (by omega) ?_ | refine Ev.scg (by omega) ?_) | rw [decide_eq_true (by omega)] | rw [decide_eq_false (by omega)])
    refine GAcc.push (t := 33) (x := i64 (sure + 2)) (ds := [i64 (sure + 2)]) (hI.pg.acc hS4) rfl rfl rfl rfl (by decide) (by omega) fun v16' B5 H5 hm5 hG5 => ?_
    obtain ⟨Lp5, hG6, hS5⟩ := hG5.grs
    have hG7 : GRS 3 1 v16' (sure + 1) ((frs (sure + 1)).map i64v) Lp5 := by rw [frs_succ, List.map_append]; exact hG6
    have hS6 := hS5.perm (L' := TwBk w d t p q hb :: HsBk hb Hs :: (Ls3 ++ (Ls4 ++ (Lp5 ++ L)))) (by (refine perm_cnt ?_; intro _ a; simp only [List.count_append, List.count_cons, List.cons_append, List.nil_append, List.append_assoc]; ac_rfl))
    clear hS4 hS5 hG5 hG6
    have hB6 : Mo Bl B5 := hB.trans (hm1.mo.trans (hm3.mo.trans hm5.mo))
    have go : ∀ (B7 : AH) (H7 : AH) (D7 : Dsk) (G7 : Pgr) (Ls7 : List (Nat × Blk)) (su : Nat), MoC B5 B7 → LSt (txt l) (sure + 1) su D7 G7 → PK (ptr p 0) (ptr d 0) G7 D7 Ls7 → St H0 B0 B7 (TwBk w d t p q hb :: HsBk hb Hs :: (Ls7 ++ (Ls4 ++ (Lp5 ++ L)))) H7 →
        Ev (fun K K2 => f5_J1 K K2 lv kv torn cut (.bool true) (ptr w 0) (i64 su) (i64 (sure + 1)) v16' (i64 sure) (str (txt l sure)) (i64 (sure + 2)) H7) (fun o => ∃ B' H' i' sure' D' T' G' Hs' v16' Ls1' Ls2' Lp', o = (.exit 0, f5_X_L0 lv kv torn cut unk (.bool true) (ptr w 0) (i64 sure') (i64 i') v16', H') ∧ i' ≤ 8 ∧ i' ≤ l.length ∧ MoC B B' ∧ LI l w d t p q hb i' sure' D' T' G' Hs' v16' Ls1' Ls2' Lp' ∧
      St H0 B0 B' (TwBk w d t p q hb :: HsBk hb Hs' :: (Ls1' ++ (Ls2' ++ (Lp' ++ L)))) H') := by
      intro B7 H7 D7 G7 Ls7 su hm7 hst hP7 hS7
      refine lasts_J1 (by omega) hI.tw hQ3 hI.hs hS7 fun B8 H8 T8 Hs8 Ls8 hm8 hT8 hQ8 hH8 hS8 => ?_
      refine (ih (sure + 1) B8 H8 su D7 T8 G7 Hs8 v16' Ls7 Ls8 Lp5 (by omega) (by omega) (hB6.trans (hm7.mo.trans hm8.mo)) ⟨hst, hP7, hT8, hQ8, hH8, hG7⟩ hS8).mono ?_
      rintro o ⟨B', H', i', sure', D', T', G', Hs', v16'', Ls1', Ls2', Lp', e, h1, h2, hm', h3⟩
      exact ⟨B', H', i', sure', D', T', G', Hs', v16'', Ls1', Ls2', Lp', e, h1, h2, ⟨hm1.mo.trans (hm3.mo.trans (hm5.mo.trans (hm7.mo.trans (hm8.mo.trans hm'.mo))))⟩, h3⟩
    repeat (first | (first | refine Ev.s ?_ | refine Ev.newC fun _ _ _ => ?_ | refine Ev.boxC fun _ _ _ => ?_ | refine Ev.stC fun _ _ => ?_ | refine Ev.sc (by omega) ?_ | refine Ev.scg (by omega) ?_) | rw [decide_eq_true (by omega)] | rw [decide_eq_false (by omega)])
    have hrl := round_law hA (by omega) (txt_len l sure)
    refine Ev.b2 (Write_specP (n := ((sure + 2 : Nat) : Int)) (kind := ((2 : Nat) : Int)) (t := txt l sure) hP1 dok (by omega) (Nat.le_of_ble_eq_true rfl) (by have := txt_len l sure; omega) (by decide) (hS6.perm (L' := Ls3 ++ (TwBk w d t p q hb :: HsBk hb Hs :: (Ls4 ++ (Lp5 ++ L)))) (by (refine perm_cnt ?_; intro _ a; simp only [List.count_append, List.count_cons, List.cons_append, List.nil_append, List.append_assoc]; ac_rfl)))) ?_
    clear hS6
    rcases hrl with ⟨G9, D9, e9, hd9⟩ | ⟨D9, e9, ok9, n9, c9, hc9⟩
    · rw [e9]
      rintro _ H9 ⟨rfl, Ls9, B9, hm9, hP9, hS9⟩
      dsimp only at hS9 hP9
      have hS10 := hS9.perm (L' := TwBk w d t p q hb :: HsBk hb Hs :: (Ls9 ++ (Ls4 ++ (Lp5 ++ L)))) (by (refine perm_cnt ?_; intro _ a; simp only [List.count_append, List.count_cons, List.cons_append, List.nil_append, List.append_assoc]; ac_rfl))
      clear hS9
      dsimp only
      repeat (first | (first | refine Ev.s ?_ | refine Ev.newC fun _ _ _ => ?_ | refine Ev.boxC fun _ _ _ => ?_ | refine Ev.stC fun _ _ => ?_ | refine Ev.sc (by omega) ?_ | refine Ev.scg (by omega) ?_) | rw [decide_eq_true (by omega)] | rw [decide_eq_false (by omega)])
      exact go B9 H9 D9 G9 Ls9 sure hm9 (.inr ⟨rfl, hd9⟩) hP9 hS10
    · rw [e9]
      rintro _ H9 ⟨rfl, Ls9, B9, hm9, hP9, hS9⟩
      dsimp only at hS9 hP9
      have hS10 := hS9.perm (L' := TwBk w d t p q hb :: HsBk hb Hs :: (Ls9 ++ (Ls4 ++ (Lp5 ++ L)))) (by (refine perm_cnt ?_; intro _ a; simp only [List.count_append, List.count_cons, List.cons_append, List.nil_append, List.append_assoc]; ac_rfl))
      clear hS9
      dsimp only
      repeat (first | (first | refine Ev.s ?_ | refine Ev.newC fun _ _ _ => ?_ | refine Ev.boxC fun _ _ _ => ?_ | refine Ev.stC fun _ _ => ?_ | refine Ev.sc (by omega) ?_ | refine Ev.scg (by omega) ?_) | rw [decide_eq_true (by omega)] | rw [decide_eq_false (by omega)])
      refine Ev.b2 (Commit_spec (root := ((sure + 2 : Nat) : Int)) (m := 16) hP9 ok9 (okGK1 (by omega)) (by omega) (hS10.perm (L' := Ls9 ++ (TwBk w d t p q hb :: HsBk hb Hs :: (Ls4 ++ (Lp5 ++ L)))) (by (refine perm_cnt ?_; intro _ a; simp only [List.count_append, List.count_cons, List.cons_append, List.nil_append, List.append_assoc]; ac_rfl)))) ?_
      clear hS10
      rcases hc9 with ⟨G11, D11, e11, hd11⟩ | ⟨D11, e11, hA11⟩
      · rw [e11]
        rintro _ H11 ⟨rfl, Ls11, B11, hm11, hP11, hS11⟩
        dsimp only at hS11 hP11
        have hS12 := hS11.perm (L' := TwBk w d t p q hb :: HsBk hb Hs :: (Ls11 ++ (Ls4 ++ (Lp5 ++ L)))) (by (refine perm_cnt ?_; intro _ a; simp only [List.count_append, List.count_cons, List.cons_append, List.nil_append, List.append_assoc]; ac_rfl))
        clear hS11
        dsimp only
        repeat (first | (first | refine Ev.s ?_ | refine Ev.newC fun _ _ _ => ?_ | refine Ev.boxC fun _ _ _ => ?_ | refine Ev.stC fun _ _ => ?_ | refine Ev.sc (by omega) ?_ | refine Ev.scg (by omega) ?_) | rw [decide_eq_true (by omega)] | rw [decide_eq_false (by omega)])
        exact go B11 H11 D11 G11 Ls11 sure ⟨hm9.mo.trans hm11.mo⟩ (.inr ⟨rfl, hd11⟩) hP11 hS12
      · rw [e11]
        rintro _ H11 ⟨rfl, Ls11, B11, hm11, hP11, hS11⟩
        dsimp only at hS11 hP11
        have hS12 := hS11.perm (L' := TwBk w d t p q hb :: HsBk hb Hs :: (Ls11 ++ (Ls4 ++ (Lp5 ++ L)))) (by (refine perm_cnt ?_; intro _ a; simp only [List.count_append, List.count_cons, List.cons_append, List.nil_append, List.append_assoc]; ac_rfl))
        clear hS11
        dsimp only
        repeat (first | (first | refine Ev.s ?_ | refine Ev.newC fun _ _ _ => ?_ | refine Ev.boxC fun _ _ _ => ?_ | refine Ev.stC fun _ _ => ?_ | refine Ev.sc (by omega) ?_ | refine Ev.scg (by omega) ?_) | rw [decide_eq_true (by omega)] | rw [decide_eq_false (by omega)])
        exact go B11 H11 D11 (GK (sure + 1)) Ls11 (sure + 1) ⟨hm9.mo.trans hm11.mo⟩ (.inl ⟨rfl, rfl, hA11⟩) hP11 hS12
theorem twins_spec (tx : Nat → List UInt8) (hS : St H0 B0 B L H) :
    Ev (fun k _ => rn k 17 [.int .i64 32] H) (fun r => ∃ w d t p q hb D T Hs Ls1 Ls2 B', r.1 = .tuple #[ptr w 0, .bool true] ∧ MoC B B' ∧ Alive 0 D tx ∧ PK (ptr p 0) (ptr d 0) (GK 0) D Ls1 ∧ TwOK 0 T ∧ PK (ptr q 0) (ptr t 0) (GK 0) T Ls2 ∧ HsOK 0 Hs ∧ St H0 B0 B' (TwBk w d t p q hb :: HsBk hb Hs :: (Ls1 ++ (Ls2 ++ L))) r.2) := by
  refine Ev.fn (fun k => f17_eq k _ H) ?_
  refine Ev.mkMap (P := Tryd.prog) hS fun hb H1 hS1 => ?_
  clear hS
  repeat (first | refine Ev.s ?_ | refine Ev.newC fun _ _ _ => ?_ | refine Ev.boxC fun _ _ _ => ?_ | refine Ev.stC fun _ _ => ?_ | refine Ev.sc (by omega) ?_ | refine Ev.scg (by omega) ?_)
  rename_i w H2 hS2
  clear hS1
  refine Ev.b2 (New_spec (n := 32) (by decide) (by decide) hS2) ?_
  clear hS2
  rintro _ H3 ⟨p3, Ls3, B3, rfl, hm3, hD3, hS3⟩
  obtain ⟨d, rfl⟩ := hD3.ptr
  dsimp only at hS3
  have hS4 := hS3.perm (permW _ _ Ls3 L)
  clear hS3
  repeat (first | refine Ev.s ?_ | refine Ev.newC fun _ _ _ => ?_ | refine Ev.boxC fun _ _ _ => ?_ | refine Ev.stC fun _ _ => ?_ | refine Ev.sc (by omega) ?_ | refine Ev.scg (by omega) ?_)
  rename_i H5 hS5
  clear hS4
  refine Ev.b2 (New_spec (n := 32) (by decide) (by decide) hS5) ?_
  clear hS5
  rintro _ H6 ⟨p6, Ls6, B6, rfl, hm6, hD6, hS6⟩
  obtain ⟨t, rfl⟩ := hD6.ptr
  dsimp only at hS6
  have hS7 := hS6.perm (permX _ _ Ls6 Ls3 L)
  clear hS6
  repeat (first | refine Ev.s ?_ | refine Ev.newC fun _ _ _ => ?_ | refine Ev.boxC fun _ _ _ => ?_ | refine Ev.stC fun _ _ => ?_ | refine Ev.sc (by omega) ?_ | refine Ev.scg (by omega) ?_)
  rename_i H8 hS8
  clear hS7
  refine Ev.b2 (Format_up (m := 16) hD3 (Dsk.up_new (by decide) (by decide)) (by decide) (by decide) (by decide) (hS8.perm (permW _ _ Ls3 (Ls6 ++ L)).symm)) ?_
  clear hS8
  rintro _ H9 ⟨p, D9, ⟨rfl, Ls9, B9, hm9, hP9, hS9⟩, u9, c9, pg9⟩
  dsimp only at hS9
  have hS10 := hS9.perm (permW _ _ Ls9 (Ls6 ++ L))
  clear hS9
  repeat (first | refine Ev.s ?_ | refine Ev.newC fun _ _ _ => ?_ | refine Ev.boxC fun _ _ _ => ?_ | refine Ev.stC fun _ _ => ?_ | refine Ev.sc (by omega) ?_ | refine Ev.scg (by omega) ?_)
  rename_i H11 hS11
  clear hS10
  refine Ev.b2 (Format_up (m := 16) hD6 (Dsk.up_new (by decide) (by decide)) (by decide) (by decide) (by decide) (hS11.perm (permX _ _ Ls6 Ls9 L).symm)) ?_
  clear hS11
  rintro _ H12 ⟨q, D12, ⟨rfl, Ls12, B12, hm12, hP12, hS12⟩, u12, c12, pg12⟩
  dsimp only at hS12
  have hS13 := hS12.perm (permX _ _ Ls12 Ls9 L)
  clear hS12
  repeat (first | refine Ev.s ?_ | refine Ev.newC fun _ _ _ => ?_ | refine Ev.boxC fun _ _ _ => ?_ | refine Ev.stC fun _ _ => ?_ | refine Ev.sc (by omega) ?_ | refine Ev.scg (by omega) ?_)
  rename_i H14 hS14
  clear hS13
  have hz : ∀ D' : Dsk, D'.Up (2 * 16) → D'.cache = [] → (∀ n, n < 16 → D'.pg n = if n = 1 then sealL 1 (textH 1 0 [0, 1]) else (Dsk.new 32).pg n) → TwOK 0 D' := fun D' u c pg => by
    refine ⟨u, c, ?_, .inl ?_⟩
    · rw [headT0, pg _ (by decide), if_pos (by decide)]
    · rw [pg _ (by decide), if_neg (by decide)]
      exact new_zero (by decide)
  have hT12 := hz D12 u12 c12 pg12
  have hT9 := hz D9 u9 c9 pg9
  have hQ0 : PK (ptr q 0) (ptr t 0) (GK 0) D12 Ls12 := hP12
  obtain ⟨qb, mb, fv, Lf, Ld, hp, hD, hF, rfl⟩ := hP12
  have hS15 := hS14.perm (permN2 _ _ _ _ Ld Lf Ls9 L).symm
  clear hS14
  refine Ev.b2 (note_spec (Hs := []) hD u12 (by rw [c12]; decide) hS15) ?_
  clear hS15
  rintro _ H16 ⟨rfl, B16, hm16, hS16⟩
  dsimp only at hS16
  have hS17 := hS16.perm (permN2 _ _ _ _ Ld Lf Ls9 L)
  repeat (first | refine Ev.s ?_ | refine Ev.newC fun _ _ _ => ?_ | refine Ev.boxC fun _ _ _ => ?_ | refine Ev.stC fun _ _ => ?_ | refine Ev.sc (by omega) ?_ | refine Ev.scg (by omega) ?_)
  refine Ev.ret ⟨w, d, t, p, q, hb, D9, D12, _, Ls9, _, B16, rfl, ⟨hm3.mo.trans (hm6.mo.trans (hm9.mo.trans (hm12.mo.trans hm16.mo)))⟩, ?_, hP9, hT12, hQ0, HsOK.note (fun x hx => (List.not_mem_nil hx).elim) hT12, hS17⟩
  exact ⟨u9.ok, u9.n, u9.dn, c9, hT9.hd, hT9.od, fun h => absurd h (by decide)⟩
theorem lasts_A0 {lv kv v16 : Value} {torn cut : Int} {keep : List Int} {w d t p q hb i sure : Nat} {l : List (List UInt8)} {D T : Dsk} {G : Pgr} {Hs : List (List UInt8)} {Ls1 Ls2 Lp : List (Nat × Blk)} (hl0 : FT B lv str l) (hk0 : FT B kv i64v keep) (hll : l.length < 9223372036854775808) (hls : ∀ s ∈ l, s.length < 9223372036854775808) (hkl : keep.length < 9223372036854775808) (hcut : -9223372036854775808 ≤ cut ∧ cut < 9223372036854775808)
    (hi : i ≤ 8) (hil : i ≤ l.length) (hI : LI l w d t p q hb i sure D T G Hs v16 Ls1 Ls2 Lp) (hS : St H0 B0 B (TwBk w d t p q hb :: HsBk hb Hs :: (Ls1 ++ (Ls2 ++ (Lp ++ L)))) H) :
    Ev (fun K _ => f5_A0 K (.exit 0) (f5_X_L0 lv kv (.int .i64 torn) (.int .i64 cut) unk (.bool true) (ptr w 0) (i64 sure) (i64 i) v16) H) (fun r => r.1 = .bool true) := by
  refine Ev.eq (fun K _ => f5_A0_x0 K _ _ _ _ _ _ _ _ _ _ H) ?_
  obtain ⟨dok, dn, dca, _, dsu, daf⟩ := hI.ls.down
  obtain ⟨pb, mb, fv, Lf, Ld, hp, hD, hF, rfl⟩ := hI.pk
  have hS1 := hS.perm (L' := Lp ++ (TwBk w d t p q hb :: HsBk hb Hs :: (((pb, _) :: (mb, _) :: (Lf ++ Ld)) ++ (Ls2 ++ L)))) (by
    refine List.Perm.trans ?_ (List.Perm.refl _)
    (refine perm_cnt ?_; intro _ a; simp only [List.count_append, List.count_cons, List.cons_append, List.nil_append, List.append_assoc]; ac_rfl))
  obtain ⟨B2, hm2, h16, hS2⟩ := (hI.pg.acc hS1).fl
  have hS3 := hS2.perm (permN3 _ _ _ _ Ld Lf _)
  have hHs := hI.hs
  clear hS hS1 hS2 hI hF
  revert hS3
  generalize ((pb, (⟨[i64 G.turn, .int .i64 G.root, .map (some mb), ptr d 0, fv, .bool G.down], 61, .fix⟩ : Blk)) :: (mb, ⟨entI G.used, 57, .map⟩) :: (Lf ++ (Ls2 ++ L))) = L2
  intro hS3
  repeat (first | refine Ev.s ?_ | refine Ev.newC fun _ _ _ => ?_ | refine Ev.boxC fun _ _ _ => ?_ | refine Ev.stC fun _ _ => ?_ | refine Ev.sc (by omega) ?_ | refine Ev.scg (by omega) ?_)
  haveI hk2 : FT B2 kv i64v keep := ⟨hk0.fl.mono hm2.mo⟩
  refine Ev.b2 (Crash_spec (keep := keep) hD dok (by omega) hk2 hkl hcut (hS3.perm (permW _ _ Ld L2).symm)) ?_
  have hA := daf keep torn cut
  clear hS3
  generalize D.crash keep torn cut = E at hA
  rintro _ H4 ⟨rfl, Ls4, B4, hm4, hD4, hS4⟩
  dsimp only at hS4
  have hS5 := hS4.perm (permW (TwBk w d t p q hb) (HsBk hb Hs) Ls4 L2)
  clear hS4
  refine Ev.b2 (Q1 := fun r => r.1 = .bool true ∨ (r.1 = .bool false ∧ (∀ n, n < 2 → (openR (E.pg n)).2.2 = 0 → E.pg n ∈ Hs) ∧ ∃ B', MoC B4 B' ∧ St H0 B0 B' (TwBk w d t p q hb :: HsBk hb Hs :: (Ls4 ++ L2)) r.2)) (Ev.fn (fun K => f22_eq K _ H4) ?_) ?_
  · refine Ev.bind (Ev.loop (torn_loop hD4 hA.up (by rw [hA.ca]; decide) 2 0 B4 H4 rfl (fun n hn => absurd hn (Nat.not_lt_zero n)) hS5)) ?_
    rintro _ (⟨H', rfl⟩ | ⟨B', H', rfl, h1, h2, h3⟩)
    · refine Ev.eq (fun K _ => f22_A0_ret K _ _) ?_
      exact Ev.ret (.inl rfl)
    · refine Ev.eq (fun K _ => f22_A0_x0 K _ _) ?_
      exact Ev.ret (.inr ⟨rfl, h1, B', h2, h3⟩)
  clear hS5
  rintro _ H6 (rfl | ⟨rfl, hT, B6, hm6, hS6⟩)
  · repeat (first | refine Ev.s ?_ | refine Ev.newC fun _ _ _ => ?_ | refine Ev.boxC fun _ _ _ => ?_ | refine Ev.stC fun _ _ => ?_ | refine Ev.sc (by omega) ?_ | refine Ev.scg (by omega) ?_)
    exact Ev.ret rfl
  dsimp only at hS6
  repeat (first | refine Ev.s ?_ | refine Ev.newC fun _ _ _ => ?_ | refine Ev.boxC fun _ _ _ => ?_ | refine Ev.stC fun _ _ => ?_ | refine Ev.sc (by omega) ?_ | refine Ev.scg (by omega) ?_)
  obtain ⟨t0, V, ho, ht0, ht9, hV, htx⟩ := open_law hA (by omega) (by omega) fun n hn h => hHs _ (hT n hn h)
  refine Ev.b2 (pgOpen_spec hD4 hA.up.ok (by rw [hA.ca]; decide) (hS6.perm (permW _ _ Ls4 L2).symm)) ?_
  clear hS6
  rw [ho]
  rintro _ H7 (⟨h, _⟩ | ⟨t1, rt, U, q1, h, rfl, Ls7, B7, hm7, hP7, hS7⟩)
  · cases h
  cases h
  dsimp only at hS7
  obtain ⟨q2, rfl⟩ := hP7.ptr
  repeat (first | refine Ev.s ?_ | refine Ev.newC fun _ _ _ => ?_ | refine Ev.boxC fun _ _ _ => ?_ | refine Ev.stC fun _ _ => ?_ | refine Ev.sc (by omega) ?_ | refine Ev.scg (by omega) ?_)
  have hsub7 : ∀ x ∈ Ls7, x ∈ Ls7 ++ (TwBk w d t p q hb :: HsBk hb Hs :: L2) := fun x hx => List.mem_append_left _ hx
  refine Ev.b2 (Turn_spec hP7 hS7 hsub7) ?_
  rintro _ _ h
  cases h
  dsimp only
  repeat (first | (first | refine Ev.s ?_ | refine Ev.newC fun _ _ _ => ?_ | refine Ev.boxC fun _ _ _ => ?_ | refine Ev.stC fun _ _ => ?_ | refine Ev.sc (by omega) ?_ | refine Ev.scg (by omega) ?_) | rw [decide_eq_true (by omega)] | rw [decide_eq_false (by omega)])
  rw [Nat.add_sub_cancel]
  by_cases he : t0 = sure
  · repeat (first | (first | refine Ev.s ?_ | refine Ev.newC fun _ _ _ => ?_ | refine Ev.boxC fun _ _ _ => ?_ | refine Ev.stC fun _ _ => ?_ | refine Ev.sc (by omega) ?_ | refine Ev.scg (by omega) ?_) | rw [decide_eq_true (by omega)] | rw [decide_eq_false (by omega)])
    by_cases hz : t0 = 0
    · subst hz
      repeat (first | (first | refine Ev.s ?_ | refine Ev.newC fun _ _ _ => ?_ | refine Ev.boxC fun _ _ _ => ?_ | refine Ev.stC fun _ _ => ?_ | refine Ev.sc (by omega) ?_ | refine Ev.scg (by omega) ?_) | rw [decide_eq_true (by omega)] | rw [decide_eq_false (by omega)])
      refine Ev.b2 (Root_spec hP7 hS7 hsub7) ?_
      rintro _ _ h
      cases h
      dsimp only
      rw [show ((rootK 0 : Nat) : Int) = 0 from rfl]
      repeat (first | (first | refine Ev.s ?_ | refine Ev.newC fun _ _ _ => ?_ | refine Ev.boxC fun _ _ _ => ?_ | refine Ev.stC fun _ _ => ?_ | refine Ev.sc (by omega) ?_ | refine Ev.scg (by omega) ?_) | rw [decide_eq_true (by omega)] | rw [decide_eq_false (by omega)])
      refine Ev.b2 (Used_spec hP7 hA.up.ok hS7) ?_
      rintro v8 H8 ⟨B8, hm8, hsc8, hS8⟩
      dsimp only at hS8 hsc8
      rw [list_pages (t := 0) hV (by rw [hA.up.n]; decide)] at hsc8
      have hl_ := hsc8.len (Und.eq (P := Tryd.prog) (t := 33))
      rw [hl_, Option.bind_some]
      repeat (first | (first | refine Ev.s ?_ | refine Ev.newC fun _ _ _ => ?_ | refine Ev.boxC fun _ _ _ => ?_ | refine Ev.stC fun _ _ => ?_ | refine Ev.sc (by omega) ?_ | refine Ev.scg (by omega) ?_) | rw [decide_eq_true (by omega)] | rw [decide_eq_false (by omega)])
      exact Ev.ret rfl
    rw [decide_eq_false hz]
    repeat (first | refine Ev.s ?_ | refine Ev.newC fun _ _ _ => ?_ | refine Ev.boxC fun _ _ _ => ?_ | refine Ev.stC fun _ _ => ?_ | refine Ev.sc (by omega) ?_ | refine Ev.scg (by omega) ?_)
    have ht1 : 1 ≤ t0 := by omega
    obtain ⟨j, rfl⟩ : ∃ j, t0 = j + 1 := ⟨t0 - 1, by omega⟩
    have hr : rootK (j + 1) = j + 2 := by unfold rootK; rw [if_neg (by omega)]
    rw [hr] at hP7
    have htx2 : E.pg (j + 2) = sealL 2 (txt l j) := htx ht1
    have hrd := read_page (G := ⟨j + 1 + 1, ((j + 2 : Nat) : Int), V, [], false⟩) (n := j + 2) (k := 2) hA.up rfl (by omega) (by decide) (by decide) (txt_len l j) htx2
    refine Ev.b2 (Root_spec hP7 hS7 hsub7) ?_
    rintro _ _ h
    cases h
    dsimp only
    refine Ev.b2 (Read_specP (n := ((j + 2 : Nat) : Int)) hP7 hA.up.ok (by rw [hA.ca]; decide) hS7) ?_
    rw [hrd]
    clear hS7
    rintro _ H8 ⟨rfl, Ls8, B8, hm8, hP8, hS8⟩
    dsimp only at hS8 hP8
    unfold OpenV
    dsimp only
    repeat (first | refine Ev.s ?_ | refine Ev.newC fun _ _ _ => ?_ | refine Ev.boxC fun _ _ _ => ?_ | refine Ev.stC fun _ _ => ?_ | refine Ev.sc (by omega) ?_ | refine Ev.scg (by omega) ?_)
    have hsub8 : ∀ x ∈ Ls8, x ∈ Ls8 ++ (TwBk w d t p q hb :: HsBk hb Hs :: L2) := fun x hx => List.mem_append_left _ hx
    refine Ev.b2 (Root_spec hP8 hS8 hsub8) ?_
    rintro _ _ h
    cases h
    dsimp only
    have hf : (frs i)[j]? = some ((j + 2 : Nat) : Int) := by unfold frs; rw [List.getElem?_map, List.getElem?_range (by omega)]; rfl
    have h16b : FL B8 v16 i64v (frs i) := h16.mono (hm4.mo.trans (hm6.mo.trans (hm7.mo.trans hm8.mo)))
    have hl8 : FL B8 lv str l := hl0.fl.mono (hm2.mo.trans (hm4.mo.trans (hm6.mo.trans (hm7.mo.trans hm8.mo))))
    repeat (first | (first | refine Ev.s ?_ | refine Ev.newC fun _ _ _ => ?_ | refine Ev.boxC fun _ _ _ => ?_ | refine Ev.stC fun _ _ => ?_ | refine Ev.sc (by omega) ?_ | refine Ev.scg (by omega) ?_) | rw [decide_eq_true (by omega)] | rw [decide_eq_false (by omega)])
    rw [Nat.add_sub_cancel]
    refine Ev.ixFg j rfl hf fun pp hp => ?_
    repeat (first | (first | refine Ev.s ?_ | refine Ev.newC fun _ _ _ => ?_ | refine Ev.boxC fun _ _ _ => ?_ | refine Ev.stC fun _ _ => ?_ | refine Ev.sc (by omega) ?_ | refine Ev.scg (by omega) ?_) | rw [decide_eq_true (by omega)] | rw [decide_eq_false (by omega)])
    obtain ⟨s0, hs⟩ : ∃ x, l[j]? = some x := ⟨_, List.getElem?_eq_getElem (by omega)⟩
    have hsl := hls s0 (List.mem_of_getElem? hs)
    have et : s0.take (min s0.length 120) = txt l j := by unfold txt; rw [List.getD_eq_getElem?_getD, hs]; rfl
    try rw [Nat.add_sub_cancel]
    refine Ev.ixFg j rfl hs fun pp2 hp2 => ?_
    repeat (first | (first | refine Ev.s ?_ | refine Ev.newC fun _ _ _ => ?_ | refine Ev.boxC fun _ _ _ => ?_ | refine Ev.stC fun _ _ => ?_ | refine Ev.sc (by omega) ?_ | refine Ev.scg (by omega) ?_) | rw [decide_eq_true (by omega)] | rw [decide_eq_false (by omega)])
    try rw [Nat.add_sub_cancel]
    refine Ev.ixFg j rfl hs fun pp3 hp3 => ?_
    repeat (first | (first | refine Ev.s ?_ | refine Ev.newC fun _ _ _ => ?_ | refine Ev.boxC fun _ _ _ => ?_ | refine Ev.stC fun _ _ => ?_ | refine Ev.sc (by omega) ?_ | refine Ev.scg (by omega) ?_) | rw [decide_eq_true (by omega)] | rw [decide_eq_false (by omega)])
    rw [show (if (120 : Int) < (s0.length : Int) then (120 : Int) else (s0.length : Int)) = ((min s0.length 120 : Nat) : Int) by split <;> omega]
    rw [slc_strT (P := Tryd.prog) (t := 9) (l := s0) (i := min s0.length 120) (Nat.min_le_left _ _), Option.bind_some, et]
    repeat (first | (first | refine Ev.s ?_ | refine Ev.newC fun _ _ _ => ?_ | refine Ev.boxC fun _ _ _ => ?_ | refine Ev.stC fun _ _ => ?_ | refine Ev.sc (by omega) ?_ | refine Ev.scg (by omega) ?_) | rw [decide_eq_true (by omega)] | rw [decide_eq_false (by omega)])
    refine Ev.b2 (Used_spec hP8 hA.up.ok hS8) ?_
    rintro v9 H9 ⟨B9, hm9, hsc9, hS9⟩
    dsimp only at hS9 hsc9
    rw [list_pages (t := j + 1) hV (by rw [hA.up.n]; show j + 1 + 2 ≤ 16; omega)] at hsc9
    have hl_ := hsc9.len (Und.eq (P := Tryd.prog) (t := 33))
    rw [hl_, Option.bind_some]
    repeat (first | (first | refine Ev.s ?_ | refine Ev.newC fun _ _ _ => ?_ | refine Ev.boxC fun _ _ _ => ?_ | refine Ev.stC fun _ _ => ?_ | refine Ev.sc (by omega) ?_ | refine Ev.scg (by omega) ?_) | rw [decide_eq_true (by omega)] | rw [decide_eq_false (by omega)])
    exact Ev.ret rfl
  · repeat (first | (first | refine Ev.s ?_ | refine Ev.newC fun _ _ _ => ?_ | refine Ev.boxC fun _ _ _ => ?_ | refine Ev.stC fun _ _ => ?_ | refine Ev.sc (by omega) ?_ | refine Ev.scg (by omega) ?_) | rw [decide_eq_true (by omega)] | rw [decide_eq_false (by omega)])
    have ht1 : 1 ≤ t0 := by omega
    obtain ⟨j, rfl⟩ : ∃ j, t0 = j + 1 := ⟨t0 - 1, by omega⟩
    have hr : rootK (j + 1) = j + 2 := by unfold rootK; rw [if_neg (by omega)]
    rw [hr] at hP7
    have htx2 : E.pg (j + 2) = sealL 2 (txt l j) := htx ht1
    have hrd := read_page (G := ⟨j + 1 + 1, ((j + 2 : Nat) : Int), V, [], false⟩) (n := j + 2) (k := 2) hA.up rfl (by omega) (by decide) (by decide) (txt_len l j) htx2
    refine Ev.b2 (Root_spec hP7 hS7 hsub7) ?_
    rintro _ _ h
    cases h
    dsimp only
    refine Ev.b2 (Read_specP (n := ((j + 2 : Nat) : Int)) hP7 hA.up.ok (by rw [hA.ca]; decide) hS7) ?_
    rw [hrd]
    clear hS7
    rintro _ H8 ⟨rfl, Ls8, B8, hm8, hP8, hS8⟩
    dsimp only at hS8 hP8
    unfold OpenV
    dsimp only
    repeat (first | refine Ev.s ?_ | refine Ev.newC fun _ _ _ => ?_ | refine Ev.boxC fun _ _ _ => ?_ | refine Ev.stC fun _ _ => ?_ | refine Ev.sc (by omega) ?_ | refine Ev.scg (by omega) ?_)
    have hsub8 : ∀ x ∈ Ls8, x ∈ Ls8 ++ (TwBk w d t p q hb :: HsBk hb Hs :: L2) := fun x hx => List.mem_append_left _ hx
    refine Ev.b2 (Root_spec hP8 hS8 hsub8) ?_
    rintro _ _ h
    cases h
    dsimp only
    have hf : (frs i)[j]? = some ((j + 2 : Nat) : Int) := by unfold frs; rw [List.getElem?_map, List.getElem?_range (by omega)]; rfl
    have h16b : FL B8 v16 i64v (frs i) := h16.mono (hm4.mo.trans (hm6.mo.trans (hm7.mo.trans hm8.mo)))
    have hl8 : FL B8 lv str l := hl0.fl.mono (hm2.mo.trans (hm4.mo.trans (hm6.mo.trans (hm7.mo.trans hm8.mo))))
    repeat (first | (first | refine Ev.s ?_ | refine Ev.newC fun _ _ _ => ?_ | refine Ev.boxC fun _ _ _ => ?_ | refine Ev.stC fun _ _ => ?_ | refine Ev.sc (by omega) ?_ | refine Ev.scg (by omega) ?_) | rw [decide_eq_true (by omega)] | rw [decide_eq_false (by omega)])
    rw [Nat.add_sub_cancel]
    refine Ev.ixFg j rfl hf fun pp hp => ?_
    repeat (first | (first | refine Ev.s ?_ | refine Ev.newC fun _ _ _ => ?_ | refine Ev.boxC fun _ _ _ => ?_ | refine Ev.stC fun _ _ => ?_ | refine Ev.sc (by omega) ?_ | refine Ev.scg (by omega) ?_) | rw [decide_eq_true (by omega)] | rw [decide_eq_false (by omega)])
    obtain ⟨s0, hs⟩ : ∃ x, l[j]? = some x := ⟨_, List.getElem?_eq_getElem (by omega)⟩
    have hsl := hls s0 (List.mem_of_getElem? hs)
    have et : s0.take (min s0.length 120) = txt l j := by unfold txt; rw [List.getD_eq_getElem?_getD, hs]; rfl
    try rw [Nat.add_sub_cancel]
    refine Ev.ixFg j rfl hs fun pp2 hp2 => ?_
    repeat (first | (first | refine Ev.s ?_ | refine Ev.newC fun _ _ _ => ?_ | refine Ev.boxC fun _ _ _ => ?_ | refine Ev.stC fun _ _ => ?_ | refine Ev.sc (by omega) ?_ | refine Ev.scg (by omega) ?_) | rw [decide_eq_true (by omega)] | rw [decide_eq_false (by omega)])
    try rw [Nat.add_sub_cancel]
    refine Ev.ixFg j rfl hs fun pp3 hp3 => ?_
    repeat (first | (first | refine Ev.s ?_ | refine Ev.newC fun _ _ _ => ?_ | refine Ev.boxC fun _ _ _ => ?_ | refine Ev.stC fun _ _ => ?_ | refine Ev.sc (by omega) ?_ | refine Ev.scg (by omega) ?_) | rw [decide_eq_true (by omega)] | rw [decide_eq_false (by omega)])
    rw [show (if (120 : Int) < (s0.length : Int) then (120 : Int) else (s0.length : Int)) = ((min s0.length 120 : Nat) : Int) by split <;> omega]
    rw [slc_strT (P := Tryd.prog) (t := 9) (l := s0) (i := min s0.length 120) (Nat.min_le_left _ _), Option.bind_some, et]
    repeat (first | (first | refine Ev.s ?_ | refine Ev.newC fun _ _ _ => ?_ | refine Ev.boxC fun _ _ _ => ?_ | refine Ev.stC fun _ _ => ?_ | refine Ev.sc (by omega) ?_ | refine Ev.scg (by omega) ?_) | rw [decide_eq_true (by omega)] | rw [decide_eq_false (by omega)])
    refine Ev.b2 (Used_spec hP8 hA.up.ok hS8) ?_
    rintro v9 H9 ⟨B9, hm9, hsc9, hS9⟩
    dsimp only at hS9 hsc9
    rw [list_pages (t := j + 1) hV (by rw [hA.up.n]; show j + 1 + 2 ≤ 16; omega)] at hsc9
    have hl_ := hsc9.len (Und.eq (P := Tryd.prog) (t := 33))
    rw [hl_, Option.bind_some]
    repeat (first | (first | refine Ev.s ?_ | refine Ev.newC fun _ _ _ => ?_ | refine Ev.boxC fun _ _ _ => ?_ | refine Ev.stC fun _ _ => ?_ | refine Ev.sc (by omega) ?_ | refine Ev.scg (by omega) ?_) | rw [decide_eq_true (by omega)] | rw [decide_eq_false (by omega)])
    exact Ev.ret rfl
theorem lasts_J0 {lv kv : Value} {torn cut : Int} {keep : List Int} {n : Nat} {w d t p q hb : Nat} {l : List (List UInt8)} {D T : Dsk} {Hs : List (List UInt8)} {Ls1 Ls2 : List (Nat × Blk)} (hl0 : FT B lv str l) (hk0 : FT B kv i64v keep) (hll : l.length < 9223372036854775808) (hls : ∀ s ∈ l, s.length < 9223372036854775808) (hkl : keep.length < 9223372036854775808) (hcut : -9223372036854775808 ≤ cut ∧ cut < 9223372036854775808)
    (hA : Alive 0 D (txt l)) (hP : PK (ptr p 0) (ptr d 0) (GK 0) D Ls1) (hT : TwOK 0 T) (hQ : PK (ptr q 0) (ptr t 0) (GK 0) T Ls2) (hH : HsOK 0 Hs) (hS : St H0 B0 B (TwBk w d t p q hb :: HsBk hb Hs :: (Ls1 ++ (Ls2 ++ L))) H) (hn : n < 9223372036854775808) :
    Ev (fun K _ => f5_J0 K lv (i64 n) kv (.int .i64 torn) (.int .i64 cut) (.bool true) (ptr w 0) H) (fun r => r.1 = .bool true) := by
  refine Ev.eq (fun K _ => f5_J0_eq K _ _ _ _ _ _ _ H) ?_
  obtain ⟨pb, mb, fv, Lf, Ld, hp, hD, hF, rfl⟩ := hP
  have hS1 := hS.perm (permN3 _ _ _ _ Ld Lf _)
  clear hS
  have hmod := Nat.mod_lt n (show 0 < 60 by decide)
  repeat (first | (first | refine Ev.s ?_ | refine Ev.newC fun _ _ _ => ?_ | refine Ev.boxC fun _ _ _ => ?_ | refine Ev.stC fun _ _ => ?_ | refine Ev.sc (by omega) ?_ | refine Ev.scg (by omega) ?_) | rw [decide_eq_true (by omega)] | rw [decide_eq_false (by omega)])
  generalize n % 60 = f at hmod
  refine Ev.b2 (Fuse_spec (n := (f : Int)) hD (hS1.perm (permW _ _ Ld _).symm)) ?_
  clear hS1
  rintro _ H2 ⟨rfl, Ld2, B2, hm2, hD2, hS2⟩
  dsimp only at hS2
  have hS3 := hS2.perm (permN4 _ _ _ _ Ld2 Lf _)
  clear hS2
  have hA2 : Alive 0 { D with fuse := max (f : Int) (-1) } (txt l) := ⟨⟨hA.ok.n1, hA.ok.n2, hA.ok.len, hA.ok.ca, by show -1 ≤ max (f : Int) (-1) ∧ max (f : Int) (-1) < _; omega⟩, hA.n, hA.dn, hA.ca, hA.hd, hA.od, hA.pt⟩
  haveI hl2 : FT B2 lv str l := ⟨hl0.fl.mono hm2.mo⟩
  haveI hk2 : FT B2 kv i64v keep := ⟨hk0.fl.mono hm2.mo⟩
  refine Ev.bind (Ev.loop (lasts_L0 hl2 hll hls 8 0 B2 H2 0 _ T (GK 0) Hs (.slice none 0 0) _ Ls2 [] rfl (Nat.zero_le _) (Mo.refl B2) ⟨.inl ⟨rfl, rfl, hA2⟩, ⟨pb, mb, fv, Lf, Ld2, hp, hD2, hF, rfl⟩, hT, hQ, hH, GRS.nil⟩ hS3)) ?_
  rintro _ ⟨B4, H4, i, sure, D4, T4, G4, Hs4, v4, Ls4, Ls5, Lp4, rfl, hi8, hil, hm4, hI4, hS4⟩
  exact lasts_A0 (B := B4) ⟨hl2.fl.mono hm4.mo⟩ ⟨hk2.fl.mono hm4.mo⟩ hll hls hkl hcut hi8 hil hI4 hS4
theorem lasts_law {lv kv : Value} {fuse torn cut : Int} {keep : List Int} {l : List (List UInt8)} (hl0 : FT B lv str l) (hk0 : FT B kv i64v keep) (hll : l.length < 9223372036854775808) (hls : ∀ s ∈ l, s.length < 9223372036854775808) (hkl : keep.length < 9223372036854775808) (hf : -9223372036854775808 ≤ fuse ∧ fuse < 9223372036854775808) (hcut : -9223372036854775808 ≤ cut ∧ cut < 9223372036854775808) (hL : Le B H) :
    Ev (fun k _ => rn k 5 [lv, .int .i64 fuse, kv, .int .i64 torn, .int .i64 cut] H) (fun r => r.1 = .bool true) := by
  refine Ev.fn (fun k => f5_eq k _ _ _ _ _ H) ?_
  have hS := St.start hL
  refine Ev.b2 (examples_spec hS) ?_
  rintro _ H1 ⟨rfl, B1, hm1, hS1⟩
  dsimp only at hS1
  clear hS
  repeat (first | refine Ev.s ?_ | refine Ev.newC fun _ _ _ => ?_ | refine Ev.boxC fun _ _ _ => ?_ | refine Ev.stC fun _ _ => ?_ | refine Ev.sc (by omega) ?_ | refine Ev.scg (by omega) ?_)
  refine Ev.b2 (twins_spec (txt l) hS1) ?_
  clear hS1
  rintro _ H2 ⟨w, d, t, p, q, hb, D, T, Hs, Ls1, Ls2, B2, rfl, hm2, hA, hP, hT, hQ, hH, hS2⟩
  dsimp only at hS2
  have hl2 : FT B2 lv str l := ⟨hl0.fl.mono (hm1.mo.trans hm2.mo)⟩
  have hk2 : FT B2 kv i64v keep := ⟨hk0.fl.mono (hm1.mo.trans hm2.mo)⟩
  repeat (first | refine Ev.s ?_ | refine Ev.newC fun _ _ _ => ?_ | refine Ev.boxC fun _ _ _ => ?_ | refine Ev.stC fun _ _ => ?_ | refine Ev.sc (by omega) ?_ | refine Ev.scg (by omega) ?_)
  by_cases h0 : fuse < 0
  · rw [decide_eq_true h0]
    obtain ⟨m0, hm0⟩ : ∃ m0 : Nat, -(fuse + 1) = m0 := ⟨(-(fuse + 1)).toNat, by omega⟩
    repeat (first | refine Ev.s ?_ | refine Ev.newC fun _ _ _ => ?_ | refine Ev.boxC fun _ _ _ => ?_ | refine Ev.stC fun _ _ => ?_ | refine Ev.sc (by omega) ?_ | refine Ev.scg (by omega) ?_)
    rw [show IntKind.i64.wrap (0 - (fuse + 1)) = (m0 : Int) by rw [wrap64 (by omega)]; omega]
    exact lasts_J0 hl2 hk2 hll hls hkl hcut hA hP hT hQ hH hS2 (by omega)
  · rw [decide_eq_false h0]
    obtain ⟨m0, rfl⟩ : ∃ m0 : Nat, fuse = m0 := ⟨fuse.toNat, by omega⟩
    repeat (first | refine Ev.s ?_ | refine Ev.newC fun _ _ _ => ?_ | refine Ev.boxC fun _ _ _ => ?_ | refine Ev.stC fun _ _ => ?_ | refine Ev.sc (by omega) ?_ | refine Ev.scg (by omega) ?_)
    exact lasts_J0 hl2 hk2 hll hls hkl hcut hA hP hT hQ hH hS2 (by omega)
theorem corePagerLasts (H : AH) (vs : List Value) (x : List ByteArray × Int × List Int × Int × Int × Unit) (hK : ∃ v0 vs0, vs = v0 :: vs0 ∧ KvC KStrs H x.1 v0 ∧ ∃ v1 vs1, vs0 = v1 :: vs1 ∧ KvC (Kn.int .i64) H x.2.1 v1 ∧ ∃ v2 vs2, vs1 = v2 :: vs2 ∧ KvC KInts H x.2.2.1 v2 ∧ ∃ v3 vs3, vs2 = v3 :: vs3 ∧ KvC (Kn.int .i64) H x.2.2.2.1 v3 ∧ ∃ v4 vs4, vs3 = v4 :: vs4 ∧ KvC (Kn.int .i64) H x.2.2.2.2.1 v4 ∧ vs4 = [])
    (hG : (x.1.length ≤ maxLen ∧ ∀ s ∈ x.1, s.size ≤ maxLen) ∧ (Lit.int .i64 x.2.1).wf = true ∧ (x.2.2.1.length ≤ maxLen ∧ ∀ n ∈ x.2.2.1, (Lit.int .i64 n).wf = true) ∧ (Lit.int .i64 x.2.2.2.1).wf = true ∧ (Lit.int .i64 x.2.2.2.2.1).wf = true ∧ True) : Ev (fun k _ => rn k 5 vs H) (fun r => r.1 = .bool true) := by
  obtain ⟨v0, _, rfl, h0, v1, _, rfl, h1, v2, _, rfl, h2, v3, _, rfl, h3, v4, _, rfl, h4, rfl⟩ := hK
  have h1 : [v1] = [.int .i64 x.2.1] := h1
  cases h1
  have h3 : [v3] = [.int .i64 x.2.2.2.1] := h3
  cases h3
  have h4 : [v4] = [.int .i64 x.2.2.2.2.1] := h4
  cases h4
  obtain ⟨⟨g0, g0'⟩, g1, ⟨g2, g2'⟩, g3, g4, _⟩ := hG
  have hm : maxLen < 9223372036854775808 := by decide
  refine lasts_law ⟨strs_open h0⟩ ⟨ints_open h2⟩ (by rw [List.length_map]; omega) (fun s hs => ?_) (by omega) ?_ ?_ ⟨Mo.refl H⟩
  · obtain ⟨b, hb, rfl⟩ := List.mem_map.1 hs
    have := g0' b hb
    rw [Array.length_toList]
    exact Nat.lt_of_le_of_lt this (by decide)
  · simp [Lit.wf, IntKind.min, IntKind.max, IntKind.bits, IntKind.signed] at g1; omega
  · simp [Lit.wf, IntKind.min, IntKind.max, IntKind.bits, IntKind.signed] at g4; omega
end
end Go.AM.G
