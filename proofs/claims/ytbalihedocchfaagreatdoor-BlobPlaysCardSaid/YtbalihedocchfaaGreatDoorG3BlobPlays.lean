/-
  Facts of the abstract evaluator and of the functions that the law reaches, part 3. Conditions: none.
-/
import Derived.Shelf.Strings.BuilderX
import Derived.Shelf.RegionOpenPlain
import Derived.Lib.Strings
import Derived.Lib.Walk
import Derived.Lib.Builder
import Derived.Lib.MakeNoZero
import Derived.WalkKit
import Derived.Laws.Externs
import Derived.Laws.IdiomCopy
import Derived.Laws.PanicsMore
import Derived.Test.YtbalihedocchfaaGreatDoorG2BlobPlays
set_option linter.unusedVariables false
set_option linter.unusedSimpArgs false
set_option linter.unnecessarySimpa false
set_option exponentiation.threshold 200000
set_option maxRecDepth 100000
namespace Go.AM
def secsB (n : Nat) (bs : List UInt8) : List (List UInt8) := (List.range n).map fun i => sec bs i
theorem secsB_len (n : Nat) (bs : List UInt8) : (secsB n bs).length = n := by simp [secsB]
theorem secsB_at {n i : Nat} {bs : List UInt8} (h : i < n) : (secsB n bs)[i]? = some (sec bs i) := by
  unfold secsB; rw [List.getElem?_map, List.getElem?_range h]; rfl
theorem secsB_lay {n a : Nat} {bs s : List UInt8} (h : bs.length = 64 * n) (ha : a < n) (hs : s.length = 64) : (secsB n bs).set a s = secsB n (layB bs a s) := by
  apply List.ext_getElem?
  intro i
  by_cases hi : i < n
  · rw [secsB_at hi, sec_lay64 h ha hs hi, List.getElem?_set, secsB_len]
    by_cases he : a = i
    · rw [if_pos he, if_pos he, if_pos ha]
    · rw [if_neg he, if_neg he, secsB_at hi]
  · rw [List.getElem?_eq_none (by rw [List.length_set, secsB_len]; omega), List.getElem?_eq_none (by rw [secsB_len]; omega)]
theorem secsB_new {n i : Nat} (h : i ≤ n) : secsB i (List.replicate (64 * n) 0) = List.replicate i (List.replicate 64 0) := by
  apply List.ext_getElem?
  intro j
  by_cases hj : j < i
  · rw [secsB_at hj, List.getElem?_replicate, if_pos hj]
    congr 1
    unfold sec
    rw [List.drop_replicate, List.take_replicate, Nat.min_eq_left (by omega)]
  · rw [List.getElem?_eq_none (by rw [secsB_len]; omega), List.getElem?_eq_none (by rw [List.length_replicate]; omega)]
section
variable {P : Program} {R : Type} {t e : TypeId} {z : List Value} {sz by_ n : Nat} {v : Value} {cs : List Value} {Lx Ly : List (Nat × Blk)} {H0 B0 B H : AH}
theorem GRS.slc3 [hE : EltS P t e z sz by_] (h : GRS e sz v n cs Lx) (hS : St H0 B0 B Ly H) (hsub : ∀ p ∈ Lx, p ∈ Ly) : Go.AM.slc3 P t H v none (some (i64 n)) (i64 n) = some v := by
  rcases h with ⟨rfl, rfl, hv, rfl⟩ | ⟨hne, hl, b, kd, cap, rfl, hk, rfl⟩
  · rcases hv with rfl | ⟨b, off, rfl⟩
    · rw [show i64 0 = Value.int .i64 0 from rfl]
      unfold Go.AM.slc3; rw [hE.U]; simp only [intOr]
      simp [hE.I]
    · rw [show i64 0 = Value.int .i64 0 from rfl]
      unfold Go.AM.slc3 sl; rw [hE.U]; simp only [intOr]
      simp [hE.I]
  · have hb := hS.get (hsub _ (List.mem_singleton.2 rfl))
    unfold Go.AM.slc3; rw [hE.U]
    show (if (P.info? e).isSome = true then (if ((n : Nat) : Int) = 0 ∧ ((n : Nat) : Int) = 0 then some (Go.AM.sl b 0 0 0) else if ((n : Nat) : Int) = ((n : Nat) : Int) ∧ ((n : Nat) : Int) = ((n : Nat) : Int) then (blk H b).bind fun k => match k.kind with
      | .fix => some (Go.AM.sl b 0 (n) (n))
      | _ => some (Go.AM.sl b 0 (n) cap) else none) else none) = _
    rw [if_pos hE.I, if_neg (by omega), if_pos ⟨rfl, rfl⟩, hb, Option.bind_some]
    rcases hk with ⟨rfl | rfl, h2, h3⟩ | ⟨rfl, rfl⟩ <;> rfl
theorem FRS.slc3 {l : List Int} (hE : Elt P t e (.int .i64 0) 8) (h : FRS e v l Lx) (hS : St H0 B0 B Ly H) (hsub : ∀ p ∈ Lx, p ∈ Ly) : ∃ v' Lx', Go.AM.slc3 P t H v none (some (i64 l.length)) (i64 l.length) = some v' ∧ FRS e v' l Lx' ∧ Lx'.Sublist Lx := by
  rcases h with ⟨rfl, hv, rfl⟩ | ⟨b, cap, rest, rfl, h1, h2, rfl⟩
  · rcases hv with rfl | ⟨b, off, rfl⟩
    · refine ⟨.slice none 0 0, [], ?_, .inl ⟨rfl, .inl rfl, rfl⟩, List.Sublist.refl _⟩
      rw [show i64 ([] : List Int).length = Value.int .i64 0 from rfl]
      unfold Go.AM.slc3; rw [hE.U]; simp only [intOr]
      simp [hE.I]
    · refine ⟨sl b off 0 0, [], ?_, .inl ⟨rfl, .inr ⟨b, off, rfl⟩, rfl⟩, List.Sublist.refl _⟩
      rw [show i64 ([] : List Int).length = Value.int .i64 0 from rfl]
      unfold Go.AM.slc3 sl; rw [hE.U]; simp only [intOr]
      simp [hE.I]
  · have hb := hS.get (hsub _ (List.mem_singleton.2 rfl))
    by_cases h0 : l.length = 0
    · refine ⟨sl b 0 0 0, [], ?_, .inl ⟨List.length_eq_zero_iff.1 h0, .inr ⟨b, 0, rfl⟩, rfl⟩, List.nil_sublist _⟩
      rw [h0, show i64 0 = Value.int .i64 0 from rfl]
      unfold Go.AM.slc3 sl; rw [hE.U]; simp only [intOr]
      simp [hE.I]
    · refine ⟨sl b 0 l.length cap, [(b, ⟨intV l ++ rest, e, .grow⟩)], ?_, .inr ⟨b, cap, rest, rfl, h1, h2, rfl⟩, List.Sublist.refl _⟩
      unfold Go.AM.slc3; rw [hE.U]
      show (if (P.info? e).isSome = true then (if ((l.length : Nat) : Int) = 0 ∧ ((l.length : Nat) : Int) = 0 then some (Go.AM.sl b 0 0 0) else if ((l.length : Nat) : Int) = ((l.length : Nat) : Int) ∧ ((l.length : Nat) : Int) = ((l.length : Nat) : Int) then (blk H b).bind fun k => match k.kind with
        | .fix => some (Go.AM.sl b 0 (l.length) (l.length))
        | _ => some (Go.AM.sl b 0 (l.length) cap) else none) else none) = _
      rw [if_pos hE.I, if_neg (by omega), if_pos ⟨rfl, rfl⟩, hb, Option.bind_some]
end
def WRS (e : TypeId) (v : Value) (cs : List Value) (Lx : List (Nat × Blk)) : Prop :=
  (cs = [] ∧ (v = .slice none 0 0 ∨ ∃ b off, v = sl b off 0 0) ∧ Lx = []) ∨
  (∃ b cap, v = sl b 0 cs.length cap ∧ cap ≠ 0 ∧ cs.length ≤ cap ∧ Lx = [(b, ⟨cs, e, .grow⟩)])
section
variable {P : Program} {R : Type} {e t : TypeId} {v : Value} {cs : List Value} {Lx : List (Nat × Blk)} {H0 B0 B H : AH} {L : List (Nat × Blk)}
theorem WRS.nil : WRS e (.slice none 0 0) [] [] := .inl ⟨rfl, .inl rfl, rfl⟩
theorem WRS.cell (h : WRS e v cs Lx) : IsCell v := by
  rcases h with ⟨_, rfl | ⟨b, off, rfl⟩, _⟩ | ⟨b, cap, rfl, _⟩ <;> exact inferInstance
theorem WRS.len {e' : TypeId} (hU : P.underlying t = some (.slice e')) (h : WRS e v cs Lx) : lenV P t v = some (i64 cs.length) := by
  rcases h with ⟨rfl, rfl | ⟨b, off, rfl⟩, _⟩ | ⟨b, cap, rfl, _⟩ <;> exact lenV_sl hU
theorem WRS.now {Ly : List (Nat × Blk)} (h : WRS e v cs Lx) (hS : St H0 B0 B Ly H) (hsub : ∀ p ∈ Lx, p ∈ Ly) : ScN H v cs.length 1 cs := by
  rcases h with ⟨rfl, rfl | ⟨b, off, rfl⟩, rfl⟩ | ⟨b, cap, rfl, h1, h2, rfl⟩
  · exact .inl ⟨rfl, rfl, rfl⟩
  · exact .inr ⟨b, off, 0, rfl, Nat.le_refl _, rfl, .inl rfl⟩
  · refine .inr ⟨b, 0, cap, rfl, h2, by simp, .inr ⟨_, hS.get (hsub _ (List.mem_singleton.2 rfl)), ?_⟩⟩
    unfold rdN
    rw [if_pos (by simp), List.drop_zero, Nat.mul_one, List.take_length]
theorem WRS.push {x z : Value} {by_ : Nat} {f : Nat → Nat → Value → AH → Option R} {Q : R → Prop} [hE : Elt P t e z by_] (hg : gkl [z] = .grow) (hx : isCell x = true) (h : WRS e v cs Lx) (hS : St H0 B0 B (Lx ++ L) H) (hl : (cs.length + 1) * by_ ≤ 140737488355328 ∧ cs.length + 1 ≤ 1000000000000)
    (hk : ∀ v' Lx' H', WRS e v' (cs ++ [x]) Lx' → St H0 B0 B (Lx' ++ L) H' → Ev (fun k n => f k n v' H') Q) :
    Ev (fun k n => Go.AM.b2 (Go.AM.buildS P t H 1 [(0, x)]) fun w h => Go.AM.b2 (Go.AM.ap P t t h v w) (f k n)) Q := by
  have hxc := cells_one hx
  have hxs : x.cells.size = 1 := by rw [← Array.length_toList, hxc]; rfl
  have hzs : z.cells.size = 1 := by rw [← Array.length_toList, hE.zn]; rfl
  have hb : Go.AM.buildS P t H 1 [(0, x)] = some (sl H.length 0 1 1, mkB H [x] e .fix) := by
    unfold Go.AM.buildS
    rw [hE.U]; simp only [hE.Z, Option.bind_some, hE.S]
    rw [if_pos ⟨by omega, hzs⟩]
    simp only [fillB, rep, List.append_nil, Nat.zero_mul, hE.zn]
    rw [if_pos ⟨hxs, by simp, okCells_of hx⟩, hxc]
    rfl
  refine Ev.prim2 hb ?_
  have hw : ScN (mkB H [x] e .fix) (sl H.length 0 1 1) 1 1 [x] := .inr ⟨H.length, 0, 1, rfl, Nat.le_refl _, rfl, .inr ⟨_, blk_mkB_new, rfl⟩⟩
  have hES : EltS P t e [z] 1 by_ := inferInstance
  have ha := ap_eqS (P := P) (t := t) (u := t) (s := v) hE.U hw (by simp [hx])
  rw [hg] at ha
  have hS1 := (hS.mkB' [x] e .fix).drop1
  rcases h with ⟨rfl, hv, rfl⟩ | ⟨b, cap, rfl, h1, h2, rfl⟩
  · have hl1 : (0 + 1) * by_ ≤ 140737488355328 := hl.1
    refine Ev.prim2 (v := sl (mkB H [x] e .fix).length 0 1 2) (H := mkB (mkB H [x] e .fix) [x] e .grow) ?_ (hk _ [((mkB H [x] e .fix).length, ⟨[x], e, .grow⟩)] _ (.inr ⟨_, 2, rfl, by simp, by simp, rfl⟩) (hS1.mkB' _ _ _))
    rw [ha]
    rcases hv with rfl | ⟨b, off, rfl⟩
    · unfold apS
      try dsimp only
      rw [if_neg (by decide), if_pos ⟨by omega, by omega⟩]
      rfl
    · unfold apS sl
      dsimp only
      rw [if_neg (by decide), if_pos rfl, if_pos ⟨by omega, by omega⟩]
  · have hb1 := hS1.get (.head _)
    refine Ev.prim2 (v := sl (mkB H [x] e .fix).length 0 (cs.length + 1) (cs.length + 1 + 1)) (H := mkB (kill (mkB H [x] e .fix) b) (cs ++ [x]) e .grow) ?_
      (hk _ [((mkB H [x] e .fix).length, ⟨cs ++ [x], e, .grow⟩)] _ (.inr ⟨(mkB H [x] e .fix).length, cs.length + 1 + 1, by rw [List.length_append]; rfl, by omega, by rw [List.length_append]; simp, rfl⟩) ?_)
    · rw [ha]
      unfold apS sl
      dsimp only
      rw [if_neg (by decide), if_neg h1, hb1, Option.bind_some]
      have hrd : rdN ⟨cs, e, .grow⟩ 0 (cs.length * 1) = some cs := by
        unfold rdN
        rw [if_pos (by simp), List.drop_zero, Nat.mul_one, List.take_length]
      rw [hrd, Option.bind_some, if_pos ⟨by omega, by omega, rfl⟩]
      dsimp only
      rw [if_pos rfl]
    · have := hS1.kill.mkB' (cs ++ [x]) e .grow
      rw [length_kill] at this
      exact this
theorem WRS.store {w z : Value} {by_ i : Nat} [hE : Elt P t e z by_] (ha : aggT P e = some false) (h : WRS e v cs Lx) (hS : St H0 B0 B (Lx ++ L) H) (hi : i < cs.length) (hw : isCell w = true) :
    ∃ p H' Lx', (∀ k : IntKind, ixA P t v (.int k (i : Int)) = some p) ∧ Go.AM.st P e H p w = some H' ∧ WRS e v (cs.set i w) Lx' ∧ St H0 B0 B (Lx' ++ L) H' := by
  rcases h with ⟨rfl, _⟩ | ⟨b, cap, rfl, h1, h2, rfl⟩
  · exact absurd hi (Nat.not_lt_zero _)
  · have hst : stK P e cs i w = some (cs.set i w) := by
      unfold stK
      rw [ha]
      dsimp only
      rw [if_pos ⟨hE.S, hi, hw⟩]
    refine ⟨ptr b i, _, [(b, ⟨cs.set i w, e, .grow⟩)], fun k => ?_, st_blk (hS.get (.head _)) rfl hst, .inr ⟨b, cap, by rw [List.length_set], h1, by rw [List.length_set]; exact h2, rfl⟩, hS.put (.head _)⟩
    unfold ixA sl
    rw [hE.U]
    dsimp only
    rw [if_pos ⟨hE.I, by omega, by omega⟩, hE.S, Int.toNat_natCast, Nat.mul_one, Nat.zero_add]
end
theorem ScN.at2 {P : Program} {t e : TypeId} {z : List Value} {by_ : Nat} {k : IntKind} [hE : EltS P t e z 2 by_] {H : AH} {v : Value} {n i : Nat} {cs : List Value} (h : ScN H v n 2 cs) (hi : i < n) :
    ∃ b o, ixA P t v (.int k (i : Int)) = some (Go.AM.ptr b o) ∧ ∀ (ft : TypeId) (j : Nat) (x : Value), aggT P ft = some false → j < 2 → cs[i * 2 + j]? = some x → Go.AM.ld P ft H (Go.AM.ptr b (o + j)) = some x := by
  obtain ⟨b, o, h1, K, h2, h3, h4⟩ := h.ix (k := k) hE.U hE.I hE.S hi
  refine ⟨b, o, h1, fun ft j x ha hj hx => ?_⟩
  rw [ld_blk h2]
  unfold ldK
  rw [ha]
  dsimp only
  have h5 : ((K.cells.drop o).take 2)[j]? = (nth 2 cs i)[j]? := by rw [h4]
  unfold nth at h5
  rw [List.getElem?_take_of_lt hj, List.getElem?_drop, List.getElem?_take_of_lt hj, List.getElem?_drop] at h5
  rw [h5]; exact hx
theorem caCells_two {l : List (Nat × List UInt8)} {i a : Nat} {s : List UInt8} (h : l[i]? = some (a, s)) : (caCells l)[i * 2 + 0]? = some (i64 a) ∧ (caCells l)[i * 2 + 1]? = some (str s) := by
  have h0 := caCells_at h
  constructor
  · have : (((caCells l).drop (i * 2)).take 2)[0]? = some (i64 a) := by rw [h0]; rfl
    rwa [List.getElem?_take_of_lt (by decide), List.getElem?_drop] at this
  · have : (((caCells l).drop (i * 2)).take 2)[1]? = some (str s) := by rw [h0]; rfl
    rwa [List.getElem?_take_of_lt (by decide), List.getElem?_drop] at this
end Go.AM
namespace Go.AM
theorem perm_cnt {α : Type} {A B : List α} (h : ∀ (_ : DecidableEq α) (a : α), A.count a = B.count a) : A.Perm B := by
  classical exact List.perm_iff_count.2 fun a => h _ a
def two (n : Nat) (x : List UInt8) : List (Nat × List UInt8) := [(2 * n, x.take 64), (2 * n + 1, x.drop 64)]
end Go.AM
namespace Go.AM.F
open Go Go.AM Go.Proofs
attribute [local irreducible] run bin un ld st box newV mkS fldA fld ixA ix slc slc3 build buildS cv cvS ap cpy lenV gOp pickV b2 aIf aChk evalK resume iterD Option.bind

section
variable {B B0 H0 H : AH} {L : List (Nat × Blk)}
def XK (p : Value) (D : Dsk) (Ls : List (Nat × Blk)) : Prop := ∃ x sv cv fx Ls1 Lc, p = ptr x 0 ∧ max fx (-1) = D.fuse ∧ -9223372036854775808 ≤ fx ∧ WRS 9 sv ((secsB D.n D.bytes).map str) Ls1 ∧ GRS 118 2 cv D.cache.length (caCells D.cache) Lc ∧
  Ls = (x, ⟨[sv, cv, .int .i64 fx, .bool D.down], 36, .fix⟩) :: (Ls1 ++ Lc)
theorem XK.ptr {p : Value} {D : Dsk} {Ls : List (Nat × Blk)} (h : XK p D Ls) : ∃ d, p = ptr d 0 := by obtain ⟨d, _, _, _, _, _, hp, _⟩ := h; exact ⟨d, hp⟩
def XkP (H0 B0 B : AH) (L : List (Nat × Blk)) (p v : Value) (D : Dsk) (r : Value × AH) : Prop := r.1 = v ∧ ∃ Ls B', MoC B B' ∧ XK p D Ls ∧ St H0 B0 B' (Ls ++ L) r.2
theorem xact_spec {x : Nat} {sv cv : Value} {fx : Int} {dn : Bool} {Q : Value × AH → Prop} (hf : -9223372036854775808 ≤ fx ∧ fx < 9223372036854775808) [IsCell sv] [IsCell cv] (hS : St H0 B0 B ((x, ⟨[sv, cv, .int .i64 fx, .bool dn], 36, .fix⟩) :: L) H)
    (h0 : fx = 0 → ∀ H', St H0 B0 B ((x, ⟨[sv, cv, .int .i64 fx, .bool true], 36, .fix⟩) :: L) H' → Q (.bool false, H'))
    (h1 : fx ≠ 0 → ∀ fy H', max fy (-1) = max (max fx (-1) - 1) (-1) → -9223372036854775808 ≤ fy → St H0 B0 B ((x, ⟨[sv, cv, .int .i64 fy, .bool dn], 36, .fix⟩) :: L) H' → Q (.bool true, H')) :
    Ev (fun k _ => rn k 75 [ptr x 0] H) Q := by
  refine Ev.fn (fun k => f75_eq k _ H) ?_
  repeat (first|refine zA ?_|refine zB fun _ _ _=>?_|refine zC fun _ _ _=>?_|refine zD fun _ _=>?_|refine zE ?_|refine zF ?_)
  by_cases hz : fx = 0
  · rw [decide_eq_true hz]
    repeat (first|refine zA ?_|refine zB fun _ _ _=>?_|refine zC fun _ _ _=>?_|refine zD fun _ _=>?_|refine zE ?_|refine zF ?_)
    exact Ev.ret (h0 hz _ (by assumption))
  · rw [decide_eq_false hz]
    repeat (first|refine zA ?_|refine zB fun _ _ _=>?_|refine zC fun _ _ _=>?_|refine zD fun _ _=>?_|refine zE ?_|refine zF ?_)
    by_cases hp : fx > 0
    · rw [decide_eq_true hp]
      obtain ⟨f, rfl⟩ : ∃ f : Nat, fx = f := ⟨fx.toNat, by omega⟩
      repeat (first | (first|refine zA ?_|refine zB fun _ _ _=>?_|refine zC fun _ _ _=>?_|refine zD fun _ _=>?_|refine zE ?_|refine zF ?_) | rw [decide_eq_true (by omega)] | rw [decide_eq_false (by omega)])
      exact Ev.ret (h1 hz ((f - 1 : Nat) : Int) _ (by omega) (by omega) (by assumption))
    · rw [decide_eq_false hp]
      repeat (first|refine zA ?_|refine zB fun _ _ _=>?_|refine zC fun _ _ _=>?_|refine zD fun _ _=>?_|refine zE ?_|refine zF ?_)
      exact Ev.ret (h1 hz fx _ (by omega) hf.1 hS)
theorem xWrite_spec {p : Value} {D : Dsk} {Ls : List (Nat × Blk)} {i : Int} {s : List UInt8} (hD : XK p D Ls) (hO : D.OK) (hc : D.cache.length < 1000000000000) (hS : St H0 B0 B (Ls ++ L) H) :
    Ev (fun k _ => rn k 65 [p, .int .i64 i, str s] H) (XkP H0 B0 B L p (.int .i64 (D.write i s).1) (D.write i s).2) := by
  have hD0 := hD
  obtain ⟨n, bytes, cache, fu, dn⟩ := D
  obtain ⟨x, sv, cv, fx, Ls1, Lc, rfl, hfx, hf1, hG1, hG2, rfl⟩ := hD
  have h1 := hO.n1
  have h2 := hO.n2
  have hfu := hO.fu
  dsimp only at hS hc h1 h2 hfu hG1 hG2 hD0 hfx
  simp only [List.cons_append] at hS
  have hcell1 := hG1.cell
  have hcell2 := hG2.cell
  have back : ∀ H', St H0 B0 B ((x, ⟨[sv, cv, .int .i64 fx, .bool dn], 36, .fix⟩) :: (Ls1 ++ Lc ++ L)) H' → ∃ Ls B', MoC B B' ∧ XK (ptr x 0) ⟨n, bytes, cache, fu, dn⟩ Ls ∧ St H0 B0 B' (Ls ++ L) H' := fun H' h => ⟨_, B, ⟨Mo.refl B⟩, hD0, h⟩
  refine Ev.fn (fun k => f65_eq k _ _ _ H) ?_
  unfold Dsk.write
  dsimp only
  have hls := hG1.len (Und.eq (P := Tryz.prog) (t := 22))
  rw [List.length_map, secsB_len] at hls
  repeat (first|refine zA ?_|refine zB fun _ _ _=>?_|refine zC fun _ _ _=>?_|refine zD fun _ _=>?_|refine zE ?_|refine zF ?_)
  cases dn with
  | true =>
    repeat (first|refine zA ?_|refine zB fun _ _ _=>?_|refine zC fun _ _ _=>?_|refine zD fun _ _=>?_|refine zE ?_|refine zF ?_)
    exact Ev.ret ⟨rfl, back _ hS⟩
  | false =>
    repeat (first|refine zA ?_|refine zB fun _ _ _=>?_|refine zC fun _ _ _=>?_|refine zD fun _ _=>?_|refine zE ?_|refine zF ?_)
    rw [if_neg (fun h => by cases h)]
    by_cases hi : i < 0
    · rw [decide_eq_true hi, if_pos (.inl hi)]
      repeat (first|refine zA ?_|refine zB fun _ _ _=>?_|refine zC fun _ _ _=>?_|refine zD fun _ _=>?_|refine zE ?_|refine zF ?_)
      exact Ev.ret ⟨rfl, back _ hS⟩
    rw [decide_eq_false hi]
    obtain ⟨q, rfl⟩ : ∃ q : Nat, i = q := ⟨i.toNat, by omega⟩
    repeat (first|refine zA ?_|refine zB fun _ _ _=>?_|refine zC fun _ _ _=>?_|refine zD fun _ _=>?_|refine zE ?_|refine zF ?_)
    rw [hls, Option.bind_some]
    repeat (first|refine zA ?_|refine zB fun _ _ _=>?_|refine zC fun _ _ _=>?_|refine zD fun _ _=>?_|refine zE ?_|refine zF ?_)
    by_cases hq : n ≤ q
    · rw [decide_eq_true (by omega), if_pos (.inr (.inl (by omega)))]
      repeat (first|refine zA ?_|refine zB fun _ _ _=>?_|refine zC fun _ _ _=>?_|refine zD fun _ _=>?_|refine zE ?_|refine zF ?_)
      exact Ev.ret ⟨rfl, back _ hS⟩
    rw [decide_eq_false (by omega)]
    repeat (first|refine zA ?_|refine zB fun _ _ _=>?_|refine zC fun _ _ _=>?_|refine zD fun _ _=>?_|refine zE ?_|refine zF ?_)
    by_cases hl : s.length = 64
    · rw [decide_eq_false (fun h => h hl), if_neg (by omega)]
      repeat (first|refine zA ?_|refine zB fun _ _ _=>?_|refine zC fun _ _ _=>?_|refine zD fun _ _=>?_|refine zE ?_|refine zF ?_)
      unfold Dsk.act
      dsimp only
      refine Ev.b2 (xact_spec (Q := fun r => (fx = 0 ∧ r.1 = .bool false ∧ St H0 B0 B ((x, ⟨[sv, cv, .int .i64 fx, .bool true], 36, .fix⟩) :: (Ls1 ++ Lc ++ L)) r.2) ∨
        (fx ≠ 0 ∧ ∃ fy, max fy (-1) = max (max fx (-1) - 1) (-1) ∧ -9223372036854775808 ≤ fy ∧ r.1 = .bool true ∧ St H0 B0 B ((x, ⟨[sv, cv, .int .i64 fy, .bool false], 36, .fix⟩) :: (Ls1 ++ Lc ++ L)) r.2)) (by omega) hS (fun h0 H' h => .inl ⟨h0, rfl, h⟩) (fun h0 fy H' e1 e2 h => .inr ⟨h0, fy, e1, e2, rfl, h⟩)) ?_
      rintro _ H1 (⟨h0, rfl, hS1⟩ | ⟨h0, fy, e1, e2, rfl, hS1⟩)
      · dsimp only at hS1
        rw [if_pos (by omega)]
        clear hS back
        repeat (first|refine zA ?_|refine zB fun _ _ _=>?_|refine zC fun _ _ _=>?_|refine zD fun _ _=>?_|refine zE ?_|refine zF ?_)
        exact Ev.ret ⟨rfl, _, B, ⟨Mo.refl B⟩, ⟨x, sv, cv, fx, Ls1, Lc, rfl, hfx, hf1, hG1, hG2, rfl⟩, hS1⟩
      · dsimp only at hS1
        rw [if_neg (by omega)]
        clear hS back
        repeat (first|refine zA ?_|refine zB fun _ _ _=>?_|refine zC fun _ _ _=>?_|refine zD fun _ _=>?_|refine zE ?_|refine zF ?_)
        have hlc := hG2.len (Und.eq (P := Tryz.prog) (t := 34))
        refine Ev.prim hlc ?_
        repeat (first|refine zA ?_|refine zB fun _ _ _=>?_|refine zC fun _ _ _=>?_|refine zD fun _ _=>?_|refine zE ?_|refine zF ?_)
        refine Ev.prim hlc ?_
        refine Ev.prim (hG2.slc3 (P := Tryz.prog) (t := 34) hS1 fun p hp => .tail _ (List.mem_append_left _ (List.mem_append_right _ hp))) ?_
        repeat (first|refine zA ?_|refine zB fun _ _ _=>?_|refine zC fun _ _ _=>?_|refine zD fun _ _=>?_|refine zE ?_|refine zF ?_)
        have hS4 := hS1.perm (L' := Lc ++ ((x, ⟨[sv, cv, .int .i64 fy, .bool false], 36, .fix⟩) :: (Ls1 ++ L))) (by (refine perm_cnt ?_; intro _ a; simp only [List.count_append, List.count_cons, List.cons_append, List.nil_append, List.append_assoc]; try ac_rfl))
        refine GAcc.push (t := 34) (ds := [i64 q, str s]) (hG2.acc hS4) rfl rfl rfl rfl (by omega) (by omega) fun v' B' H5 hm hA => ?_
        obtain ⟨Lx, hG5, hS5⟩ := hA.grs
        have hS6 := hS5.perm (L' := (x, ⟨[sv, cv, .int .i64 fy, .bool false], 36, .fix⟩) :: (Ls1 ++ Lx ++ L)) (by (refine perm_cnt ?_; intro _ a; simp only [List.count_append, List.count_cons, List.cons_append, List.nil_append, List.append_assoc]; try ac_rfl))
        have hcell5 := hG5.cell
        clear hS1 hS4 hS5 hA
        repeat (first|refine zA ?_|refine zB fun _ _ _=>?_|refine zC fun _ _ _=>?_|refine zD fun _ _=>?_|refine zE ?_|refine zF ?_)
        rename_i H6 hS7
        refine Ev.ret ⟨rfl, _, B', hm, ⟨x, sv, v', fy, Ls1, Lx, rfl, ?_, e2, hG1, ?_, rfl⟩, hS7⟩
        · unfold Dsk.put
          dsimp only
          omega
        · unfold Dsk.put
          dsimp only
          rw [caCells_snoc, List.length_append]
          exact hG5
    · rw [decide_eq_true hl, if_pos (.inr (.inr hl))]
      repeat (first|refine zA ?_|refine zB fun _ _ _=>?_|refine zC fun _ _ _=>?_|refine zD fun _ _=>?_|refine zE ?_|refine zF ?_)
      exact Ev.ret ⟨rfl, back _ hS⟩
theorem xRead_spec {p : Value} {D : Dsk} {Ls : List (Nat × Blk)} {i : Int} (hD : XK p D Ls) (hO : D.OK) (hc : D.cache.length < 1000000000000) {Lx : List (Nat × Blk)} (hS : St H0 B0 B Lx H) (hsub : ∀ x ∈ Ls, x ∈ Lx) :
    Ev (fun k _ => rn k 35 [p, .int .i64 i] H) (fun r => r = (.tuple #[str (D.read i).1, .int .i64 (D.read i).2], H)) := by
  obtain ⟨n, bytes, cache, fu, dn⟩ := D
  obtain ⟨x, sv, cv, fx, Ls1, Lc, rfl, hfx, hf1, hG1, hG2, rfl⟩ := hD
  have h1 := hO.n1
  have h2 := hO.n2
  dsimp only at hc h1 h2 hG1 hG2 hfx
  have hcell1 := hG1.cell
  have hcell2 := hG2.cell
  have hxm : InL x ⟨[sv, cv, .int .i64 fx, .bool dn], 36, .fix⟩ Lx := ⟨hsub _ (.head _)⟩
  have hN1 := hG1.now hS (fun p hp => hsub _ (.tail _ (List.mem_append_left _ hp)))
  have hN2 := hG2.now hS (fun p hp => hsub _ (.tail _ (List.mem_append_right _ hp)))
  rw [List.length_map, secsB_len] at hN1
  have hls := hG1.len (Und.eq (P := Tryz.prog) (t := 22))
  rw [List.length_map, secsB_len] at hls
  have hlc := hG2.len (Und.eq (P := Tryz.prog) (t := 34))
  refine Ev.fn (fun k => f35_eq k _ _ H) ?_
  unfold Dsk.read
  dsimp only
  repeat (first|refine zA ?_|refine zB fun _ _ _=>?_|refine zC fun _ _ _=>?_|refine zD fun _ _=>?_|refine zE ?_|refine zF ?_)
  cases dn with
  | true =>
    repeat (first|refine zA ?_|refine zB fun _ _ _=>?_|refine zC fun _ _ _=>?_|refine zD fun _ _=>?_|refine zE ?_|refine zF ?_)
    exact Ev.ret rfl
  | false =>
    repeat (first|refine zA ?_|refine zB fun _ _ _=>?_|refine zC fun _ _ _=>?_|refine zD fun _ _=>?_|refine zE ?_|refine zF ?_)
    rw [if_neg (fun h => by cases h)]
    by_cases hi : i < 0
    · rw [decide_eq_true hi, if_pos (.inl hi)]
      repeat (first|refine zA ?_|refine zB fun _ _ _=>?_|refine zC fun _ _ _=>?_|refine zD fun _ _=>?_|refine zE ?_|refine zF ?_)
      exact Ev.ret rfl
    rw [decide_eq_false hi]
    obtain ⟨q, rfl⟩ : ∃ q : Nat, i = q := ⟨i.toNat, by omega⟩
    repeat (first|refine zA ?_|refine zB fun _ _ _=>?_|refine zC fun _ _ _=>?_|refine zD fun _ _=>?_|refine zE ?_|refine zF ?_)
    rw [hls, Option.bind_some]
    repeat (first|refine zA ?_|refine zB fun _ _ _=>?_|refine zC fun _ _ _=>?_|refine zD fun _ _=>?_|refine zE ?_|refine zF ?_)
    by_cases hq : n ≤ q
    · rw [decide_eq_true (by omega), if_pos (.inr (by omega))]
      repeat (first|refine zA ?_|refine zB fun _ _ _=>?_|refine zC fun _ _ _=>?_|refine zD fun _ _=>?_|refine zE ?_|refine zF ?_)
      exact Ev.ret rfl
    rw [decide_eq_false (by omega), if_neg (by omega)]
    repeat (first|refine zA ?_|refine zB fun _ _ _=>?_|refine zC fun _ _ _=>?_|refine zD fun _ _=>?_|refine zE ?_|refine zF ?_)
    refine Ev.ixN (t := 22) (x := str (sec bytes q)) hN1 q rfl (by omega) (by rw [List.getElem?_map, secsB_at (by omega)]; rfl) fun pp hp => ?_
    refine Ev.prim (hp.eq H (Mo.refl H)) ?_
    have key : ∀ (m k : Nat), k + m = cache.length → Ev (fun K K2 => f35_L0 K (ptr x 0) (i64 q) (str ((find (cache.take k) q).getD (sec bytes q))) (i64 k) K2 H)
        (fun o => o = (.exit 1, f35_X_L0 (str ((find cache q).getD (sec bytes q))), H)) := by
      intro m
      induction m with
      | zero =>
        intro k hk
        refine Ev.succ (fun K K2 => f35_L0_succ K _ _ _ _ K2 H) ?_
        repeat (first|refine zA ?_|refine zB fun _ _ _=>?_|refine zC fun _ _ _=>?_|refine zD fun _ _=>?_|refine zE ?_|refine zF ?_)
        refine Ev.prim hlc ?_
        repeat (first | (first|refine zA ?_|refine zB fun _ _ _=>?_|refine zC fun _ _ _=>?_|refine zD fun _ _=>?_|refine zE ?_|refine zF ?_) | rw [decide_eq_true (by omega)] | rw [decide_eq_false (by omega)])
        rw [List.take_of_length_le (by omega)]
        exact Ev.ret rfl
      | succ m ih =>
        intro k hk
        refine Ev.succ (fun K K2 => f35_L0_succ K _ _ _ _ K2 H) ?_
        repeat (first|refine zA ?_|refine zB fun _ _ _=>?_|refine zC fun _ _ _=>?_|refine zD fun _ _=>?_|refine zE ?_|refine zF ?_)
        refine Ev.prim hlc ?_
        repeat (first | (first|refine zA ?_|refine zB fun _ _ _=>?_|refine zC fun _ _ _=>?_|refine zD fun _ _=>?_|refine zE ?_|refine zF ?_) | rw [decide_eq_true (by omega)] | rw [decide_eq_false (by omega)])
        obtain ⟨⟨a, s⟩, hks⟩ : ∃ e, cache[k]? = some e := ⟨_, List.getElem?_eq_getElem (by omega)⟩
        obtain ⟨e1, e2⟩ := caCells_two hks
        obtain ⟨bp, o, q1, q2⟩ := hN2.at2 (P := Tryz.prog) (t := 34) (k := .i64) (i := k) (by omega)
        have q3 := q2 3 0 _ (AggOf.eq (P := Tryz.prog) (t := 3)) (by decide) e1
        have q4 := q2 9 1 _ (AggOf.eq (P := Tryz.prog) (t := 9)) (by decide) e2
        rw [Nat.add_zero] at q3
        have hst : find (cache.take (k + 1)) q = if a = q then some s else find (cache.take k) q := by
          rw [List.take_add_one, hks]
          exact find_snoc _ _ _ _
        have hih := ih (k + 1) (by omega)
        rw [hst] at hih
        refine Ev.prim q1 ?_
        repeat (first|refine zA ?_|refine zB fun _ _ _=>?_|refine zC fun _ _ _=>?_|refine zD fun _ _=>?_|refine zE ?_|refine zF ?_)
        refine Ev.prim q3 ?_
        repeat (first|refine zA ?_|refine zB fun _ _ _=>?_|refine zC fun _ _ _=>?_|refine zD fun _ _=>?_|refine zE ?_|refine zF ?_)
        by_cases haq : a = q
        · rw [decide_eq_true haq]
          rw [if_pos haq] at hih
          repeat (first|refine zA ?_|refine zB fun _ _ _=>?_|refine zC fun _ _ _=>?_|refine zD fun _ _=>?_|refine zE ?_|refine zF ?_)
          refine Ev.prim q1 ?_
          repeat (first|refine zA ?_|refine zB fun _ _ _=>?_|refine zC fun _ _ _=>?_|refine zD fun _ _=>?_|refine zE ?_|refine zF ?_)
          refine Ev.prim q4 ?_
          repeat (first | (first|refine zA ?_|refine zB fun _ _ _=>?_|refine zC fun _ _ _=>?_|refine zD fun _ _=>?_|refine zE ?_|refine zF ?_) | rw [decide_eq_true (by omega)] | rw [decide_eq_false (by omega)])
          exact hih
        · rw [decide_eq_false haq]
          rw [if_neg haq] at hih
          repeat (first | (first|refine zA ?_|refine zB fun _ _ _=>?_|refine zC fun _ _ _=>?_|refine zD fun _ _=>?_|refine zE ?_|refine zF ?_) | rw [decide_eq_true (by omega)] | rw [decide_eq_false (by omega)])
          exact hih
    refine Ev.bind (Ev.loop (key cache.length 0 (by omega))) ?_
    rintro _ rfl
    refine Ev.eq (fun k _ => f35_A0_x1 k _ H) ?_
    exact Ev.ret rfl
theorem xbar_loop {x n : Nat} {sv cv : Value} {fx : Int} {bytes : List UInt8} {cache : List (Nat × List UInt8)} {Lc : List (Nat × Blk)} (hb : bytes.length = 64 * n) (hca : ∀ p ∈ cache, p.1 < n ∧ p.2.length = 64) (hG2 : GRS 118 2 cv cache.length (caCells cache) Lc) (hc : cache.length < 1000000000000) : ∀ (m k : Nat) (H : AH) (Ls1 : List (Nat × Blk)), k + m = cache.length →
    WRS 9 sv ((secsB n (layAll (cache.take k) bytes)).map str) Ls1 → St H0 B0 B ((x, ⟨[sv, cv, .int .i64 fx, .bool false], 36, .fix⟩) :: (Ls1 ++ (Lc ++ L))) H →
    Ev (fun K K2 => f58_L0 K (ptr x 0) (i64 k) K2 H) (fun o => ∃ H' Ls1', o = (.exit 1, f58_X_L0 (ptr x 0), H') ∧ WRS 9 sv ((secsB n (layAll cache bytes)).map str) Ls1' ∧ St H0 B0 B ((x, ⟨[sv, cv, .int .i64 fx, .bool false], 36, .fix⟩) :: (Ls1' ++ (Lc ++ L))) H') := by
  intro m
  have hcell2 := hG2.cell
  have hlc := hG2.len (Und.eq (P := Tryz.prog) (t := 34))
  induction m with
  | zero =>
    intro k H Ls1 hk hW hS
    have hcell1 := hW.cell
    refine Ev.succ (fun K K2 => f58_L0_succ K _ _ K2 H) ?_
    repeat (first|refine zA ?_|refine zB fun _ _ _=>?_|refine zC fun _ _ _=>?_|refine zD fun _ _=>?_|refine zE ?_|refine zF ?_)
    refine Ev.prim hlc ?_
    repeat (first | (first|refine zA ?_|refine zB fun _ _ _=>?_|refine zC fun _ _ _=>?_|refine zD fun _ _=>?_|refine zE ?_|refine zF ?_) | rw [decide_eq_true (by omega)] | rw [decide_eq_false (by omega)])
    rw [List.take_of_length_le (by omega)] at hW
    exact Ev.ret ⟨H, Ls1, rfl, hW, hS⟩
  | succ m ih =>
    intro k H Ls1 hk hW hS
    have hcell1 := hW.cell
    refine Ev.succ (fun K K2 => f58_L0_succ K _ _ K2 H) ?_
    repeat (first|refine zA ?_|refine zB fun _ _ _=>?_|refine zC fun _ _ _=>?_|refine zD fun _ _=>?_|refine zE ?_|refine zF ?_)
    refine Ev.prim hlc ?_
    repeat (first | (first|refine zA ?_|refine zB fun _ _ _=>?_|refine zC fun _ _ _=>?_|refine zD fun _ _=>?_|refine zE ?_|refine zF ?_) | rw [decide_eq_true (by omega)] | rw [decide_eq_false (by omega)])
    obtain ⟨⟨a, s⟩, hks⟩ : ∃ e, cache[k]? = some e := ⟨_, List.getElem?_eq_getElem (by omega)⟩
    obtain ⟨ha, hs⟩ := hca _ (List.mem_of_getElem? hks)
    dsimp only at ha hs
    have hN2 := hG2.now hS (fun p hp => .tail _ (List.mem_append_right _ (List.mem_append_left _ hp)))
    obtain ⟨e1, e2⟩ := caCells_two hks
    obtain ⟨bp, o, q1, q2⟩ := hN2.at2 (P := Tryz.prog) (t := 34) (k := .i64) (i := k) (by omega)
    have q3 := q2 3 0 _ (AggOf.eq (P := Tryz.prog) (t := 3)) (by decide) e1
    have q4 := q2 9 1 _ (AggOf.eq (P := Tryz.prog) (t := 9)) (by decide) e2
    rw [Nat.add_zero] at q3
    refine Ev.prim q1 ?_
    repeat (first|refine zA ?_|refine zB fun _ _ _=>?_|refine zC fun _ _ _=>?_|refine zD fun _ _=>?_|refine zE ?_|refine zF ?_)
    refine Ev.prim q3 ?_
    repeat (first|refine zA ?_|refine zB fun _ _ _=>?_|refine zC fun _ _ _=>?_|refine zD fun _ _=>?_|refine zE ?_|refine zF ?_)
    refine Ev.prim q1 ?_
    repeat (first|refine zA ?_|refine zB fun _ _ _=>?_|refine zC fun _ _ _=>?_|refine zD fun _ _=>?_|refine zE ?_|refine zF ?_)
    refine Ev.prim q4 ?_
    have hS2 : St H0 B0 B (Ls1 ++ ((x, ⟨[sv, cv, .int .i64 fx, .bool false], 36, .fix⟩) :: (Lc ++ L))) H := hS.perm (by (refine perm_cnt ?_; intro _ a; simp only [List.count_append, List.count_cons, List.cons_append, List.nil_append, List.append_assoc]; try ac_rfl))
    obtain ⟨p, H', Ls1', w1, w2, w3, w4⟩ := hW.store (P := Tryz.prog) (t := 22) (i := a) (w := str s) (AggOf.eq (P := Tryz.prog) (t := 9)) hS2 (by rw [List.length_map, secsB_len]; exact ha) rfl
    refine Ev.prim (w1 .i64) ?_
    refine Ev.prim w2 ?_
    clear hS hS2 hN2
    have hl : (layAll (cache.take k) bytes).length = 64 * n := layAll_len _ _ _ hb fun p hp => hca p (List.mem_of_mem_take hp)
    have e : (secsB n (layAll (cache.take k) bytes)).map str = (secsB n (layAll (cache.take k) bytes)).map str := rfl
    rw [← List.map_set, secsB_lay hl ha hs, ← lay_at hks] at w3
    have hS3 : St H0 B0 B ((x, ⟨[sv, cv, .int .i64 fx, .bool false], 36, .fix⟩) :: (Ls1' ++ (Lc ++ L))) H' := w4.perm (by (refine perm_cnt ?_; intro _ a; simp only [List.count_append, List.count_cons, List.cons_append, List.nil_append, List.append_assoc]; try ac_rfl))
    repeat (first | (first|refine zA ?_|refine zB fun _ _ _=>?_|refine zC fun _ _ _=>?_|refine zD fun _ _=>?_|refine zE ?_|refine zF ?_) | rw [decide_eq_true (by omega)] | rw [decide_eq_false (by omega)])
    exact ih (k + 1) H' Ls1' (by omega) w3 hS3
theorem xBarrier_spec {p : Value} {D : Dsk} {Ls : List (Nat × Blk)} (hD : XK p D Ls) (hO : D.OK) (hc : D.cache.length < 1000000000000) (hS : St H0 B0 B (Ls ++ L) H) :
    Ev (fun k _ => rn k 58 [p] H) (XkP H0 B0 B L p (.int .i64 D.barrier.1) D.barrier.2) := by
  have hD0 := hD
  obtain ⟨n, bytes, cache, fu, dn⟩ := D
  obtain ⟨x, sv, cv, fx, Ls1, Lc, rfl, hfx, hf1, hG1, hG2, rfl⟩ := hD
  have h1 := hO.n1
  have hfu := hO.fu
  have hca := hO.ca
  have hlen := hO.len
  dsimp only at hS hc h1 hfu hG1 hG2 hD0 hfx hca hlen
  simp only [List.cons_append] at hS
  have hcell1 := hG1.cell
  have hcell2 := hG2.cell
  have back : ∀ H', St H0 B0 B ((x, ⟨[sv, cv, .int .i64 fx, .bool dn], 36, .fix⟩) :: (Ls1 ++ Lc ++ L)) H' → ∃ Ls B', MoC B B' ∧ XK (ptr x 0) ⟨n, bytes, cache, fu, dn⟩ Ls ∧ St H0 B0 B' (Ls ++ L) H' := fun H' h => ⟨_, B, ⟨Mo.refl B⟩, hD0, h⟩
  refine Ev.fn (fun k => f58_eq k _ H) ?_
  unfold Dsk.barrier
  dsimp only
  repeat (first|refine zA ?_|refine zB fun _ _ _=>?_|refine zC fun _ _ _=>?_|refine zD fun _ _=>?_|refine zE ?_|refine zF ?_)
  cases dn with
  | true =>
    repeat (first|refine zA ?_|refine zB fun _ _ _=>?_|refine zC fun _ _ _=>?_|refine zD fun _ _=>?_|refine zE ?_|refine zF ?_)
    exact Ev.ret ⟨rfl, back _ hS⟩
  | false =>
    repeat (first|refine zA ?_|refine zB fun _ _ _=>?_|refine zC fun _ _ _=>?_|refine zD fun _ _=>?_|refine zE ?_|refine zF ?_)
    rw [if_neg (fun h => by cases h)]
    unfold Dsk.act
    dsimp only
    refine Ev.b2 (xact_spec (Q := fun r => (fx = 0 ∧ r.1 = .bool false ∧ St H0 B0 B ((x, ⟨[sv, cv, .int .i64 fx, .bool true], 36, .fix⟩) :: (Ls1 ++ Lc ++ L)) r.2) ∨
      (fx ≠ 0 ∧ ∃ fy, max fy (-1) = max (max fx (-1) - 1) (-1) ∧ -9223372036854775808 ≤ fy ∧ r.1 = .bool true ∧ St H0 B0 B ((x, ⟨[sv, cv, .int .i64 fy, .bool false], 36, .fix⟩) :: (Ls1 ++ Lc ++ L)) r.2)) (by omega) hS (fun h0 H' h => .inl ⟨h0, rfl, h⟩) (fun h0 fy H' e1 e2 h => .inr ⟨h0, fy, e1, e2, rfl, h⟩)) ?_
    rintro _ H1 (⟨h0, rfl, hS1⟩ | ⟨h0, fy, e1, e2, rfl, hS1⟩)
    · dsimp only at hS1
      rw [if_pos (by omega)]
      clear hS back
      repeat (first|refine zA ?_|refine zB fun _ _ _=>?_|refine zC fun _ _ _=>?_|refine zD fun _ _=>?_|refine zE ?_|refine zF ?_)
      exact Ev.ret ⟨rfl, _, B, ⟨Mo.refl B⟩, ⟨x, sv, cv, fx, Ls1, Lc, rfl, hfx, hf1, hG1, hG2, rfl⟩, hS1⟩
    · dsimp only at hS1
      rw [if_neg (by omega)]
      clear hS back
      repeat (first|refine zA ?_|refine zB fun _ _ _=>?_|refine zC fun _ _ _=>?_|refine zD fun _ _=>?_|refine zE ?_|refine zF ?_)
      have hS2 : St H0 B0 B ((x, ⟨[sv, cv, .int .i64 fy, .bool false], 36, .fix⟩) :: (Ls1 ++ (Lc ++ L))) H1 := hS1.perm (by (refine perm_cnt ?_; intro _ a; simp only [List.count_append, List.count_cons, List.cons_append, List.nil_append, List.append_assoc]; try ac_rfl))
      refine Ev.bind (Ev.loop (xbar_loop (bytes := bytes) hlen hca hG2 hc cache.length 0 H1 Ls1 (by omega) hG1 hS2)) ?_
      rintro _ ⟨H3, Ls3, rfl, hW3, hS3⟩
      clear hS1 hS2
      have hcell3 := hW3.cell
      refine Ev.eq (fun k _ => f58_A0_x1 k _ H3) ?_
      repeat (first|refine zA ?_|refine zB fun _ _ _=>?_|refine zC fun _ _ _=>?_|refine zD fun _ _=>?_|refine zE ?_|refine zF ?_)
      rename_i H4 hS4
      refine Ev.ret ⟨rfl, _, B, ⟨Mo.refl B⟩, ⟨x, sv, .slice none 0 0, fy, Ls3, [], rfl, ?_, e2, hW3, GRS.nil, rfl⟩, ?_⟩
      · show max fy (-1) = max (fu - 1) (-1)
        omega
      · have h5 : St H0 B0 B ((x, ⟨[sv, .slice none 0 0, .int .i64 fy, .bool false], 36, .fix⟩) :: (Ls3 ++ (Lc ++ L))) H4 := hS4
        rw [List.append_nil]
        exact h5.drop (.cons_cons _ (List.Sublist.append_left (List.sublist_append_right _ _) _))
theorem xNew_loop {n x : Nat} {Lr : List (Nat × Blk)} (hn : n ≤ 1024) : ∀ (m i : Nat) (B H : AH) (sv : Value) (Ls1 : List (Nat × Blk)), i + m = n → WRS 9 sv ((List.replicate i (List.replicate 64 (0 : UInt8))).map str) Ls1 → St H0 B0 B (Ls1 ++ ((x, ⟨[sv, .slice none 0 0, .int .i64 (-1), .bool false], 36, .fix⟩) :: Lr)) H →
    Ev (fun K K2 => f55_L0 K (i64 n) (ptr x 0) (i64 i) K2 H) (fun o => ∃ B' H' sv' Ls1', o = (.exit 0, f55_X_L0 (ptr x 0), H') ∧ MoC B B' ∧ WRS 9 sv' ((List.replicate n (List.replicate 64 (0 : UInt8))).map str) Ls1' ∧ St H0 B0 B' (Ls1' ++ ((x, ⟨[sv', .slice none 0 0, .int .i64 (-1), .bool false], 36, .fix⟩) :: Lr)) H') := by
  intro m
  induction m with
  | zero =>
    intro i B H sv Ls1 hi hW hS
    refine Ev.succ (fun K K2 => f55_L0_succ K _ _ _ K2 H) ?_
    have : i = n := by omega
    subst this
    repeat (first | (first|refine zA ?_|refine zB fun _ _ _=>?_|refine zC fun _ _ _=>?_|refine zD fun _ _=>?_|refine zE ?_|refine zF ?_) | rw [decide_eq_true (by omega)] | rw [decide_eq_false (by omega)])
    exact Ev.ret ⟨B, H, sv, Ls1, rfl, ⟨Mo.refl B⟩, hW, hS⟩
  | succ m ih =>
    intro i B H sv Ls1 hi hW hS
    have hcell1 := hW.cell
    refine Ev.succ (fun K K2 => f55_L0_succ K _ _ _ K2 H) ?_
    have hS0 : St H0 B0 B ((x, ⟨[sv, .slice none 0 0, .int .i64 (-1), .bool false], 36, .fix⟩) :: (Ls1 ++ Lr)) H := hS.perm (by (refine perm_cnt ?_; intro _ a; simp only [List.count_append, List.count_cons, List.cons_append, List.nil_append, List.append_assoc]; try ac_rfl))
    clear hS
    repeat (first | (first|refine zA ?_|refine zB fun _ _ _=>?_|refine zC fun _ _ _=>?_|refine zD fun _ _=>?_|refine zE ?_|refine zF ?_) | rw [decide_eq_true (by omega)] | rw [decide_eq_false (by omega)])
    have hE : Elt Tryz.prog 63 5 (.int .u8 0) 1 := inferInstance
    refine Ev.mkS (t := 63) (m := 64) hE hS0 (by decide) (by decide) fun b2 B3 H3 hm3 hS3 => ?_
    refine Ev.prim (cvS_part (d := 9) (bs := List.replicate 64 0) (by rw [byts_rep]; exact hS3) (.head _) (Nat.le_refl _) (by rw [List.length_replicate]; decide)) ?_
    rw [List.drop_zero, List.take_of_length_le (by rw [List.length_replicate]; exact Nat.le_refl _)]
    have hS4 : St H0 B0 B3 (Ls1 ++ ((x, ⟨[sv, .slice none 0 0, .int .i64 (-1), .bool false], 36, .fix⟩) :: Lr)) H3 := hS3.drop1.perm (by (refine perm_cnt ?_; intro _ a; simp only [List.count_append, List.count_cons, List.cons_append, List.nil_append, List.append_assoc]; try ac_rfl))
    clear hS0 hS3
    refine hW.push (t := 22) (x := str (List.replicate 64 0)) rfl rfl hS4 (by rw [List.length_map, List.length_replicate]; omega) fun v' Lx' H5 hW5 hS5 => ?_
    have hcell5 := hW5.cell
    have hS6 : St H0 B0 B3 ((x, ⟨[sv, .slice none 0 0, .int .i64 (-1), .bool false], 36, .fix⟩) :: (Lx' ++ Lr)) H5 := hS5.perm (by (refine perm_cnt ?_; intro _ a; simp only [List.count_append, List.count_cons, List.cons_append, List.nil_append, List.append_assoc]; try ac_rfl))
    clear hS4 hS5
    repeat (first | (first|refine zA ?_|refine zB fun _ _ _=>?_|refine zC fun _ _ _=>?_|refine zD fun _ _=>?_|refine zE ?_|refine zF ?_) | rw [decide_eq_true (by omega)] | rw [decide_eq_false (by omega)])
    rename_i H7 hS7
    have e : ∀ z : List UInt8, (List.replicate i z).map str ++ [str z] = (List.replicate (i + 1) z).map str := fun z => by rw [List.replicate_succ', List.map_append]; rfl
    rw [e] at hW5
    refine (ih (i + 1) B3 H7 v' Lx' (by omega) hW5 (hS7.perm (by (refine perm_cnt ?_; intro _ a; simp only [List.count_append, List.count_cons, List.cons_append, List.nil_append, List.append_assoc]; try ac_rfl)))).mono ?_
    rintro o ⟨B', H', sv', Ls', h1, h2, h3⟩
    exact ⟨B', H', sv', Ls', h1, ⟨hm3.trans h2.mo⟩, h3⟩
theorem xNew_spec {n : Nat} (h1 : 1 ≤ n) (h2 : n ≤ 1024) (hS : St H0 B0 B L H) :
    Ev (fun k _ => rn k 55 [i64 n] H) (fun r => ∃ x Ls B', r.1 = ptr x 0 ∧ MoC B B' ∧ XK (ptr x 0) (Dsk.new n) Ls ∧ St H0 B0 B' (Ls ++ L) r.2) := by
  refine Ev.fn (fun k => f55_eq k _ H) ?_
  repeat (first | (first|refine zA ?_|refine zB fun _ _ _=>?_|refine zC fun _ _ _=>?_|refine zD fun _ _=>?_|refine zE ?_|refine zF ?_) | rw [decide_eq_true (by omega)] | rw [decide_eq_false (by omega)])
  rename_i x H1 hS1
  clear hS
  refine Ev.bind (Ev.loop (xNew_loop h2 n 0 B H1 (.slice none 0 0) [] (by omega) WRS.nil hS1)) ?_
  rintro _ ⟨B2, H2, sv, Ls1, rfl, hm2, hW2, hS2⟩
  refine Ev.eq (fun k _ => f55_A0_x0 k _ H2) ?_
  refine Ev.ret ⟨x, _, B2, rfl, hm2, ⟨x, sv, .slice none 0 0, -1, Ls1, [], rfl, rfl, by decide, ?_, GRS.nil, rfl⟩, hS2.perm (by (refine perm_cnt ?_; intro _ a; simp only [List.count_append, List.count_cons, List.cons_append, List.nil_append, List.append_assoc]; try ac_rfl))⟩
  show WRS 9 sv ((secsB n (List.replicate (64 * n) 0)).map str) Ls1
  rw [secsB_new (Nat.le_refl n)]
  exact hW2
end
end Go.AM.F
namespace Go.AM
variable {α β R : Type} {P : Program}
section
variable {t e : TypeId} {z : Value} {sz : Nat}
def BAcc (e : TypeId) (H0 B0 B : AH) (L : List (Nat × Blk)) (H : AH) (v : Value) (ds : List Nat) : Prop :=
  (ds = [] ∧ (v = .slice none 0 0) ∧ St H0 B0 B L H) ∨
  (∃ b, v = sl b 0 ds.length (ds.length + 1) ∧ St H0 B0 B ((b, ⟨ds.map u8, e, .buf⟩) :: L) H)
theorem BAcc.nil {H0 B0 B L H} (hS : St H0 B0 B L H) : BAcc e H0 B0 B L H (.slice none 0 0) [] := .inl ⟨rfl, rfl, hS⟩
theorem BAcc.st {H0 B0 B L H v ds} (h : BAcc e H0 B0 B L H v ds) : St H0 B0 B L H := by
  rcases h with ⟨_, _, hS⟩ | ⟨b, _, hS⟩
  · exact hS
  · exact hS.drop1
theorem BAcc.cell {H0 B0 B L H v ds} (h : BAcc e H0 B0 B L H v ds) : IsCell v := by
  rcases h with ⟨_, rfl, _⟩ | ⟨b, rfl, _⟩ <;> exact inferInstance
theorem BAcc.apS {H0 B0 B : AH} {L : List (Nat × Blk)} {H : AH} {v : Value} {ds ns : List Nat} {bytes : Nat} (h : BAcc e H0 B0 B L H v ds) (hl : (ds.length + ns.length) * bytes ≤ 140737488355328 ∧ ds.length + ns.length ≤ 9223372036854775807) :
    ∃ v' H' B', AM.apS .buf 1 bytes e H v ns.length (ns.map u8) = some (v', H') ∧ MoC B B' ∧ BAcc e H0 B0 B' L H' v' (ds ++ ns) := by
  by_cases hn : ns = []
  · subst hn
    refine ⟨v, H, B, ?_, ⟨Mo.refl B⟩, by rw [List.append_nil]; exact h⟩
    rcases h with ⟨_, rfl, _⟩ | ⟨b, rfl, _⟩ <;> rfl
  have hn' : ns.length ≠ 0 := fun e => hn (List.length_eq_zero_iff.mp e)
  rcases h with ⟨rfl, rfl, hS⟩ | ⟨b, rfl, hS⟩
  · obtain ⟨B', hm1, hS'⟩ := hS.mkB (ns.map u8) e .buf
    have hl2 : ns.length * bytes ≤ 140737488355328 ∧ ns.length ≤ 9223372036854775807 := by simpa using hl
    refine ⟨sl H.length 0 ns.length (ns.length + 1), _, B', ?_, ⟨hm1⟩, .inr ⟨H.length, ?_, hS'⟩⟩
    · simp only [AM.apS, if_neg hn', if_pos hl2]
    · rw [List.nil_append]
  · have hb := hS.get (.head _)
    obtain ⟨B', hm1, hS'⟩ := hS.kill.mkB (ds.map u8 ++ ns.map u8) e .buf
    rw [length_kill] at hS'
    have e1 : (ds.map u8).length = ds.length := List.length_map ..
    refine ⟨sl H.length 0 (ds.length + ns.length) (ds.length + ns.length + 1), _, B', ?_, ⟨hm1⟩, .inr ⟨H.length, ?_, by rw [List.map_append]; exact hS'⟩⟩
    · simp only [AM.apS, sl, if_neg hn', hb, Option.bind_some, rdN, Nat.mul_one, Nat.zero_add, e1, Nat.le_refl, if_true, List.drop_zero, hl, and_self]
      rw [if_neg (by omega)]
      have e2 : (ds.map u8).take ds.length = ds.map u8 := List.take_of_length_le (by omega)
      rw [e2]
    · rw [List.length_append]
theorem BAcc.push {H0 B0 B : AH} {L : List (Nat × Blk)} {H : AH} {v : Value} {ds : List Nat} {d : Nat} {f : Nat → Nat → Value → AH → Option R} {Q : R → Prop} [hE : Elt P t e (.int .u8 0) sz] (h : BAcc e H0 B0 B L H v ds)
    (hl : (ds.length + 1) * sz ≤ 140737488355328 ∧ ds.length + 1 ≤ 9223372036854775807) (hk : ∀ v' B' H', MoC B B' → BAcc e H0 B0 B' L H' v' (ds ++ [d]) → Ev (fun k n => f k n v' H') Q) :
    Ev (fun k n => Go.AM.b2 (Go.AM.buildS P t H 1 [(0, u8 d)]) fun w h => Go.AM.b2 (Go.AM.ap P t t h v w) (f k n)) Q := by
  rcases h with ⟨rfl, rfl, hS⟩ | ⟨b, rfl, hS⟩
  · refine Ev.bsC (P := P) (t := t) (by decide) fun bw H1 hS1 => ?_
    have hx : Sc H1 (sl bw 0 1 1) ([d].map u8) := hS1.sc (.head _) (Nat.le_refl 1)
    obtain ⟨v', H', B', q1, q2, q3⟩ := BAcc.apS (e := e) (ns := [d]) (bytes := sz) (.inl ⟨rfl, rfl, hS1.drop1⟩) (by simpa using hl)
    refine Ev.prim2 ?_ (hk v' B' H' q2 q3)
    rw [ap_eq hE hE.U hx rfl]
    exact q1
  · refine Ev.bsC (P := P) (t := t) (by decide) fun bw H1 hS1 => ?_
    have hx : Sc H1 (sl bw 0 1 1) ([d].map u8) := hS1.sc (.head _) (Nat.le_refl 1)
    obtain ⟨v', H', B', q1, q2, q3⟩ := BAcc.apS (e := e) (ns := [d]) (bytes := sz) (.inr ⟨b, rfl, hS1.drop1⟩) hl
    refine Ev.prim2 ?_ (hk v' B' H' q2 q3)
    rw [ap_eq hE hE.U hx rfl]
    exact q1
theorem BAcc.str {u : TypeId} {H0 B0 B : AH} {L : List (Nat × Blk)} {H : AH} {v : Value} {ds : List Nat} {l : List UInt8} {f : Nat → Nat → Value → AH → Option R} {Q : R → Prop} [hE : Elt P t e (.int .u8 0) 1] [hu : Und P u .string] (hs : szT P e = 1) (h : BAcc e H0 B0 B L H v ds)
    (hl : ds.length + l.length ≤ 140737488355328) (hb : byT P e = 1) (hk : ∀ v' B' H', MoC B B' → BAcc e H0 B0 B' L H' v' (ds ++ l.map UInt8.toNat) → Ev (fun k n => f k n v' H') Q) :
    Ev (fun k n => Go.AM.b2 (Go.AM.ap P t u H v (AM.str l)) (f k n)) Q := by
  obtain ⟨v', H', B', q1, q2, q3⟩ := h.apS (ns := l.map UInt8.toNat) (bytes := 1) (by rw [List.length_map]; omega)
  refine Ev.prim2 ?_ (hk v' B' H' q2 q3)
  rw [List.length_map] at q1
  unfold Go.AM.ap
  rw [hE.U, hu.eq]
  simp only [hE.Z, hE.K, Option.bind_some]
  rw [if_pos ⟨hs, by rw [hs]; exact size_cells hE.zn⟩]
  have e1 : lenOf (AM.str l) = some l.length := rfl
  have e2 : sliceCells (szT P e) H (AM.str l) l.length = some ((l.map UInt8.toNat).map u8) := by
    show (if l.length ≤ l.length then some ((cellsOfBytes ⟨l.toArray⟩).take l.length) else none) = _
    rw [if_pos (Nat.le_refl _)]
    congr 1
    unfold cellsOfBytes
    rw [List.take_of_length_le (by simp)]
    simp
  rw [e1, Option.bind_some, e2, Option.bind_some, if_pos (by simp [isCell]), hs, hb]
  exact q1
theorem BAcc.said {pt : TypeId} {H0 B0 B : AH} {L : List (Nat × Blk)} {H : AH} {v : Value} {ds : List Nat} (h : BAcc e H0 B0 B L H v ds) (hne : ds ≠ []) (hp : P.underlying pt = some (.pointer e)) (hs : szT P e = 1) (hl : ds.length ≤ 9223372036854775807) :
    ∃ p H', sdV v = some p ∧ usV P pt H p (i64 ds.length) = some (AM.str (ds.map fun n => UInt8.ofNat n), H') ∧ St H0 B0 B L H' ∧ H' = H := by
  rcases h with ⟨rfl, rfl, hS⟩ | ⟨b, rfl, hS⟩
  · exact absurd rfl hne
  · have hn : ds.length ≠ 0 := fun e => hne (List.length_eq_zero_iff.mp e)
    have hb := hS.get (.head _)
    refine ⟨ptr b 0, H, by simp only [sdV, sl, if_neg hn]; rfl, ?_, hS.drop1, rfl⟩
    have e0 : usV P pt H (ptr b 0) (i64 ds.length) = (match P.underlying pt with
        | some (.pointer e) =>
          (blk H b).bind fun k => if 0 < (ds.length : Int) ∧ (ds.length : Int) ≤ 9223372036854775807 ∧ (k.kind.wr || k.kind == .buf) = true ∧ k.elem = e ∧ szT P e = 1 then (rdN k 0 ((ds.length : Int)).toNat).bind fun cs => (bytesOf cs).map fun l => (.string ⟨l.toArray⟩, if k.kind = .buf then H else kill H b) else none
        | _ => none) := rfl
    rw [e0, hp]
    simp only [hb, Option.bind_some]
    rw [if_pos ⟨by omega, by omega, rfl, trivial, hs⟩]
    have e1 : rdN ⟨ds.map u8, e, .buf⟩ 0 ((ds.length : Int)).toNat = some (ds.map u8) := by
      unfold rdN
      rw [Int.toNat_natCast, if_pos (by simp), List.drop_zero, List.take_of_length_le (by simp)]
    rw [e1, Option.bind_some, bytesOf_map]
    rfl
theorem BAcc.upd {H0 B0 B : AH} {L L' : List (Nat × Blk)} {H : AH} {v : Value} {ds : List Nat} {b : Nat} {K : Blk} {cs : List Value} (h : BAcc e H0 B0 B L H v ds) (hu : Upd b K ⟨cs, K.elem, K.kind⟩ L L') : BAcc e H0 B0 B L' (put H b K cs) v ds := by
  rcases h with ⟨h1, hv, hS⟩ | ⟨b2, hv, hS⟩
  · exact .inl ⟨h1, hv, hS.put hu⟩
  · exact .inr ⟨b2, hv, hS.put (.tail _ hu)⟩
theorem BAcc.stC {t e' : TypeId} {H0 B0 B : AH} {L L' : List (Nat × Blk)} {H : AH} {v : Value} {ds : List Nat} {b off : Nat} {cs0 cs : List Value} {w : Value} {f : Nat → Nat → AH → Option R} {Q : R → Prop} (h : BAcc e H0 B0 B L H v ds) [hm : InL b ⟨cs0, e', .fix⟩ L] [hs : PrimEq (stK P t cs0 off w) cs]
    [hu : UpL b ⟨cs0, e', .fix⟩ ⟨cs, e', .fix⟩ L L'] (hk : ∀ H', BAcc e H0 B0 B L' H' v ds → Ev (fun k n => f k n H') Q) : Ev (fun k n => (Go.AM.st P t H (ptr b off) w).bind (f k n)) Q := by
  rcases h with ⟨h1, hv, hS⟩ | ⟨b2, hv, hS⟩
  · exact Ev.st hS hm.mem hs.eq rfl hu.upd fun H' hS' => hk H' (.inl ⟨h1, hv, hS'⟩)
  · exact Ev.st hS (.tail _ hm.mem) hs.eq rfl (.tail _ hu.upd) fun H' hS' => hk H' (.inr ⟨b2, hv, hS'⟩)
end
end Go.AM
namespace Go.AM.F
open Go Go.AM Go.Proofs
attribute [local irreducible] run bin un ld st box newV mkS fldA fld ixA ix slc slc3 build buildS cv cvS ap cpy lenV gOp pickV b2 aIf aChk evalK resume iterD Option.bind

section
variable {H : AH}
theorem sum_bits {s : Value} {a b : Value} : ∀ (m i v : Nat), i + m = 8 → v < 4294967296 →
    Ev (fun k n => f90_L1 k s (u32 v) a b (i64 i) n H) (fun o => o = (.exit 2, f90_X_L1 s (u32 (crcBits m v)) a b, H)) := by
  intro m
  induction m with
  | zero =>
    intro i v hi hv
    refine Ev.succ (fun k n => f90_L1_succ k _ _ _ _ _ n H) ?_
    repeat (first|refine zA ?_|refine zB fun _ _ _=>?_|refine zC fun _ _ _=>?_|refine zD fun _ _=>?_|refine zE ?_|refine zF ?_)
    rw [decide_eq_false (by omega)]
    repeat (first|refine zA ?_|refine zB fun _ _ _=>?_|refine zC fun _ _ _=>?_|refine zD fun _ _=>?_|refine zE ?_|refine zF ?_)
    exact Ev.ret rfl
  | succ m ih =>
    intro i v hi hv
    have hb := crcBit_lt hv
    refine Ev.succ (fun k n => f90_L1_succ k _ _ _ _ _ n H) ?_
    repeat (first|refine zA ?_|refine zB fun _ _ _=>?_|refine zC fun _ _ _=>?_|refine zD fun _ _=>?_|refine zE ?_|refine zF ?_)
    rw [decide_eq_true (by omega)]
    repeat (first|refine zA ?_|refine zB fun _ _ _=>?_|refine zC fun _ _ _=>?_|refine zD fun _ _=>?_|refine zE ?_|refine zF ?_)
    refine crc_step hv ?_
    repeat (first|refine zA ?_|refine zB fun _ _ _=>?_|refine zC fun _ _ _=>?_|refine zD fun _ _=>?_|refine zE ?_|refine zF ?_)
    exact ih (i + 1) (crcBit v) (by omega) hb
theorem sum_loop {s : List UInt8} (hl : s.length < 9223372036854775808) : ∀ (m i v : Nat), i + m = s.length → v < 4294967296 →
    Ev (fun k n => f90_L0 k (str s) (u32 v) (i64 s.length) (i64 i) n H) (fun o => o = (.exit 0, f90_X_L0 (u32 (crcGo v (s.drop i))), H)) := by
  intro m
  induction m with
  | zero =>
    intro i v hi hv
    refine Ev.succ (fun k n => f90_L0_succ k _ _ _ _ n H) ?_
    repeat (first|refine zA ?_|refine zB fun _ _ _=>?_|refine zC fun _ _ _=>?_|refine zD fun _ _=>?_|refine zE ?_|refine zF ?_)
    rw [decide_eq_false (by omega)]
    repeat (first|refine zA ?_|refine zB fun _ _ _=>?_|refine zC fun _ _ _=>?_|refine zD fun _ _=>?_|refine zE ?_|refine zF ?_)
    rw [List.drop_of_length_le (by omega)]
    exact Ev.ret rfl
  | succ m ih =>
    intro i v hi hv
    have hx := xorb_lt hv (s.getD i 0)
    have hd := drop_getD (s := s) (i := i) (by omega)
    refine Ev.succ (fun k n => f90_L0_succ k _ _ _ _ n H) ?_
    repeat (first|refine zA ?_|refine zB fun _ _ _=>?_|refine zC fun _ _ _=>?_|refine zD fun _ _=>?_|refine zE ?_|refine zF ?_)
    rw [decide_eq_true (by omega)]
    repeat (first|refine zA ?_|refine zB fun _ _ _=>?_|refine zC fun _ _ _=>?_|refine zD fun _ _=>?_|refine zE ?_|refine zF ?_)
    refine Ev.prim (ix_str i rfl (by omega)) ?_
    repeat (first|refine zA ?_|refine zB fun _ _ _=>?_|refine zC fun _ _ _=>?_|refine zD fun _ _=>?_|refine zE ?_|refine zF ?_)
    rw [mod_two32]
    refine Ev.prim (xorW ⟨hv, Nat.lt_trans (u8_lt _) (by decide)⟩) ?_
    refine Ev.bind (Ev.loop (sum_bits 8 0 _ rfl hx)) ?_
    rintro _ rfl
    refine Ev.eq (fun k n => f90_A1_x2 k n _ _ _ _ H) ?_
    repeat (first|refine zA ?_|refine zB fun _ _ _=>?_|refine zC fun _ _ _=>?_|refine zD fun _ _=>?_|refine zE ?_|refine zF ?_)
    rw [hd]
    exact ih (i + 1) _ (by omega) (crcBits_lt 8 hx)
theorem Sum_spec {s : List UInt8} (hl : s.length < 9223372036854775808) : Ev (fun k _ => rn k 90 [str s] H) (fun r => r = (u32 (crc s), H)) := by
  refine Ev.fn (fun k => f90_eq k _ H) ?_
  repeat (first|refine zA ?_|refine zB fun _ _ _=>?_|refine zC fun _ _ _=>?_|refine zD fun _ _=>?_|refine zE ?_|refine zF ?_)
  refine Ev.bind (Ev.loop (sum_loop hl s.length 0 4294967295 (Nat.zero_add _) (by decide))) ?_
  rintro _ rfl
  refine Ev.eq (fun k _ => f90_A0_x0 k _ H) ?_
  rw [List.drop_zero]
  refine Ev.prim (notW (crcGo_lt s (by decide))) ?_
  exact Ev.ret rfl
theorem crcBit_ref {v : Nat} : crcBit v = if v % 2 = 1 then v / 2 ^^^ 3988292384 else v / 2 := by
  unfold crcBit
  rcases Nat.mod_two_eq_zero_or_one v with e | e
  · rw [e, if_neg (by decide)]; simp
  · rw [e, if_pos rfl]
theorem rsum_bits {s : Value} {b : Value} : ∀ (m i v : Nat), i + m = 8 → v < 4294967296 →
    Ev (fun k n => f81_L1 k s (u32 v) b (i64 i) n H) (fun o => o = (.exit 2, f81_X_L1 s (u32 (crcBits m v)) b, H)) := by
  intro m
  induction m with
  | zero =>
    intro i v hi hv
    refine Ev.succ (fun k n => f81_L1_succ k _ _ _ _ n H) ?_
    repeat (first|refine zA ?_|refine zB fun _ _ _=>?_|refine zC fun _ _ _=>?_|refine zD fun _ _=>?_|refine zE ?_|refine zF ?_)
    rw [decide_eq_false (by omega)]
    repeat (first|refine zA ?_|refine zB fun _ _ _=>?_|refine zC fun _ _ _=>?_|refine zD fun _ _=>?_|refine zE ?_|refine zF ?_)
    exact Ev.ret rfl
  | succ m ih =>
    intro i v hi hv
    have hb := crcBit_lt hv
    have hr := crcBit_ref (v := v)
    refine Ev.succ (fun k n => f81_L1_succ k _ _ _ _ n H) ?_
    repeat (first|refine zA ?_|refine zB fun _ _ _=>?_|refine zC fun _ _ _=>?_|refine zD fun _ _=>?_|refine zE ?_|refine zF ?_)
    rw [decide_eq_true (by omega)]
    repeat (first|refine zA ?_|refine zB fun _ _ _=>?_|refine zC fun _ _ _=>?_|refine zD fun _ _=>?_|refine zE ?_|refine zF ?_)
    by_cases h1 : v % 2 = 1
    · rw [if_pos h1] at hr
      rw [decide_eq_true h1]
      repeat (first|refine zA ?_|refine zB fun _ _ _=>?_|refine zC fun _ _ _=>?_|refine zD fun _ _=>?_|refine zE ?_|refine zF ?_)
      refine Ev.prim (show bin Tryz.prog .quo 135 (u32 v) (.int .u32 2) = some (u32 (v / 2)) from quoU (by omega)) ?_
      refine Ev.prim (xorW (b := 3988292384) ⟨by omega, by decide⟩) ?_
      rw [← hr]
      repeat (first|refine zA ?_|refine zB fun _ _ _=>?_|refine zC fun _ _ _=>?_|refine zD fun _ _=>?_|refine zE ?_|refine zF ?_)
      exact ih (i + 1) (crcBit v) (by omega) hb
    · rw [if_neg h1] at hr
      rw [decide_eq_false h1]
      repeat (first|refine zA ?_|refine zB fun _ _ _=>?_|refine zC fun _ _ _=>?_|refine zD fun _ _=>?_|refine zE ?_|refine zF ?_)
      refine Ev.prim (show bin Tryz.prog .quo 135 (u32 v) (.int .u32 2) = some (u32 (v / 2)) from quoU (by omega)) ?_
      rw [← hr]
      repeat (first|refine zA ?_|refine zB fun _ _ _=>?_|refine zC fun _ _ _=>?_|refine zD fun _ _=>?_|refine zE ?_|refine zF ?_)
      exact ih (i + 1) (crcBit v) (by omega) hb
theorem rsum_loop {s : List UInt8} (hl : s.length < 9223372036854775808) : ∀ (m i v : Nat), i + m = s.length → v < 4294967296 →
    Ev (fun k n => f81_L0 k (str s) (u32 v) (i64 i) n H) (fun o => o = (.exit 0, f81_X_L0 (u32 (crcGo v (s.drop i))), H)) := by
  intro m
  induction m with
  | zero =>
    intro i v hi hv
    refine Ev.succ (fun k n => f81_L0_succ k _ _ _ n H) ?_
    repeat (first|refine zA ?_|refine zB fun _ _ _=>?_|refine zC fun _ _ _=>?_|refine zD fun _ _=>?_|refine zE ?_|refine zF ?_)
    rw [decide_eq_false (by omega)]
    repeat (first|refine zA ?_|refine zB fun _ _ _=>?_|refine zC fun _ _ _=>?_|refine zD fun _ _=>?_|refine zE ?_|refine zF ?_)
    rw [List.drop_of_length_le (by omega)]
    exact Ev.ret rfl
  | succ m ih =>
    intro i v hi hv
    have hx := xorb_lt hv (s.getD i 0)
    have hd := drop_getD (s := s) (i := i) (by omega)
    refine Ev.succ (fun k n => f81_L0_succ k _ _ _ n H) ?_
    repeat (first|refine zA ?_|refine zB fun _ _ _=>?_|refine zC fun _ _ _=>?_|refine zD fun _ _=>?_|refine zE ?_|refine zF ?_)
    rw [decide_eq_true (by omega)]
    repeat (first|refine zA ?_|refine zB fun _ _ _=>?_|refine zC fun _ _ _=>?_|refine zD fun _ _=>?_|refine zE ?_|refine zF ?_)
    refine Ev.prim (ix_str i rfl (by omega)) ?_
    repeat (first|refine zA ?_|refine zB fun _ _ _=>?_|refine zC fun _ _ _=>?_|refine zD fun _ _=>?_|refine zE ?_|refine zF ?_)
    rw [mod_two32]
    refine Ev.prim (xorW ⟨hv, Nat.lt_trans (u8_lt _) (by decide)⟩) ?_
    refine Ev.bind (Ev.loop (rsum_bits 8 0 _ rfl hx)) ?_
    rintro _ rfl
    refine Ev.eq (fun k n => f81_A1_x2 k n _ _ _ H) ?_
    repeat (first|refine zA ?_|refine zB fun _ _ _=>?_|refine zC fun _ _ _=>?_|refine zD fun _ _=>?_|refine zE ?_|refine zF ?_)
    rw [hd]
    exact ih (i + 1) _ (by omega) (crcBits_lt 8 hx)
theorem rSum_spec {s : List UInt8} (hl : s.length < 9223372036854775808) : Ev (fun k _ => rn k 81 [str s] H) (fun r => r = (u32 (crc s), H)) := by
  refine Ev.fn (fun k => f81_eq k _ H) ?_
  refine Ev.bind (Ev.loop (rsum_loop hl s.length 0 4294967295 (Nat.zero_add _) (by decide))) ?_
  rintro _ rfl
  refine Ev.eq (fun k _ => f81_A0_x0 k _ H) ?_
  rw [List.drop_zero]
  refine Ev.prim (xorW (b := 4294967295) ⟨crcGo_lt s (by decide), by decide⟩) ?_
  rw [Nat.xor_comm]
  exact Ev.ret rfl
end
end Go.AM.F


namespace Go.AM.F
open Go Go.AM Go.Proofs
attribute [local irreducible] run bin un ld st box newV mkS fldA fld ixA ix slc slc3 build buildS cv cvS ap cpy lenV gOp pickV b2 aIf aChk evalK resume iterD Option.bind

abbrev BldT : List TypeId := [92]
theorem copy_eq (k : Nat) (a0 : Value) (H : AH) : rn (k + 1) 68 [a0] H = gCopy Tryz.prog BldT [a0] H := by kernel_rfl
theorem copy_spec {H0 B0 B H : AH} {L : List (Nat × Blk)} {p : Nat} {c0 v : Value} {rest : List Value} {T : TypeId} {ds : List Nat} (hT : T ∈ BldT) (hl : rest.length + 2 = szT Tryz.prog T) (hc : c0 = .pointer none ∨ c0 = ptr p 0)
    (hA : BAcc 5 H0 B0 B ((p, ⟨c0 :: v :: rest, T, .fix⟩) :: L) H v ds) :
    Ev (fun k _ => rn k 68 [ptr p 0] H) (fun r => r.1 = .tuple #[] ∧ BAcc 5 H0 B0 B ((p, ⟨ptr p 0 :: v :: rest, T, .fix⟩) :: L) r.2 v ds) := by
  refine Ev.fn (fun k => copy_eq k _ H) ?_
  have hb := hA.st.get (.head _)
  rcases hc with rfl | rfl
  · have e : gCopy Tryz.prog BldT [ptr p 0] H = some (.tuple #[], put H p ⟨.pointer none :: v :: rest, T, .fix⟩ (ptr p 0 :: v :: rest)) := by
      show (blk H p).bind _ = _
      rw [hb]
      simp only [Option.bind_some]
      rw [if_pos ⟨trivial, hT, by simpa using hl⟩]
      rfl
    rw [e]
    exact Ev.ret ⟨rfl, hA.upd (.head _)⟩
  · have e : gCopy Tryz.prog BldT [ptr p 0] H = some (.tuple #[], H) := by
      show (blk H p).bind _ = _
      rw [hb]
      simp only [Option.bind_some]
      rw [if_pos ⟨trivial, hT, by simpa using hl⟩]
      exact if_pos rfl
    rw [e]
    exact Ev.ret ⟨rfl, hA⟩
theorem WriteString_spec {H0 B0 B H : AH} {L : List (Nat × Blk)} {p : Nat} {l : List UInt8} {c0 v : Value} {rest : List Value} {T : TypeId} {ds : List Nat} (hT : T ∈ BldT) (hl : rest.length + 2 = szT Tryz.prog T) (hc : c0 = .pointer none ∨ c0 = ptr p 0) (hd : ds.length + l.length ≤ 140737488355328)
    (hA : BAcc 5 H0 B0 B ((p, ⟨c0 :: v :: rest, T, .fix⟩) :: L) H v ds) :
    Ev (fun k _ => rn k 49 [ptr p 0, str l] H) (fun r => r.1 = .tuple #[i64 l.length, .nilIface] ∧ ∃ v' B', MoC B B' ∧ BAcc 5 H0 B0 B' ((p, ⟨ptr p 0 :: v' :: rest, T, .fix⟩) :: L) r.2 v' (ds ++ l.map UInt8.toNat)) := by
  refine Ev.fn (fun k => f49_eq k _ _ H) ?_
  refine Ev.b2 (copy_spec hT hl hc hA) fun v1 H1 h1 => ?_
  obtain ⟨h1, hA1⟩ := h1
  simp only at h1 hA1
  have hSt := hA1.st
  have hcell := hA1.cell
  repeat (first|refine zA ?_|refine zB fun _ _ _=>?_|refine zC fun _ _ _=>?_|refine zD fun _ _=>?_|refine zE ?_|refine zF ?_)
  refine hA1.str (by kernel_rfl) hd (by kernel_rfl) fun v' B' H' hm hA' => ?_
  have hcell' := hA'.cell
  refine Ev.s ?_
  refine Ev.s ?_
  refine BAcc.stC (P := Tryz.prog) (t := 63) (b := p) (off := 1) (w := v') hA' fun H2 hA2 => ?_
  refine Ev.s ?_
  exact Ev.ret ⟨rfl, v', B', hm, hA2⟩
theorem bacc_len {e t : TypeId} [hu : Und Tryz.prog t (.slice e)] {H0 B0 B H : AH} {L : List (Nat × Blk)} {v : Value} {ds : List Nat} (h : BAcc e H0 B0 B L H v ds) : lenV Tryz.prog t v = some (i64 ds.length) := by
  rcases h with ⟨rfl, rfl, _⟩ | ⟨b, rfl, _⟩
  · unfold lenV; rw [hu.eq]; rfl
  · unfold lenV; rw [hu.eq]; rfl
theorem String_spec {H0 B0 B H : AH} {L : List (Nat × Blk)} {p : Nat} {c0 v : Value} {rest : List Value} {T : TypeId} {ds : List Nat} (hd : ds.length ≤ 140737488355328) (hne : ds ≠ [])
    (hA : BAcc 5 H0 B0 B ((p, ⟨c0 :: v :: rest, T, .fix⟩) :: L) H v ds) :
    Ev (fun k _ => rn k 50 [ptr p 0] H) (fun r => r.1 = str (ds.map fun n => UInt8.ofNat n) ∧ St H0 B0 B ((p, ⟨c0 :: v :: rest, T, .fix⟩) :: L) r.2) := by
  refine Ev.fn (fun k => f50_eq k _ H) ?_
  have hSt := hA.st
  have hcell := hA.cell
  obtain ⟨q, H', q1, q2, q3⟩ := hA.said (P := Tryz.prog) (pt := 128) hne (by exact Tryz.underlying128) (by kernel_rfl) (by omega)
  have hlen := bacc_len (t := 63) hA
  repeat (first|refine zA ?_|refine zB fun _ _ _=>?_|refine zC fun _ _ _=>?_|refine zD fun _ _=>?_|refine zE ?_|refine zF ?_)
  refine Ev.prim q1 ?_
  repeat (first|refine zA ?_|refine zB fun _ _ _=>?_|refine zC fun _ _ _=>?_|refine zD fun _ _=>?_|refine zE ?_|refine zF ?_)
  refine Ev.prim hlen ?_
  refine Ev.prim2 q2 ?_
  exact Ev.ret ⟨rfl, q3.1⟩
end Go.AM.F
namespace Go.AM.F
open Go Go.AM Go.Proofs
attribute [local irreducible] run bin un ld st box newV mkS fldA fld ixA ix slc slc3 build buildS cv cvS ap cpy lenV gOp pickV b2 aIf aChk evalK resume iterD Option.bind

theorem WriteByte_spec {H0 B0 B H : AH} {L : List (Nat × Blk)} {p d : Nat} {c0 v : Value} {rest : List Value} {T : TypeId} {ds : List Nat} (hT : T ∈ BldT) (hl : rest.length + 2 = szT Tryz.prog T) (hc : c0 = .pointer none ∨ c0 = ptr p 0) (hd : ds.length < 140737488355328)
    (hA : BAcc 5 H0 B0 B ((p, ⟨c0 :: v :: rest, T, .fix⟩) :: L) H v ds) :
    Ev (fun k _ => rn k 85 [ptr p 0, u8 d] H) (fun r => r.1 = .nilIface ∧ ∃ v' B', MoC B B' ∧ BAcc 5 H0 B0 B' ((p, ⟨ptr p 0 :: v' :: rest, T, .fix⟩) :: L) r.2 v' (ds ++ [d])) := by
  refine Ev.fn (fun k => f85_eq k _ _ H) ?_
  refine Ev.b2 (copy_spec hT hl hc hA) fun v1 H1 h1 => ?_
  obtain ⟨h1, hA1⟩ := h1
  simp only at h1 hA1
  have hSt := hA1.st
  have hcell := hA1.cell
  repeat (first|refine zA ?_|refine zB fun _ _ _=>?_|refine zC fun _ _ _=>?_|refine zD fun _ _=>?_|refine zE ?_|refine zF ?_)
  refine hA1.push (by omega) fun v' B' H' hm hA' => ?_
  have hcell' := hA'.cell
  refine Ev.s ?_
  refine Ev.s ?_
  refine BAcc.stC (P := Tryz.prog) (t := 63) (b := p) (off := 1) (w := v') hA' fun H2 hA2 => ?_
  exact Ev.ret ⟨rfl, v', B', hm, hA2⟩
end Go.AM.F
namespace Go.AM.F
open Go Go.Proofs Go.RowKit
set_option maxHeartbeats 1000000 in
set_option maxRecDepth 100000 in
theorem copyCheck_used (b : Nat) (w : World) (h0 : w.cell? ⟨b, 0, none⟩ = some (.pointer (some ⟨b, 0, none⟩))) :
    Calls Tryz.prog 68 #[.pointer (some ⟨b, 0, none⟩)] w fun e w' => e = .returned (.tuple #[]) ∧ w' = w := by
  obtain ⟨j, hj⟩ := Option.isSome_iff_exists.1 (show (Tryz.prog.info? 92).isSome = true by kernel_rfl)
  have mixed : Tryz.prog.follows .mixedOrders = true := by kernel_rfl
  have t72 := Tryz.underlying92; have a72 := Tryz.isAgg92; have z72 := Tryz.sizeOf92; have v72 := Tryz.zeroValue92; have u72 := run_underlying t72
  have t70 := Tryz.underlying90; have a70 := Tryz.isAgg90; have z70 := Tryz.sizeOf90; have v70 := Tryz.zeroValue90; have u70 := run_underlying t70
  go_enter Tryz.func68, Tryz.ntmps68
  go_wp2
  rw [Lib.run_neq_ptr_same w _ t70 hj]
  go_wp2
  go_end0
  exact ⟨rfl, rfl⟩
set_option maxHeartbeats 1000000 in
set_option maxRecDepth 100000 in
theorem copyCheck_fresh (T n b : Nat) (hn : 0 < n) (hT : liesAt Tryz.prog Tryz.prog.depth T (n / Tryz.prog.cellsOf T) 0 92 1 = true) (w : World) (h0 : w.cell? ⟨b, 0, none⟩ = some (.pointer none)) (hsh : w.shape? b = some (T, n)) (hfz : w.frozen? ⟨b, 0, none⟩ = false) :
    Calls Tryz.prog 68 #[.pointer (some ⟨b, 0, none⟩)] w fun e w' => e = .returned (.tuple #[]) ∧ w' = w.setCell ⟨b, 0, none⟩ (.pointer (some ⟨b, 0, none⟩)) := by
  obtain ⟨j, hj⟩ := Option.isSome_iff_exists.1 (show (Tryz.prog.info? 92).isSome = true by kernel_rfl)
  have hc2 : Tryz.prog.cellsOf 92 = 2 := by kernel_rfl
  have hjs : j.size ≠ 0 := by
    unfold Program.cellsOf at hc2
    rw [hj] at hc2
    have : j.size = 2 := hc2
    omega
  have mixed : Tryz.prog.follows .mixedOrders = true := by kernel_rfl
  have t72 := Tryz.underlying92; have a72 := Tryz.isAgg92; have z72 := Tryz.sizeOf92; have v72 := Tryz.zeroValue92; have u72 := run_underlying t72
  have t70 := Tryz.underlying90; have a70 := Tryz.isAgg90; have z70 := Tryz.sizeOf90; have v70 := Tryz.zeroValue90; have u70 := run_underlying t70
  have tU := Tryz.underlying140; have aU := Tryz.isAgg140; have zU := Tryz.sizeOf140; have vU := Tryz.zeroValue140; have uU := run_underlying tU
  go_enter Tryz.func68, Tryz.ntmps68
  go_wp2
  rw [Lib.run_to_unsafe w ⟨b, 0, none⟩ t70 tU hj hjs hsh hn]
  simp only [Result.andThen]
  rw [Oper.upon_value]
  go_wp2
  rw [run_callFunc_extern Tryz.func83 (by kernel_rfl) (by kernel_rfl) (by kernel_rfl) (e := Extern.AbiNoEscape.same) (by kernel_rfl)]
  rw [Lib.run_noEscape]
  simp only [Result.andThen]
  rw [Oper.upon_value]
  go_wp2
  rw [Lib.run_from_unsafe w ⟨b, 0, none⟩ tU t70 hj hsh hT]
  simp only [Result.andThen]
  rw [Oper.upon_value]
  go_wp2
  go_end0
  exact ⟨rfl, rfl⟩
end Go.AM.F
namespace Go.AM.F
open Go Go.Proofs Go.RowKit
set_option maxHeartbeats 1000000 in
set_option maxRecDepth 100000 in
theorem grow_fresh (b n : Nat) (w : World) (c : Array Value) (T : TypeId) (hbk : w.heap[b]? = some (.cells c T (0, 0))) (h1 : c[1]? = some (.slice none 0 0)) (hn : n ≤ 140737488355328) :
    Calls Tryz.prog 96 #[.pointer (some ⟨b, 0, none⟩), .int .i64 n] w fun e w' => e = .returned (.tuple #[]) ∧ ∃ cs : Array Value,
      w'.heap = ((w.setCell ⟨b, 1, none⟩ (.slice (some ⟨w.heap.size, 0, none⟩) 0 cs.size)).alloc (.cells cs 5)).heap ∧ Below b w w' := by
  have t76 := Tryz.underlying63; have a76 := Tryz.isAgg63; have z76 := Tryz.sizeOf63; have v76 := Tryz.zeroValue63; have u76 := run_underlying t76
  have t98 := Tryz.underlying90; have a98 := Tryz.isAgg90; have z98 := Tryz.sizeOf90; have v98 := Tryz.zeroValue90; have u98 := run_underlying t98
  have t100 := Tryz.underlying92; have a100 := Tryz.isAgg92; have z100 := Tryz.sizeOf92; have v100 := Tryz.zeroValue92; have u100 := run_underlying t100
  have t3 := Tryz.underlying3; have a3 := Tryz.isAgg3; have z3 := Tryz.sizeOf3; have v3 := Tryz.zeroValue3; have u3 := run_underlying t3
  have t5 := Tryz.underlying5; have a5 := Tryz.isAgg5; have z5 := Tryz.sizeOf5; have v5 := Tryz.zeroValue5; have u5 := run_underlying t5
  obtain ⟨cs, hrun, hle, hmax⟩ := Lib.run_makeNoZero (P := Tryz.prog) w.drew #[3] 63 5 t76 n (by omega)
  have hw : IntKind.i64.wrap (IntKind.i64.wrap 0 + (n : Int)) = n := by
    rw [IntKind.wrap_i64, IntKind.wrap_i64]
    omega
  have hcall : (callFunc 98 #[.int .i64 (IntKind.i64.wrap (IntKind.i64.wrap 0 + (n : Int)))]).run Tryz.prog w.drew = .ok (.value (.slice (some ⟨w.drew.heap.size, 0, none⟩) n cs.size)) (w.drew.drew.drew.alloc (.cells cs 5)) := by
    rw [hw, run_callFunc_extern Tryz.func98 (by kernel_rfl) (by kernel_rfl) (by kernel_rfl) (e := Extern.BytealgMakeNoZero.makeNoZero #[3] #[63]) (by kernel_rfl), hrun]
    rfl
  have hlt : b < w.heap.size := (Array.getElem?_eq_some_iff.1 hbk).1
  have c1 : w.drew.cell? ⟨b, 1, none⟩ = some (.slice none 0 0) := by
    have : w.drew.heap[b]? = _ := hbk
    rw [Lib.cell_of_heap this]; exact h1
  have c2 : (w.alloc (.cells cs 5)).cell? ⟨b, 1, none⟩ = some (.slice none 0 0) := by
    have : (w.alloc (.cells cs 5)).heap[b]? = _ := (Lib.alloc_old w _ b hlt).trans hbk
    rw [Lib.cell_of_heap this]; exact h1
  have f2 : (w.alloc (.cells cs 5)).frozen? ⟨b, 1, none⟩ = false := Lib.frozen_of_heap ((Lib.alloc_old w _ b hlt).trans hbk) 1
  have hcopy : ∀ W : World, (Builtin.copy_ #[63, 63] 3 #[.slice (some ⟨w.heap.size, 0, none⟩) 0 cs.size, .slice none 0 0]).run Tryz.prog W = .ok (goInt 0) W :=
    fun W => run_copy_none W 63 63 3 5 _ _ 0 cs.size 0 0 t76 (by kernel_rfl) rfl
  have hbel : Below b w ((w.setCell ⟨b, 1, none⟩ (.slice (some ⟨w.heap.size, 0, none⟩) 0 cs.size)).alloc (.cells cs 5)) :=
    ((Below.refl b w).setCell (p := ⟨b, 1, none⟩) (Nat.le_refl _) _).alloc (by simp [World.setCell]; omega) _
  clear hw
  have mixed : Tryz.prog.follows .mixedOrders = true := by kernel_rfl
  go_enter Tryz.func96, Tryz.ntmps96
  go_wp2
  go_region_o
  all_goals (go_wp2; go_end0; first | exact ⟨rfl, cs, rfl, hbel.drew.drew.drew⟩ | exact ⟨rfl, cs, rfl, hbel.drew.drew⟩ | exact ⟨rfl, cs, rfl, hbel.drew.drew.drew.drew⟩)
end Go.AM.F
namespace Go.AM.F
open Go Go.Proofs Go.RowKit
theorem heap_two (w : World) (b : Nat) (c : Array Value) (T : TypeId) (u v : Value) (o : Obj) (hbk : w.heap[b]? = some (.cells c T (0, 0))) :
    (((w.setCell ⟨b, 0, none⟩ u).setCell ⟨b, 1, none⟩ v).alloc o).heap = ((w.alloc o).setRow b ((c.setIfInBounds 0 u).setIfInBounds 1 v)).heap := by
  have hlt := (Array.getElem?_eq_some_iff.1 hbk).1
  have hg := (Array.getElem?_eq_some_iff.1 hbk).2
  apply Array.ext_getElem?
  intro i
  unfold World.setCell World.setRow World.alloc
  simp only [Array.getElem?_modify, Array.getElem?_push, Array.size_modify]
  by_cases hi : i = w.heap.size
  · subst hi
    rw [if_pos rfl, if_pos rfl, if_neg (by omega)]
  · rw [if_neg hi, if_neg hi]
    by_cases hb : b = i
    · subst hb
      rw [if_pos rfl, if_pos rfl, if_pos rfl, hbk]; rfl
    · rw [if_neg hb, if_neg hb, if_neg hb]
set_option maxHeartbeats 1000000 in
set_option maxRecDepth 100000 in
theorem Grow_fresh (T b n : Nat) (hT2 : 2 ≤ szT Tryz.prog T) (hT : liesAt Tryz.prog Tryz.prog.depth T (szT Tryz.prog T / Tryz.prog.cellsOf T) 0 92 1 = true) (w : World) (c : Array Value) (hbk : w.heap[b]? = some (.cells c T (0, 0))) (hsz : c.size = szT Tryz.prog T) (h0 : c[0]? = some (.pointer none))
    (h1 : c[1]? = some (.slice none 0 0)) (hn0 : 0 < n) (hn : n ≤ 140737488355328) :
    Calls Tryz.prog 88 #[.pointer (some ⟨b, 0, none⟩), .int .i64 n] w fun e w' => e = .returned (.tuple #[]) ∧ ∃ cs : Array Value,
      w'.heap = ((w.alloc (.cells cs 5)).setRow b ((c.setIfInBounds 0 (.pointer (some ⟨b, 0, none⟩))).setIfInBounds 1 (.slice (some ⟨w.heap.size, 0, none⟩) 0 cs.size))).heap ∧ Below b w w' := by
  have t76 := Tryz.underlying63; have a76 := Tryz.isAgg63; have z76 := Tryz.sizeOf63; have v76 := Tryz.zeroValue63; have u76 := run_underlying t76
  have t98 := Tryz.underlying90; have a98 := Tryz.isAgg90; have z98 := Tryz.sizeOf90; have v98 := Tryz.zeroValue90; have u98 := run_underlying t98
  have t100 := Tryz.underlying92; have a100 := Tryz.isAgg92; have z100 := Tryz.sizeOf92; have v100 := Tryz.zeroValue92; have u100 := run_underlying t100
  have t3 := Tryz.underlying3; have a3 := Tryz.isAgg3; have z3 := Tryz.sizeOf3; have v3 := Tryz.zeroValue3; have u3 := run_underlying t3
  have hlt : b < w.heap.size := (Array.getElem?_eq_some_iff.1 hbk).1
  have hbk1 : (w.setCell ⟨b, 0, none⟩ (.pointer (some ⟨b, 0, none⟩))).heap[b]? = some (.cells (c.setIfInBounds 0 (.pointer (some ⟨b, 0, none⟩))) T (0, 0)) := by
    simp [World.setCell, Array.getElem?_modify, hbk]
  have h11 : (c.setIfInBounds 0 (.pointer (some ⟨b, 0, none⟩)))[1]? = some (.slice none 0 0) := by rw [Array.getElem?_setIfInBounds_ne (by decide)]; exact h1
  have c1 : (w.setCell ⟨b, 0, none⟩ (.pointer (some ⟨b, 0, none⟩))).cell? ⟨b, 1, none⟩ = some (.slice none 0 0) := by rw [Lib.cell_of_heap hbk1]; exact h11
  have c1' : (w.setCell ⟨b, 0, none⟩ (.pointer (some ⟨b, 0, none⟩))).drew.cell? ⟨b, 1, none⟩ = some (.slice none 0 0) := c1
  have hb1 : Below b w (w.setCell ⟨b, 0, none⟩ (.pointer (some ⟨b, 0, none⟩))) := (Below.refl b w).setCell (p := ⟨b, 0, none⟩) (Nat.le_refl _) _
  have hsize : (w.setCell ⟨b, 0, none⟩ (.pointer (some ⟨b, 0, none⟩))).heap.size = w.heap.size := by simp [World.setCell]
  have hs2 : (w.setCell ⟨b, 0, none⟩ (.pointer (some ⟨b, 0, none⟩))).drew.heap.size = w.heap.size := hsize
  have e95 : ∀ args w, (callFunc 68 args).run Tryz.prog w = .ok (.enter 68 args) w := enters_of Tryz.func68 (by kernel_rfl) rfl
  have e96 : ∀ args w, (callFunc 96 args).run Tryz.prog w = .ok (.enter 96 args) w := enters_of Tryz.func96 (by kernel_rfl) rfl
  have mixed : Tryz.prog.follows .mixedOrders = true := by kernel_rfl
  have hn' : ¬ ((n : Int) < 0) := by omega
  have hn2 : (0 : Int) < (n : Int) := by omega
  have hcc := copyCheck_fresh T (szT Tryz.prog T) b (by omega) hT w (by rw [Lib.cell_of_heap hbk]; exact h0) (by simp [World.shape?, hbk, hsz]) (Lib.frozen_of_heap hbk 0)
  have hgr := grow_fresh b n (w.setCell ⟨b, 0, none⟩ (.pointer (some ⟨b, 0, none⟩))).drew (c.setIfInBounds 0 (.pointer (some ⟨b, 0, none⟩))) T hbk1 h11 hn
  go_enter Tryz.func88, Tryz.ntmps88
  go_wp2_with (go_at_fn 68; refine hcc.mono ?_; rintro e w' ⟨rfl, rfl⟩)
  go_region_o
  all_goals go_wp2_with (go_at_fn 96; refine hgr.mono ?_; rintro e w' ⟨rfl, cs, h1, h2⟩)
  all_goals (go_end0; refine ⟨rfl, cs, ?_, hb1.drew.trans h2⟩; rw [hs2] at h1; exact h1.trans (by rw [← heap_two w b c T _ _ _ hbk]; rfl))
end Go.AM.F
namespace Go.AM.F
open Go Go.AM Go.Proofs
attribute [local irreducible] run bin un ld st box newV mkS fldA fld ixA ix slc slc3 build buildS cv cvS ap cpy lenV gOp pickV b2 aIf aChk evalK resume iterD Option.bind

theorem mixed0 : (Tryz.prog).follows .mixedOrders = true := by kernel_rfl
theorem gv_ok : GivenOK Tryz.prog gv := by
  intro f g h
  have hgv : gv f = (if f = 68 then some (plain (gCopy Tryz.prog [92])) else if f = 88 then some (plain (gGrow Tryz.prog [92] 5))
    else if f = 71 then some (fun call n => runMid Tryz.prog call n (tbs 71) mText Tryz.f71) else none) := rfl
  rw [hgv] at h
  by_cases hf : f = 68
  · rw [if_pos hf] at h
    cases h
    subst hf
    refine plain_ok (gCopy_ok ⟨_, Tryz.func68, by decide +kernel, by kernel_rfl⟩ (fun T hT b w h0 hsh hfz => ?_) (fun b w h0 => copyCheck_used b w h0))
    simp only [List.mem_cons, List.not_mem_nil, or_false] at hT
    subst hT
    exact copyCheck_fresh _ _ b (by have : szT Tryz.prog 92 = 2 := by kernel_rfl
                                    omega) (by kernel_rfl) w h0 hsh hfz
  · rw [if_neg hf] at h
    by_cases hf : f = 88
    · rw [if_pos hf] at h
      cases h
      subst hf
      have s2 : szT Tryz.prog 92 = 2 := by kernel_rfl
      refine plain_ok (gGrow_ok ⟨_, Tryz.func88, by decide +kernel, by kernel_rfl⟩ (by kernel_rfl) (fun T hT => ?_) (fun T hT b n w c hbk hsz h0 h1 hn0 hn => ?_))
      · simp only [List.mem_cons, List.not_mem_nil, or_false] at hT
        subst hT; omega
      · simp only [List.mem_cons, List.not_mem_nil, or_false] at hT
        subst hT
        exact Grow_fresh _ b n (by omega) (by kernel_rfl) w c hbk hsz h0 h1 hn0 hn
    · rw [if_neg hf] at h
      by_cases hf : f = 71
      · rw [if_pos hf] at h
        cases h
        subst hf
        intro call n hc hd args H v H' hr
        refine runMid_sound hc hd mixed0 Tryz.func71 (fun c hb => RangesAt.nil ?_) (mText_ok hc hd mixed0) hr
        have hz : rgs (bodyOf Tryz.f71) = [] := by kernel_rfl
        have e : bodyOf Tryz.f71 = c := by unfold bodyOf; rw [hb]; rfl
        rw [← e]
        exact hz
      · rw [if_neg hf] at h
        cases h
end Go.AM.F
namespace Go.AM.F
open Go Go.AM Go.Proofs
attribute [local irreducible] run bin un ld st box newV mkS fldA fld ixA ix slc slc3 build buildS cv cvS ap cpy lenV gOp pickV b2 aIf aChk evalK resume iterD Option.bind

theorem bld_sz : ([] : List Value).length + 2 = szT Tryz.prog 92 := by
  have : szT Tryz.prog 92 = 2 := by kernel_rfl
  rw [this]; rfl
theorem bldT_mem : 92 ∈ BldT := .head _
theorem String_same {H0 B0 B H : AH} {L : List (Nat × Blk)} {p : Nat} {c0 v : Value} {rest : List Value} {T : TypeId} {ds : List Nat} (hd : ds.length ≤ 140737488355328) (hne : ds ≠ [])
    (hA : BAcc 5 H0 B0 B ((p, ⟨c0 :: v :: rest, T, .fix⟩) :: L) H v ds) :
    Ev (fun k _ => rn k 50 [ptr p 0] H) (fun r => r = (str (ds.map fun n => UInt8.ofNat n), H)) := by
  refine Ev.fn (fun k => f50_eq k _ H) ?_
  have hSt := hA.st
  have hcell := hA.cell
  obtain ⟨q, H', q1, q2, q3, rfl⟩ := hA.said (P := Tryz.prog) (pt := 128) hne (by exact Tryz.underlying128) (by kernel_rfl) (by omega)
  have hlen := bacc_len (t := 63) hA
  repeat (first|refine zA ?_|refine zB fun _ _ _=>?_|refine zC fun _ _ _=>?_|refine zD fun _ _=>?_|refine zE ?_|refine zF ?_)
  refine Ev.prim q1 ?_
  repeat (first|refine zA ?_|refine zB fun _ _ _=>?_|refine zC fun _ _ _=>?_|refine zD fun _ _=>?_|refine zE ?_|refine zF ?_)
  refine Ev.prim hlen ?_
  refine Ev.prim2 q2 ?_
  exact Ev.ret rfl
section
variable {B B0 H0 H : AH} {L : List (Nat × Blk)}
theorem bytes_loop {p : Nat} {v : Value} {l : List Nat} (hll : l.length ≤ 1000000) :
    ∀ (m i : Nat) (B H : AH) (b : Value), i + m = l.length → FL B v u32 l → BAcc 5 H0 B0 B ((p, ⟨[if i = 0 then .pointer none else ptr p 0, b], 92, .fix⟩) :: L) H b ((l.take i).map (· % 256)) →
    Ev (fun k n => f77_L0 k (ptr p 0) v (i64 l.length) (i64 i) n H) (fun o => ∃ B' H' b' c, o = (.exit 0, f77_X_L0 (ptr p 0), H') ∧ MoC B B' ∧ BAcc 5 H0 B0 B' ((p, ⟨[c, b'], 92, .fix⟩) :: L) H' b' (l.map (· % 256))) := by
  intro m
  induction m with
  | zero =>
    intro i B H b hi hv hA
    refine Ev.succ (fun k n => f77_L0_succ k _ _ _ _ n H) ?_
    repeat (first|refine zA ?_|refine zB fun _ _ _=>?_|refine zC fun _ _ _=>?_|refine zD fun _ _=>?_|refine zE ?_|refine zF ?_)
    rw [decide_eq_false (by omega)]
    repeat (first|refine zA ?_|refine zB fun _ _ _=>?_|refine zC fun _ _ _=>?_|refine zD fun _ _=>?_|refine zE ?_|refine zF ?_)
    rw [List.take_of_length_le (by omega)] at hA
    exact Ev.ret ⟨B, H, b, _, rfl, ⟨Mo.refl B⟩, hA⟩
  | succ m ih =>
    intro i B H b hi hv hA
    obtain ⟨x, hx⟩ : ∃ x, l[i]? = some x := ⟨_, List.getElem?_eq_getElem (by omega)⟩
    have hSt := hA.st
    refine Ev.succ (fun k n => f77_L0_succ k _ _ _ _ n H) ?_
    repeat (first|refine zA ?_|refine zB fun _ _ _=>?_|refine zC fun _ _ _=>?_|refine zD fun _ _=>?_|refine zE ?_|refine zF ?_)
    rw [decide_eq_true (by omega)]
    repeat (first|refine zA ?_|refine zB fun _ _ _=>?_|refine zC fun _ _ _=>?_|refine zD fun _ _=>?_|refine zE ?_|refine zF ?_)
    refine Ev.ixF i rfl hx fun q hq => ?_
    repeat (first|refine zA ?_|refine zB fun _ _ _=>?_|refine zC fun _ _ _=>?_|refine zD fun _ _=>?_|refine zE ?_|refine zF ?_)
    refine Ev.b2 (WriteByte_spec (d := x % 256) (rest := []) bldT_mem bld_sz (by split <;> simp) (by rw [List.length_map, List.length_take]; omega) hA) ?_
    rintro _ H1 ⟨rfl, b1, B1, hm1, hA1⟩
    dsimp only at hA1
    clear hA hSt
    have e1 : (l.take i).map (· % 256) ++ [x % 256] = (l.take (i + 1)).map (· % 256) := by
      rw [List.take_add_one, hx, List.map_append]; rfl
    rw [e1] at hA1
    have hSt := hA1.st
    repeat (first|refine zA ?_|refine zB fun _ _ _=>?_|refine zC fun _ _ _=>?_|refine zD fun _ _=>?_|refine zE ?_|refine zF ?_)
    refine (ih (i + 1) B1 H1 b1 (by omega) (hv.mono hm1.mo) (by rw [if_neg (by omega)]; exact hA1)).mono ?_
    rintro o ⟨B', H', b', c, h1, h2, h3⟩
    exact ⟨B', H', b', c, h1, ⟨hm1.mo.trans h2.mo⟩, h3⟩
theorem bytes_spec {v : Value} {l : List Nat} (hv : FL B v u32 l) (hne : l ≠ []) (hll : l.length ≤ 1000000) (hS : St H0 B0 B L H) :
    Ev (fun k _ => rn k 77 [v] H) (fun r => r.1 = str (l.map UInt8.ofNat) ∧ ∃ B', MoC B B' ∧ St H0 B0 B' L r.2) := by
  refine Ev.fn (fun k => f77_eq k _ H) ?_
  refine Ev.newC fun p H1 hS1 => ?_
  clear hS
  repeat (first|refine zA ?_|refine zB fun _ _ _=>?_|refine zC fun _ _ _=>?_|refine zD fun _ _=>?_|refine zE ?_|refine zF ?_)
  refine Ev.bind (Ev.loop (bytes_loop hll l.length 0 B H1 (.slice none 0 0) (Nat.zero_add _) hv (BAcc.nil hS1))) ?_
  rintro _ ⟨B2, H2, b2, c, rfl, hm2, hA2⟩
  refine Ev.eq (fun k _ => f77_A0_x0 k _ H2) ?_
  refine Ev.b2 (String_same (by rw [List.length_map]; omega) (by simpa using hne) hA2) ?_
  rintro _ _ ⟨rfl, rfl⟩
  refine Ev.ret ⟨?_, B2, hm2, hA2.st.drop1⟩
  dsimp only
  congr 1
  rw [List.map_map]
  apply List.map_congr_left
  intro a _
  show UInt8.ofNat (a % 256) = UInt8.ofNat a
  apply UInt8.toNat_inj.1
  rw [UInt8.toNat_ofNat', UInt8.toNat_ofNat']
  omega
theorem psum_spec {s : List UInt8} (hl : s.length < 9223372036854775808) (hS : St H0 B0 B L H) :
    Ev (fun k _ => rn k 79 [str s] H) (fun r => r.1 = str (le4 (crc s)) ∧ ∃ B', MoC B B' ∧ St H0 B0 B' L r.2) := by
  refine Ev.fn (fun k => f79_eq k _ H) ?_
  refine Ev.b2 (Sum_spec hl) ?_
  rintro _ _ ⟨rfl, rfl⟩
  have hc := crc_lt s
  generalize crc s = n at hc
  refine Ev.prim (shrN (a := n) (b := 8) (by decide)) ?_
  refine Ev.prim (shrN (a := n) (b := 16) (by decide)) ?_
  refine Ev.prim (shrN (a := n) (b := 24) (by decide)) ?_
  refine Ev.bsC (P := Tryz.prog) (t := 143) (hS := hS) (by decide) fun b H1 hS1 => ?_
  obtain ⟨B1, hm1, hF, hS2⟩ := St.flz (l := [n, n / 2 ^ 8, n / 2 ^ 16, n / 2 ^ 24]) (f := u32) (cap := 4) hS1 (Nat.le_refl _)
  refine Ev.b2 (bytes_spec hF (by simp) (by simp) hS2) ?_
  rintro _ H2 ⟨rfl, B2, hm2, hS3⟩
  dsimp only at hS3
  exact Ev.ret ⟨rfl, B2, ⟨hm1.mo.trans hm2.mo⟩, hS3⟩
end
end Go.AM.F
namespace Go.AM.F
open Go Go.AM Go.Proofs
attribute [local irreducible] run bin un ld st box newV mkS fldA fld ixA ix slc slc3 build buildS cv cvS ap cpy lenV gOp pickV b2 aIf aChk evalK resume iterD Option.bind

theorem grow_eq (k : Nat) (a0 a1 : Value) (H : AH) : rn (k + 1) 88 [a0, a1] H = gGrow Tryz.prog BldT 5 [a0, a1] H := by kernel_rfl
theorem Grow_spec {H0 B0 B H : AH} {L : List (Nat × Blk)} {p n : Nat} {rest : List Value} {T : TypeId} (hT : T ∈ BldT) (hl : rest.length + 2 = szT Tryz.prog T) (hn0 : 0 < n) (hn : n ≤ 140737488355328) (hS : St H0 B0 B ((p, ⟨.pointer none :: .slice none 0 0 :: rest, T, .fix⟩) :: L) H) :
    Ev (fun k _ => rn k 88 [ptr p 0, i64 n] H) (fun r => r.1 = .tuple #[] ∧ ∃ b' B', MoC B B' ∧ BAcc 5 H0 B0 B' ((p, ⟨ptr p 0 :: sl b' 0 0 1 :: rest, T, .fix⟩) :: L) r.2 (sl b' 0 0 1) []) := by
  refine Ev.fn (fun k => grow_eq k _ _ H) ?_
  have hb := hS.get (.head _)
  obtain ⟨B', hm, hS'⟩ := hS.mkB [] 5 .buf
  have e : gGrow Tryz.prog BldT 5 [ptr p 0, i64 n] H = some (.tuple #[], put (mkB H [] 5 .buf) p ⟨.pointer none :: .slice none 0 0 :: rest, T, .fix⟩ (ptr p 0 :: sl H.length 0 0 1 :: rest)) := by
    show (blk H p).bind _ = _
    rw [hb]
    simp only [Option.bind_some]
    rw [if_pos ⟨⟨trivial, hT, by simpa using hl⟩, by omega, by omega⟩]
    rfl
  rw [e]
  exact Ev.ret ⟨rfl, H.length, B', ⟨hm⟩, .inr ⟨H.length, rfl, hS'.put (.tail _ (.head _))⟩⟩
theorem Len_spec {H0 B0 B H : AH} {L : List (Nat × Blk)} {p : Nat} {c0 v : Value} {rest : List Value} {T : TypeId} {ds : List Nat}
    (hA : BAcc 5 H0 B0 B ((p, ⟨c0 :: v :: rest, T, .fix⟩) :: L) H v ds) :
    Ev (fun k _ => rn k 89 [ptr p 0] H) (fun r => r = (i64 ds.length, H)) := by
  refine Ev.fn (fun k => f89_eq k _ H) ?_
  have hSt := hA.st
  have hcell := hA.cell
  have hlen := bacc_len (t := 63) hA
  repeat (first|refine zA ?_|refine zB fun _ _ _=>?_|refine zC fun _ _ _=>?_|refine zD fun _ _=>?_|refine zE ?_|refine zF ?_)
  refine Ev.prim hlen ?_
  exact Ev.ret rfl
section
variable {B B0 H0 H : AH} {L : List (Nat × Blk)}
theorem rep_u8 (n : Nat) : (List.replicate n (0 : UInt8)).map UInt8.toNat = List.replicate n 0 := by simp
theorem rep_loop {p n : Nat} (hn : n ≤ 1000000) : ∀ (m j : Nat) (B H : AH) (v : Value), n - j ≤ m → 1 ≤ j → j ≤ n → BAcc 5 H0 B0 B ((p, ⟨[ptr p 0, v], 92, .fix⟩) :: L) H v (List.replicate j 0) →
    Ev (fun k K => f78_L0 k (i64 n) (i64 n) (ptr p 0) K H) (fun o => ∃ B' H' v', o = (.exit 3, f78_X_L0 (ptr p 0), H') ∧ MoC B B' ∧ BAcc 5 H0 B0 B' ((p, ⟨[ptr p 0, v'], 92, .fix⟩) :: L) H' v' (List.replicate n 0)) := by
  have done : ∀ (B H : AH) (v : Value), BAcc 5 H0 B0 B ((p, ⟨[ptr p 0, v], 92, .fix⟩) :: L) H v (List.replicate n 0) →
      Ev (fun k K => f78_L0 k (i64 n) (i64 n) (ptr p 0) K H) (fun o => ∃ B' H' v', o = (.exit 3, f78_X_L0 (ptr p 0), H') ∧ MoC B B' ∧ BAcc 5 H0 B0 B' ((p, ⟨[ptr p 0, v'], 92, .fix⟩) :: L) H' v' (List.replicate n 0)) := by
    intro B H v hA
    refine Ev.succ (fun k K => f78_L0_succ k _ _ _ K H) ?_
    refine Ev.b2 (Len_spec hA) ?_
    rintro _ _ ⟨rfl, rfl⟩
    rw [List.length_replicate]
    repeat (first|refine zA ?_|refine zB fun _ _ _=>?_|refine zC fun _ _ _=>?_|refine zD fun _ _=>?_|refine zE ?_|refine zF ?_)
    rw [decide_eq_false (by omega)]
    repeat (first|refine zA ?_|refine zB fun _ _ _=>?_|refine zC fun _ _ _=>?_|refine zD fun _ _=>?_|refine zE ?_|refine zF ?_)
    exact Ev.ret ⟨B, H, v, rfl, ⟨Mo.refl B⟩, hA⟩
  intro m
  induction m with
  | zero =>
    intro j B H v hm hj hjn hA
    obtain rfl : j = n := by omega
    exact done B H v hA
  | succ m ih =>
    intro j B H v hm hj hjn hA
    by_cases hlt : j < n
    · refine Ev.succ (fun k K => f78_L0_succ k _ _ _ K H) ?_
      refine Ev.b2 (Len_spec hA) ?_
      rintro _ _ ⟨rfl, rfl⟩
      rw [List.length_replicate]
      repeat (first|refine zA ?_|refine zB fun _ _ _=>?_|refine zC fun _ _ _=>?_|refine zD fun _ _=>?_|refine zE ?_|refine zF ?_)
      rw [decide_eq_true hlt]
      repeat (first|refine zA ?_|refine zB fun _ _ _=>?_|refine zC fun _ _ _=>?_|refine zD fun _ _=>?_|refine zE ?_|refine zF ?_)
      refine Ev.b2 (Len_spec hA) ?_
      rintro _ _ ⟨rfl, rfl⟩
      rw [List.length_replicate]
      repeat (first|refine zA ?_|refine zB fun _ _ _=>?_|refine zC fun _ _ _=>?_|refine zD fun _ _=>?_|refine zE ?_|refine zF ?_)
      refine Ev.b2 (Len_spec hA) ?_
      rintro _ _ ⟨rfl, rfl⟩
      rw [List.length_replicate]
      refine Ev.prim (show fold1 minV [i64 (n - j), i64 j, i64 n] = some (i64 (min (min (n - j) j) n)) by
        show (minV (i64 (n - j)) (i64 j)).bind (fun a => fold1 minV [a, i64 n]) = _
        have h1 := min_i64 (a := n - j) (b := j)
        have h2 : fold1 minV [i64 (n - j), i64 j] = minV (i64 (n - j)) (i64 j) := by
          show (minV _ _).bind (fun a => some a) = _
          cases minV (i64 (n - j)) (i64 j) <;> simp
        rw [← h2, h1, Option.bind_some, min_i64]) ?_
      obtain ⟨c, hc⟩ : ∃ c, c = min (min (n - j) j) n := ⟨_, rfl⟩
      rw [← hc]
      refine Ev.b2 (String_same (by rw [List.length_replicate]; omega) (by intro h; have := congrArg List.length h; simp at this; omega) hA) ?_
      rintro _ _ ⟨rfl, rfl⟩
      rw [show (List.replicate j 0).map (fun n => UInt8.ofNat n) = List.replicate j 0 by simp]
      refine Ev.prim (slc_strT (l := List.replicate j 0) (i := c) (by rw [List.length_replicate]; omega)) ?_
      rw [List.take_replicate, Nat.min_eq_left (by omega)]
      refine Ev.b2 (WriteString_spec (l := List.replicate c 0) (rest := []) bldT_mem bld_sz (.inr rfl) (by rw [List.length_replicate, List.length_replicate]; omega) hA) ?_
      rintro _ H1 ⟨rfl, v1, B1, hm1, hA1⟩
      dsimp only at hA1
      rw [rep_u8, List.replicate_append_replicate] at hA1
      refine (ih (j + c) B1 H1 v1 (by omega) (by omega) (by omega) hA1).mono ?_
      rintro o ⟨B', H', v', h1, h2, h3⟩
      exact ⟨B', H', v', h1, ⟨hm1.mo.trans h2.mo⟩, h3⟩
    · obtain rfl : j = n := by omega
      exact done B H v hA
theorem andQ32 {t : TypeId} {a : Nat} : bin Tryz.prog .and t (u64 a) (.int .u64 4294967295) = some (u64 (a % 4294967296)) := by
  rw [show (4294967295 : Int) = ((4294967295 : Nat) : Int) from rfl, bin_and, BitVec.ofInt_natCast, BitVec.ofInt_natCast, BitVec.toNat_and, BitVec.toNat_ofNat, BitVec.toNat_ofNat]
  rw [show IntKind.u64.bits = 64 from rfl, show 4294967295 % 2 ^ 64 = 2 ^ 32 - 1 from rfl, Nat.and_two_pow_sub_one_eq_mod, wrapu64]
  congr 2
  omega
theorem Mul_spec {n : Nat} (hn : n ≤ 1000000) : Ev (fun k _ => rn k 86 [u64 1, u64 n] H) (fun r => r = (.tuple #[u64 0, u64 n], H)) := by
  refine Ev.fn (fun k => f86_eq k _ _ H) ?_
  have key : Ev (fun k _ => rn k 94 [u64 1, u64 n] H) (fun r => r = (.tuple #[u64 0, u64 n], H)) := by
    refine Ev.fn (fun k => f94_eq k _ _ H) ?_
    refine Ev.prim andQ32 ?_
    refine Ev.prim (shrN (a := 1) (b := 32) (by decide)) ?_
    refine Ev.prim andQ32 ?_
    refine Ev.prim (shrN (a := n) (b := 32) (by decide)) ?_
    rw [show 1 % 4294967296 = 1 from rfl, show 1 / 2 ^ 32 = 0 from rfl, Nat.mod_eq_of_lt (show n < 4294967296 by omega), show n / 2 ^ 32 = 0 by omega]
    refine Ev.prim (mulQ (by omega)) ?_
    refine Ev.prim (mulQ (by omega)) ?_
    rw [Nat.one_mul, Nat.zero_mul]
    refine Ev.prim (shrN (a := n) (b := 32) (by decide)) ?_
    rw [show n / 2 ^ 32 = 0 by omega]
    refine Ev.prim (addQ (by omega)) ?_
    refine Ev.prim andQ32 ?_
    refine Ev.prim (shrN (a := 0) (b := 32) (by decide)) ?_
    refine Ev.prim (mulQ (by omega)) ?_
    refine Ev.prim (addQ (by omega)) ?_
    refine Ev.prim (mulQ (by omega)) ?_
    refine Ev.prim (addQ (by omega)) ?_
    refine Ev.prim (shrN (b := 32) (by decide)) ?_
    refine Ev.prim (addQ (by omega)) ?_
    refine Ev.prim (mulQ (by omega)) ?_
    rw [Nat.one_mul]
    exact Ev.ret (by first | rfl | (rw [Nat.one_mul]))
  refine Ev.b2 key ?_
  rintro _ _ ⟨rfl, rfl⟩
  repeat (first|refine zA ?_|refine zB fun _ _ _=>?_|refine zC fun _ _ _=>?_|refine zD fun _ _=>?_|refine zE ?_|refine zF ?_)
  exact Ev.ret rfl
theorem Repeat_spec {n : Nat} (hn : n ≤ 8192) (hS : St H0 B0 B L H) :
    Ev (fun k _ => rn k 78 [str [0], i64 n] H) (fun r => r.1 = str (List.replicate n 0) ∧ ∃ B', MoC B B' ∧ St H0 B0 B' L r.2) := by
  refine Ev.fn (fun k => f78_eq k _ _ H) ?_
  repeat (first|refine zA ?_|refine zB fun _ _ _=>?_|refine zC fun _ _ _=>?_|refine zD fun _ _=>?_|refine zE ?_|refine zF ?_)
  by_cases h0 : n = 0
  · subst h0
    rw [decide_eq_true rfl]
    repeat (first|refine zA ?_|refine zB fun _ _ _=>?_|refine zC fun _ _ _=>?_|refine zD fun _ _=>?_|refine zE ?_|refine zF ?_)
    exact Ev.ret ⟨rfl, B, ⟨Mo.refl B⟩, hS⟩
  rw [decide_eq_false h0]
  repeat (first|refine zA ?_|refine zB fun _ _ _=>?_|refine zC fun _ _ _=>?_|refine zD fun _ _=>?_|refine zE ?_|refine zF ?_)
  by_cases h1 : n = 1
  · subst h1
    rw [decide_eq_true rfl]
    repeat (first|refine zA ?_|refine zB fun _ _ _=>?_|refine zC fun _ _ _=>?_|refine zD fun _ _=>?_|refine zE ?_|refine zF ?_)
    exact Ev.ret ⟨rfl, B, ⟨Mo.refl B⟩, hS⟩
  rw [decide_eq_false h1]
  repeat (first|refine zA ?_|refine zB fun _ _ _=>?_|refine zC fun _ _ _=>?_|refine zD fun _ _=>?_|refine zE ?_|refine zF ?_)
  rw [decide_eq_false (by omega)]
  repeat (first|refine zA ?_|refine zB fun _ _ _=>?_|refine zC fun _ _ _=>?_|refine zD fun _ _=>?_|refine zE ?_|refine zF ?_)
  refine Ev.eq (fun k _ => f78_J0_eq k _ _ H) ?_
  repeat (first|refine zA ?_|refine zB fun _ _ _=>?_|refine zC fun _ _ _=>?_|refine zD fun _ _=>?_|refine zE ?_|refine zF ?_)
  rw [show ([0] : List UInt8).length = 1 from rfl]
  repeat (first|refine zA ?_|refine zB fun _ _ _=>?_|refine zC fun _ _ _=>?_|refine zD fun _ _=>?_|refine zE ?_|refine zF ?_)
  refine Ev.b2 (Mul_spec (by omega)) ?_
  rintro _ _ ⟨rfl, rfl⟩
  repeat (first | (first|refine zA ?_|refine zB fun _ _ _=>?_|refine zC fun _ _ _=>?_|refine zD fun _ _=>?_|refine zE ?_|refine zF ?_) | rw [decide_eq_true (by omega)] | rw [decide_eq_false (by omega)])
  refine Ev.eq (fun k _ => f78_J1_eq k _ _ H) ?_
  repeat (first|refine zA ?_|refine zB fun _ _ _=>?_|refine zC fun _ _ _=>?_|refine zD fun _ _=>?_|refine zE ?_|refine zF ?_)
  rw [show ([0] : List UInt8).length = 1 from rfl]
  repeat (first | (first|refine zA ?_|refine zB fun _ _ _=>?_|refine zC fun _ _ _=>?_|refine zD fun _ _=>?_|refine zE ?_|refine zF ?_) | rw [decide_eq_true (by omega)] | rw [decide_eq_false (by omega)])
  refine Ev.prim (show ix Tryz.prog 9 (str [0]) (.int .i64 0) = some (u8 0) from ix_str (l := [0]) 0 rfl (by decide)) ?_
  repeat (first | (first|refine zA ?_|refine zB fun _ _ _=>?_|refine zC fun _ _ _=>?_|refine zD fun _ _=>?_|refine zE ?_|refine zF ?_) | rw [decide_eq_true (by omega)] | rw [decide_eq_false (by omega)])
  refine Ev.eq (fun k _ => f78_J2_eq k _ _ H) ?_
  repeat (first | (first|refine zA ?_|refine zB fun _ _ _=>?_|refine zC fun _ _ _=>?_|refine zD fun _ _=>?_|refine zE ?_|refine zF ?_) | rw [decide_eq_true (by omega)] | rw [decide_eq_false (by omega)])
  refine Ev.eq (fun k _ => f78_J3_eq k _ _ _ H) ?_
  refine Ev.newC fun p H1 hS1 => ?_
  clear hS
  refine Ev.b2 (Grow_spec (n := n) (rest := []) bldT_mem bld_sz (by omega) (by omega) hS1) ?_
  rintro _ H2 ⟨rfl, b2, B2, hm2, hA2⟩
  dsimp only at hA2
  refine Ev.b2 (WriteString_spec (l := [0]) (rest := []) bldT_mem bld_sz (.inr rfl) (by decide) hA2) ?_
  rintro _ H3 ⟨rfl, v3, B3, hm3, hA3⟩
  dsimp only at hA3
  refine Ev.bind (Ev.loop (rep_loop (by omega) n 1 B3 H3 v3 (by omega) (by omega) (by omega) hA3)) ?_
  rintro _ ⟨B4, H4, v4, rfl, hm4, hA4⟩
  refine Ev.eq (fun k _ => f78_A0_x3 k _ H4) ?_
  refine Ev.b2 (String_same (by rw [List.length_replicate]; omega) (by intro h; have := congrArg List.length h; simp at this; omega) hA4) ?_
  rintro _ _ ⟨rfl, rfl⟩
  refine Ev.ret ⟨?_, B4, ⟨hm2.mo.trans (hm3.mo.trans hm4.mo)⟩, hA4.st.drop1⟩
  dsimp only
  rw [show (List.replicate n 0).map (fun n => UInt8.ofNat n) = List.replicate n 0 by simp]
end
end Go.AM.F
namespace Go.AM.F
open Go Go.AM Go.Proofs
attribute [local irreducible] run bin un ld st box newV mkS fldA fld ixA ix slc slc3 build buildS cv cvS ap cpy lenV gOp pickV b2 aIf aChk evalK resume iterD Option.bind

section
variable {H : AH}
theorem right_loop : ∀ (m : Nat) (s : List UInt8), s.length = m → s.length < 9223372036854775808 →
    Ev (fun k n => f100_L0 k (str s) (u8 0) n H) (fun o => ∃ w : List UInt8, o = (.exit 0, f100_X_L0 (str w), H) ∧ w.length ≤ s.length ∧ ((∀ c ∈ s, c = 0) ↔ ∀ c ∈ w, c = 0)) := by
  intro m
  induction m with
  | zero =>
    intro s hs hl
    refine Ev.succ (fun k n => f100_L0_succ k _ _ n H) ?_
    repeat (first|refine zA ?_|refine zB fun _ _ _=>?_|refine zC fun _ _ _=>?_|refine zD fun _ _=>?_|refine zE ?_|refine zF ?_)
    rw [decide_eq_false (by omega)]
    repeat (first|refine zA ?_|refine zB fun _ _ _=>?_|refine zC fun _ _ _=>?_|refine zD fun _ _=>?_|refine zE ?_|refine zF ?_)
    exact Ev.ret ⟨s, rfl, Nat.le_refl _, Iff.rfl⟩
  | succ m ih =>
    intro s hs hl
    refine Ev.succ (fun k n => f100_L0_succ k _ _ n H) ?_
    repeat (first|refine zA ?_|refine zB fun _ _ _=>?_|refine zC fun _ _ _=>?_|refine zD fun _ _=>?_|refine zE ?_|refine zF ?_)
    rw [decide_eq_true (by omega)]
    repeat (first|refine zA ?_|refine zB fun _ _ _=>?_|refine zC fun _ _ _=>?_|refine zD fun _ _=>?_|refine zE ?_|refine zF ?_)
    refine Ev.gPrim (ix_str (s.length - 1) rfl (by omega)) rfl ?_
    repeat (first|refine zA ?_|refine zB fun _ _ _=>?_|refine zC fun _ _ _=>?_|refine zD fun _ _=>?_|refine zE ?_|refine zF ?_)
    by_cases h0 : (s.getD (s.length - 1) 0).toNat = 0
    · rw [decide_eq_true h0]
      repeat (first|refine zA ?_|refine zB fun _ _ _=>?_|refine zC fun _ _ _=>?_|refine zD fun _ _=>?_|refine zE ?_|refine zF ?_)
      refine Ev.prim (slc_strT (l := s) (i := s.length - 1) (by omega)) ?_
      refine (ih (s.take (s.length - 1)) (by rw [List.length_take]; omega) (by rw [List.length_take]; omega)).mono ?_
      rintro o ⟨w, h1, h2, h3⟩
      refine ⟨w, h1, by rw [List.length_take] at h2; omega, Iff.trans ?_ h3⟩
      have e : s = s.take (s.length - 1) ++ [s.getD (s.length - 1) 0] := by
        conv => lhs; rw [← List.take_append_drop (s.length - 1) s]
        rw [drop_getD (by omega), List.drop_of_length_le (by omega)]
      have h00 : s.getD (s.length - 1) 0 = 0 := UInt8.toNat_inj.1 h0
      rw [h00] at e
      constructor
      · intro h c hc
        exact h c (List.mem_of_mem_take hc)
      · intro h c hc
        rw [e] at hc
        rcases List.mem_append.1 hc with hc | hc
        · exact h c hc
        · simpa using hc
    · rw [decide_eq_false h0]
      repeat (first|refine zA ?_|refine zB fun _ _ _=>?_|refine zC fun _ _ _=>?_|refine zD fun _ _=>?_|refine zE ?_|refine zF ?_)
      exact Ev.ret ⟨s, rfl, Nat.le_refl _, Iff.rfl⟩
theorem left_loop : ∀ (m : Nat) (s : List UInt8), s.length = m → s.length < 9223372036854775808 →
    Ev (fun k n => f99_L0 k (str s) (u8 0) n H) (fun o => ∃ w : List UInt8, o = (.exit 0, f99_X_L0 (str w), H) ∧ ((∀ c ∈ s, c = 0) ↔ w = [])) := by
  intro m
  induction m with
  | zero =>
    intro s hs hl
    refine Ev.succ (fun k n => f99_L0_succ k _ _ n H) ?_
    repeat (first|refine zA ?_|refine zB fun _ _ _=>?_|refine zC fun _ _ _=>?_|refine zD fun _ _=>?_|refine zE ?_|refine zF ?_)
    rw [decide_eq_false (by omega)]
    repeat (first|refine zA ?_|refine zB fun _ _ _=>?_|refine zC fun _ _ _=>?_|refine zD fun _ _=>?_|refine zE ?_|refine zF ?_)
    obtain rfl := List.length_eq_zero_iff.1 hs
    exact Ev.ret ⟨[], rfl, by simp⟩
  | succ m ih =>
    intro s hs hl
    refine Ev.succ (fun k n => f99_L0_succ k _ _ n H) ?_
    repeat (first|refine zA ?_|refine zB fun _ _ _=>?_|refine zC fun _ _ _=>?_|refine zD fun _ _=>?_|refine zE ?_|refine zF ?_)
    rw [decide_eq_true (by omega)]
    repeat (first|refine zA ?_|refine zB fun _ _ _=>?_|refine zC fun _ _ _=>?_|refine zD fun _ _=>?_|refine zE ?_|refine zF ?_)
    match s, hs, hl with
    | c :: r, hs, hl =>
      refine Ev.gPrim (show ix Tryz.prog 9 (str (c :: r)) (.int .i64 0) = some (u8 c.toNat) from ix_str (l := c :: r) 0 rfl (by simp)) rfl ?_
      repeat (first|refine zA ?_|refine zB fun _ _ _=>?_|refine zC fun _ _ _=>?_|refine zD fun _ _=>?_|refine zE ?_|refine zF ?_)
      by_cases h0 : c.toNat = 0
      · rw [decide_eq_true h0]
        repeat (first|refine zA ?_|refine zB fun _ _ _=>?_|refine zC fun _ _ _=>?_|refine zD fun _ _=>?_|refine zE ?_|refine zF ?_)
        refine Ev.prim (show slc Tryz.prog 9 (str (c :: r)) (some (.int .i64 1)) none = some (str r) from slc_str (l := c :: r) 1 rfl (by simp)) ?_
        simp only [List.length_cons] at hs hl
        refine (ih r (by omega) (by omega)).mono ?_
        rintro o ⟨w, h1, h3⟩
        refine ⟨w, h1, Iff.trans ?_ h3⟩
        have h00 : c = 0 := UInt8.toNat_inj.1 h0
        subst h00
        simp
      · rw [decide_eq_false h0]
        repeat (first|refine zA ?_|refine zB fun _ _ _=>?_|refine zC fun _ _ _=>?_|refine zD fun _ _=>?_|refine zE ?_|refine zF ?_)
        refine Ev.ret ⟨c :: r, rfl, ?_⟩
        constructor
        · intro h
          exact absurd (by rw [h c (.head _)]; rfl) h0
        · intro h; cases h
theorem Trim_spec {s : List UInt8} (hl : s.length < 9223372036854775808) : Ev (fun k _ => rn k 97 [str s, str [0]] H) (fun r => ∃ w, r = (str w, H) ∧ ((∀ c ∈ s, c = 0) ↔ w = [])) := by
  refine Ev.fn (fun k => f97_eq k _ _ H) ?_
  by_cases hs : s = []
  · subst hs
    refine Ev.prim (show bin Tryz.prog .eql 9 (str []) (.string ⟨#[]⟩) = some (.bool true) from eql_str.trans (by simp)) ?_
    repeat (first|refine zA ?_|refine zB fun _ _ _=>?_|refine zC fun _ _ _=>?_|refine zD fun _ _=>?_|refine zE ?_|refine zF ?_)
    exact Ev.ret ⟨[], rfl, by simp⟩
  · refine Ev.prim (show bin Tryz.prog .eql 9 (str s) (.string ⟨#[]⟩) = some (.bool false) from (eql_str (b := [])).trans (by simp [hs])) ?_
    repeat (first|refine zA ?_|refine zB fun _ _ _=>?_|refine zC fun _ _ _=>?_|refine zD fun _ _=>?_|refine zE ?_|refine zF ?_)
    rw [decide_eq_false (by simp)]
    repeat (first | (first|refine zA ?_|refine zB fun _ _ _=>?_|refine zC fun _ _ _=>?_|refine zD fun _ _=>?_|refine zE ?_|refine zF ?_) | rw [decide_eq_true (by omega)] | rw [decide_eq_false (by omega)])
    refine Ev.gPrim (show ix Tryz.prog 9 (str [0]) (.int .i64 0) = some (u8 0) from ix_str (l := [0]) 0 rfl (by decide)) rfl ?_
    repeat (first | (first|refine zA ?_|refine zB fun _ _ _=>?_|refine zC fun _ _ _=>?_|refine zD fun _ _=>?_|refine zE ?_|refine zF ?_) | rw [decide_eq_true (by omega)] | rw [decide_eq_false (by omega)])
    refine Ev.prim (show ix Tryz.prog 9 (str [0]) (.int .i64 0) = some (u8 0) from ix_str (l := [0]) 0 rfl (by decide)) ?_
    have h1 : Ev (fun k _ => rn k 100 [str s, u8 0] H) (fun r => ∃ w : List UInt8, r = (str w, H) ∧ w.length ≤ s.length ∧ ((∀ c ∈ s, c = 0) ↔ ∀ c ∈ w, c = 0)) := by
      refine Ev.fn (fun k => f100_eq k _ _ H) ?_
      refine Ev.bind (Ev.loop (right_loop _ s rfl hl)) ?_
      rintro _ ⟨w, rfl, h⟩
      refine Ev.eq (fun k _ => f100_A0_x0 k _ H) ?_
      exact Ev.ret ⟨w, rfl, h⟩
    refine Ev.b2 h1 ?_
    rintro _ _ ⟨w, ⟨rfl, rfl⟩, h2, h3⟩
    refine Ev.prim (show ix Tryz.prog 9 (str [0]) (.int .i64 0) = some (u8 0) from ix_str (l := [0]) 0 rfl (by decide)) ?_
    have h4 : Ev (fun k _ => rn k 99 [str w, u8 0] H) (fun r => ∃ w2 : List UInt8, r = (str w2, H) ∧ ((∀ c ∈ w, c = 0) ↔ w2 = [])) := by
      refine Ev.fn (fun k => f99_eq k _ _ H) ?_
      refine Ev.bind (Ev.loop (left_loop _ w rfl (by omega))) ?_
      rintro _ ⟨w2, rfl, h⟩
      refine Ev.eq (fun k _ => f99_A0_x0 k _ H) ?_
      exact Ev.ret ⟨w2, rfl, h⟩
    refine Ev.b2 h4 ?_
    rintro _ _ ⟨w2, ⟨rfl, rfl⟩, h5⟩
    exact Ev.ret ⟨w2, rfl, h3.trans h5⟩
theorem HasPrefix_spec {s p : List UInt8} (hl : s.length < 9223372036854775808) (hp : p.length ≤ s.length) : Ev (fun k _ => rn k 87 [str s, str p] H) (fun r => r = (.bool (decide (s.take p.length = p)), H)) := by
  refine Ev.fn (fun k => f87_eq k _ _ H) ?_
  have key : Ev (fun k _ => rn k 95 [str s, str p] H) (fun r => r = (.bool (decide (s.take p.length = p)), H)) := by
    refine Ev.fn (fun k => f95_eq k _ _ H) ?_
    repeat (first|refine zA ?_|refine zB fun _ _ _=>?_|refine zC fun _ _ _=>?_|refine zD fun _ _=>?_|refine zE ?_|refine zF ?_)
    rw [decide_eq_true (by omega)]
    repeat (first|refine zA ?_|refine zB fun _ _ _=>?_|refine zC fun _ _ _=>?_|refine zD fun _ _=>?_|refine zE ?_|refine zF ?_)
    refine Ev.gPrim (slc_strT (l := s) (i := p.length) (by omega)) rfl ?_
    repeat (first|refine zA ?_|refine zB fun _ _ _=>?_|refine zC fun _ _ _=>?_|refine zD fun _ _=>?_|refine zE ?_|refine zF ?_)
    exact Ev.ret rfl
  refine Ev.b2 key ?_
  rintro _ _ ⟨rfl, rfl⟩
  exact Ev.ret rfl
end
end Go.AM.F
namespace Go.AM.F
open Go Go.AM Go.Proofs
attribute [local irreducible] run bin un ld st box newV mkS fldA fld ixA ix slc slc3 build buildS cv cvS ap cpy lenV gOp pickV b2 aIf aChk evalK resume iterD Option.bind

section
variable {B B0 H0 H : AH} {L : List (Nat × Blk)}
def SealV (p : List UInt8 × Int) : Value := .tuple #[str p.1, .int .i64 p.2]
theorem le4_len (n : Nat) : (le4 n).length = 4 := rfl
theorem byts_two (a b : Nat) : [u8 (a % 256), u8 (b % 256)] = byts [UInt8.ofNat a, UInt8.ofNat b] := by
  show _ = [Value.int .u8 ((UInt8.ofNat a).toNat : Int), Value.int .u8 ((UInt8.ofNat b).toNat : Int)]
  rw [UInt8.toNat_ofNat', UInt8.toNat_ofNat']
theorem byts_four (n : Nat) : [u8 (n % 256), u8 (n / 2 ^ 8 % 256), u8 (n / 2 ^ 16 % 256), u8 (n / 2 ^ 24 % 256)] = byts (le4 n) := by
  show _ = [Value.int .u8 ((UInt8.ofNat n).toNat : Int), Value.int .u8 ((UInt8.ofNat (n / 256)).toNat : Int), Value.int .u8 ((UInt8.ofNat (n / 65536)).toNat : Int), Value.int .u8 ((UInt8.ofNat (n / 16777216)).toNat : Int)]
  rw [UInt8.toNat_ofNat', UInt8.toNat_ofNat', UInt8.toNat_ofNat', UInt8.toNat_ofNat']
theorem Seal_spec {kind : Int} {t : List UInt8} (ht : t.length < 9223372036854775808) (hk : -9223372036854775808 ≤ kind ∧ kind < 9223372036854775808) (hS : St H0 B0 B L H) :
    Ev (fun k _ => rn k 62 [.int .i64 kind, str t] H) (fun r => r.1 = SealV (sealR kind t) ∧ ∃ B', MoC B B' ∧ St H0 B0 B' L r.2) := by
  refine Ev.fn (fun k => f62_eq k _ _ H) ?_
  unfold sealR
  by_cases h1 : kind < 1
  · rw [if_pos (.inl h1)]
    repeat (first | (first|refine zA ?_|refine zB fun _ _ _=>?_|refine zC fun _ _ _=>?_|refine zD fun _ _=>?_|refine zE ?_|refine zF ?_) | rw [decide_eq_true (by omega)] | rw [decide_eq_false (by omega)])
    exact Ev.ret ⟨rfl, B, ⟨Mo.refl B⟩, hS⟩
  by_cases h2 : kind > 9
  · rw [if_pos (.inr (.inl h2))]
    repeat (first | (first|refine zA ?_|refine zB fun _ _ _=>?_|refine zC fun _ _ _=>?_|refine zD fun _ _=>?_|refine zE ?_|refine zF ?_) | rw [decide_eq_true (by omega)] | rw [decide_eq_false (by omega)])
    exact Ev.ret ⟨rfl, B, ⟨Mo.refl B⟩, hS⟩
  by_cases h3 : t.length > 120
  · rw [if_pos (.inr (.inr h3))]
    repeat (first | (first|refine zA ?_|refine zB fun _ _ _=>?_|refine zC fun _ _ _=>?_|refine zD fun _ _=>?_|refine zE ?_|refine zF ?_) | rw [decide_eq_true (by omega)] | rw [decide_eq_false (by omega)])
    exact Ev.ret ⟨rfl, B, ⟨Mo.refl B⟩, hS⟩
  rw [if_neg (by omega)]
  obtain ⟨n, rfl⟩ : ∃ n : Nat, kind = n := ⟨kind.toNat, by omega⟩
  rw [Int.toNat_natCast]
  repeat (first | (first|refine zA ?_|refine zB fun _ _ _=>?_|refine zC fun _ _ _=>?_|refine zD fun _ _=>?_|refine zE ?_|refine zF ?_) | rw [decide_eq_true (by omega)] | rw [decide_eq_false (by omega)])
  rw [Nat.mod_eq_of_lt (show n < 4294967296 by omega), Nat.mod_eq_of_lt (show t.length < 4294967296 by omega)]
  refine Ev.bsC (P := Tryz.prog) (t := 143) (hS := hS) (by decide) fun b H1 hS1 => ?_
  obtain ⟨B1, hm1, hF, hS2⟩ := St.flz (l := [n, t.length]) (f := u32) (cap := 2) hS1 (Nat.le_refl _)
  clear hS hS1
  refine Ev.b2 (bytes_spec hF (by simp) (by simp) hS2) ?_
  rintro _ H2 ⟨rfl, B2, hm2, hS3⟩
  dsimp only at hS3
  clear hS2
  refine Ev.prim (add_str (a := [65, 83]) (b := [n, t.length].map UInt8.ofNat) (by simp)) ?_
  refine Ev.prim (add_str (a := [65, 83] ++ [n, t.length].map UInt8.ofNat) (b := t) (by simp; omega)) ?_
  obtain ⟨hd, hhd⟩ : ∃ hd : List UInt8, hd = [65, 83] ++ [n, t.length].map UInt8.ofNat ++ t := ⟨_, rfl⟩
  have hdl : hd.length = 4 + t.length := by rw [hhd, List.length_append]; rfl
  rw [← hhd]
  repeat (first|refine zA ?_|refine zB fun _ _ _=>?_|refine zC fun _ _ _=>?_|refine zD fun _ _=>?_|refine zE ?_|refine zF ?_)
  rw [hdl]
  rw [show 124 - (4 + t.length) = 120 - t.length by omega]
  refine Ev.b2 (Repeat_spec (n := 120 - t.length) (by omega) hS3) ?_
  rintro _ H3 ⟨rfl, B3, hm3, hS4⟩
  dsimp only at hS4
  clear hS3
  refine Ev.prim (add_str (a := hd) (b := List.replicate (120 - t.length) 0) (by rw [List.length_replicate]; omega)) ?_
  have hb : hd ++ List.replicate (120 - t.length) 0 = bodyL n t := by rw [hhd]; rfl
  have hbl := body_len (k := n) (t := t) (by omega)
  rw [hb]
  refine Ev.b2 (psum_spec (by rw [hbl]; decide) hS4) ?_
  rintro _ H4 ⟨rfl, B4, hm4, hS5⟩
  dsimp only at hS5
  refine Ev.prim (add_str (a := bodyL n t) (b := le4 (crc (bodyL n t))) (by rw [hbl, le4_len]; decide)) ?_
  exact Ev.ret ⟨rfl, B4, ⟨hm1.mo.trans (hm2.mo.trans (hm3.mo.trans hm4.mo))⟩, hS5⟩
def OpenV (p : Int × List UInt8 × Int) : Value := .tuple #[.int .i64 p.1, str p.2.1, .int .i64 p.2.2]
theorem Open_spec {b : List UInt8} (hl : b.length < 9223372036854775808) (hS : St H0 B0 B L H) :
    Ev (fun k _ => rn k 91 [str b] H) (fun r => r.1 = OpenV (openR b) ∧ ∃ B', MoC B B' ∧ St H0 B0 B' L r.2) := by
  refine Ev.fn (fun k => f91_eq k _ H) ?_
  unfold openR
  repeat (first|refine zA ?_|refine zB fun _ _ _=>?_|refine zC fun _ _ _=>?_|refine zD fun _ _=>?_|refine zE ?_|refine zF ?_)
  by_cases h1 : b.length = 128
  case neg =>
    rw [if_pos h1, decide_eq_true h1]
    repeat (first|refine zA ?_|refine zB fun _ _ _=>?_|refine zC fun _ _ _=>?_|refine zD fun _ _=>?_|refine zE ?_|refine zF ?_)
    exact Ev.ret ⟨rfl, B, ⟨Mo.refl B⟩, hS⟩
  rw [if_neg (by omega), decide_eq_false (by omega)]
  repeat (first|refine zA ?_|refine zB fun _ _ _=>?_|refine zC fun _ _ _=>?_|refine zD fun _ _=>?_|refine zE ?_|refine zF ?_)
  refine Ev.prim (show slc Tryz.prog 9 (str b) none (some (.int .i64 124)) = some (str (b.take 124)) from slc_strT (l := b) (i := 124) (by omega)) ?_
  refine Ev.prim (show ix Tryz.prog 9 (str b) (.int .i64 3) = some (u8 (b.getD 3 0).toNat) from ix_str 3 rfl (by omega)) ?_
  have hn3 := u8_lt (b.getD 3 0)
  have hn2 := u8_lt (b.getD 2 0)
  repeat (first|refine zA ?_|refine zB fun _ _ _=>?_|refine zC fun _ _ _=>?_|refine zD fun _ _=>?_|refine zE ?_|refine zF ?_)
  refine Ev.b2 (psum_spec (by rw [List.length_take]; omega) hS) ?_
  rintro _ H1 ⟨rfl, B1, hm1, hS1⟩
  dsimp only at hS1
  clear hS
  refine Ev.prim (show slc Tryz.prog 9 (str b) (some (.int .i64 124)) none = some (str (b.drop 124)) from slc_str (l := b) 124 rfl (by omega)) ?_
  repeat (first|refine zA ?_|refine zB fun _ _ _=>?_|refine zC fun _ _ _=>?_|refine zD fun _ _=>?_|refine zE ?_|refine zF ?_)
  by_cases h2 : le4 (crc (b.take 124)) = b.drop 124
  case neg =>
    rw [if_pos h2, decide_eq_true h2]
    repeat (first|refine zA ?_|refine zB fun _ _ _=>?_|refine zC fun _ _ _=>?_|refine zD fun _ _=>?_|refine zE ?_|refine zF ?_)
    exact Ev.ret ⟨rfl, B1, hm1, hS1⟩
  rw [if_neg (by simpa using h2), decide_eq_false (by simpa using h2)]
  repeat (first|refine zA ?_|refine zB fun _ _ _=>?_|refine zC fun _ _ _=>?_|refine zD fun _ _=>?_|refine zE ?_|refine zF ?_)
  refine Ev.b2 (HasPrefix_spec (s := b) (p := [65, 83]) (by omega) (by rw [h1]; decide)) ?_
  rintro _ _ ⟨rfl, rfl⟩
  rw [show ([65, 83] : List UInt8).length = 2 from rfl]
  have bad : ¬ Body b → Ev (fun _ _ => some (Value.tuple #[.int .i64 0, .string ⟨#[]⟩, .int .i64 2], H1)) (fun r => r.1 = OpenV (if Body b then (((b.getD 2 0).toNat : Int), (b.drop 4).take (b.getD 3 0).toNat, 0) else (0, [], 2)) ∧ ∃ B', MoC B B' ∧ St H0 B0 B' L r.2) := by
    intro h
    rw [if_neg h]
    exact Ev.ret ⟨rfl, B1, hm1, hS1⟩
  by_cases h3 : b.take 2 = [65, 83]
  case neg =>
    rw [decide_eq_false h3]
    repeat (first|refine zA ?_|refine zB fun _ _ _=>?_|refine zC fun _ _ _=>?_|refine zD fun _ _=>?_|refine zE ?_|refine zF ?_)
    exact bad fun h => h3 h.1
  rw [decide_eq_true h3]
  repeat (first|refine zA ?_|refine zB fun _ _ _=>?_|refine zC fun _ _ _=>?_|refine zD fun _ _=>?_|refine zE ?_|refine zF ?_)
  refine Ev.gPrim (show ix Tryz.prog 9 (str b) (.int .i64 2) = some (u8 (b.getD 2 0).toNat) from ix_str 2 rfl (by omega)) rfl ?_
  repeat (first|refine zA ?_|refine zB fun _ _ _=>?_|refine zC fun _ _ _=>?_|refine zD fun _ _=>?_|refine zE ?_|refine zF ?_)
  by_cases h4 : 1 ≤ (b.getD 2 0).toNat
  case neg =>
    repeat (first | (first|refine zA ?_|refine zB fun _ _ _=>?_|refine zC fun _ _ _=>?_|refine zD fun _ _=>?_|refine zE ?_|refine zF ?_) | rw [decide_eq_true (by omega)] | rw [decide_eq_false (by omega)])
    exact bad fun h => h4 h.2.1
  rw [decide_eq_false (by omega)]
  repeat (first|refine zA ?_|refine zB fun _ _ _=>?_|refine zC fun _ _ _=>?_|refine zD fun _ _=>?_|refine zE ?_|refine zF ?_)
  refine Ev.gPrim (show ix Tryz.prog 9 (str b) (.int .i64 2) = some (u8 (b.getD 2 0).toNat) from ix_str 2 rfl (by omega)) rfl ?_
  repeat (first|refine zA ?_|refine zB fun _ _ _=>?_|refine zC fun _ _ _=>?_|refine zD fun _ _=>?_|refine zE ?_|refine zF ?_)
  by_cases h5 : (b.getD 2 0).toNat ≤ 9
  case neg =>
    repeat (first | (first|refine zA ?_|refine zB fun _ _ _=>?_|refine zC fun _ _ _=>?_|refine zD fun _ _=>?_|refine zE ?_|refine zF ?_) | rw [decide_eq_true (by omega)] | rw [decide_eq_false (by omega)])
    exact bad fun h => h5 h.2.2.1
  rw [decide_eq_false (by omega)]
  repeat (first|refine zA ?_|refine zB fun _ _ _=>?_|refine zC fun _ _ _=>?_|refine zD fun _ _=>?_|refine zE ?_|refine zF ?_)
  by_cases h6 : (b.getD 3 0).toNat ≤ 120
  case neg =>
    repeat (first | (first|refine zA ?_|refine zB fun _ _ _=>?_|refine zC fun _ _ _=>?_|refine zD fun _ _=>?_|refine zE ?_|refine zF ?_) | rw [decide_eq_true (by omega)] | rw [decide_eq_false (by omega)])
    exact bad fun h => h6 h.2.2.2.1
  repeat (first | (first|refine zA ?_|refine zB fun _ _ _=>?_|refine zC fun _ _ _=>?_|refine zD fun _ _=>?_|refine zE ?_|refine zF ?_) | rw [decide_eq_true (by omega)] | rw [decide_eq_false (by omega)])
  generalize hn : (b.getD 3 0).toNat = n at *
  refine Ev.gPrim (slc_str (l := b.take 124) (4 + n) rfl (by rw [List.length_take]; omega)) rfl ?_
  repeat (first | (first|refine zA ?_|refine zB fun _ _ _=>?_|refine zC fun _ _ _=>?_|refine zD fun _ _=>?_|refine zE ?_|refine zF ?_) | rw [decide_eq_true (by omega)] | rw [decide_eq_false (by omega)])
  refine Ev.b2 (Trim_spec (s := (b.take 124).drop (4 + n)) (by rw [List.length_drop, List.length_take]; omega)) ?_
  rintro _ _ ⟨w, ⟨rfl, rfl⟩, hw⟩
  repeat (first|refine zA ?_|refine zB fun _ _ _=>?_|refine zC fun _ _ _=>?_|refine zD fun _ _=>?_|refine zE ?_|refine zF ?_)
  by_cases h7 : w = []
  case neg =>
    rw [decide_eq_true h7]
    repeat (first | (first|refine zA ?_|refine zB fun _ _ _=>?_|refine zC fun _ _ _=>?_|refine zD fun _ _=>?_|refine zE ?_|refine zF ?_) | rw [decide_eq_true (by omega)] | rw [decide_eq_false (by omega)])
    exact bad fun h => h7 (hw.1 (by have := h.2.2.2.2; rwa [hn] at this))
  rw [decide_eq_false (by simpa using h7)]
  have hB : Body b := ⟨h3, h4, h5, by rw [hn]; exact h6, by rw [hn]; exact hw.2 h7⟩
  repeat (first|refine zA ?_|refine zB fun _ _ _=>?_|refine zC fun _ _ _=>?_|refine zD fun _ _=>?_|refine zE ?_|refine zF ?_)
  refine Ev.prim (show ix Tryz.prog 9 (str b) (.int .i64 2) = some (u8 (b.getD 2 0).toNat) from ix_str 2 rfl (by omega)) ?_
  repeat (first|refine zA ?_|refine zB fun _ _ _=>?_|refine zC fun _ _ _=>?_|refine zD fun _ _=>?_|refine zE ?_|refine zF ?_)
  refine Ev.prim (slc_str2 (l := b.take 124) 4 (4 + n) rfl rfl (by omega) (by rw [List.length_take]; omega)) ?_
  rw [if_pos hB]
  refine Ev.ret ⟨?_, B1, hm1, hS1⟩
  show Value.tuple #[_, str _, _] = OpenV _
  rw [List.drop_take, List.take_take, show min (4 + n - 4) (124 - 4) = n by omega]
  rfl
theorem rSeal_spec {kind : Int} {t : List UInt8} (ht : t.length < 9223372036854775808) (hk : -9223372036854775808 ≤ kind ∧ kind < 9223372036854775808) (hS : St H0 B0 B L H) :
    Ev (fun k _ => rn k 64 [.int .i64 kind, str t] H) (fun r => r.1 = .tuple #[str (sealR kind t).1, .bool (decide ((sealR kind t).2 = 0))] ∧ ∃ B', MoC B B' ∧ St H0 B0 B' L r.2) := by
  refine Ev.fn (fun k => f64_eq k _ _ H) ?_
  unfold sealR
  by_cases h1 : kind < 1
  · rw [if_pos (.inl h1)]
    repeat (first | (first|refine zA ?_|refine zB fun _ _ _=>?_|refine zC fun _ _ _=>?_|refine zD fun _ _=>?_|refine zE ?_|refine zF ?_) | rw [decide_eq_true (by omega)] | rw [decide_eq_false (by omega)])
    exact Ev.ret ⟨rfl, B, ⟨Mo.refl B⟩, hS⟩
  by_cases h2 : kind > 9
  · rw [if_pos (.inr (.inl h2))]
    repeat (first | (first|refine zA ?_|refine zB fun _ _ _=>?_|refine zC fun _ _ _=>?_|refine zD fun _ _=>?_|refine zE ?_|refine zF ?_) | rw [decide_eq_true (by omega)] | rw [decide_eq_false (by omega)])
    exact Ev.ret ⟨rfl, B, ⟨Mo.refl B⟩, hS⟩
  by_cases h3 : t.length > 120
  · rw [if_pos (.inr (.inr h3))]
    repeat (first | (first|refine zA ?_|refine zB fun _ _ _=>?_|refine zC fun _ _ _=>?_|refine zD fun _ _=>?_|refine zE ?_|refine zF ?_) | rw [decide_eq_true (by omega)] | rw [decide_eq_false (by omega)])
    exact Ev.ret ⟨rfl, B, ⟨Mo.refl B⟩, hS⟩
  rw [if_neg (by omega)]
  obtain ⟨n, rfl⟩ : ∃ n : Nat, kind = n := ⟨kind.toNat, by omega⟩
  rw [Int.toNat_natCast]
  repeat (first | (first|refine zA ?_|refine zB fun _ _ _=>?_|refine zC fun _ _ _=>?_|refine zD fun _ _=>?_|refine zE ?_|refine zF ?_) | rw [decide_eq_true (by omega)] | rw [decide_eq_false (by omega)])
  refine Ev.bsC (P := Tryz.prog) (t := 63) (hS := hS) (by decide) fun b H1 hS1 => ?_
  rw [byts_two] at hS1
  refine Ev.prim (cvS_part (d := 9) (bs := [UInt8.ofNat n, UInt8.ofNat t.length]) hS1 (.head _) (Nat.le_refl _) (by simp)) ?_
  rw [List.drop_zero, List.take_of_length_le (by simp)]
  have hS2 := hS1.drop1
  clear hS hS1
  refine Ev.prim (add_str (a := [65, 83]) (b := [UInt8.ofNat n, UInt8.ofNat t.length]) (by simp)) ?_
  refine Ev.prim (add_str (a := [65, 83] ++ [UInt8.ofNat n, UInt8.ofNat t.length]) (b := t) (by simp; omega)) ?_
  obtain ⟨hd, hhd⟩ : ∃ hd : List UInt8, hd = [65, 83] ++ [UInt8.ofNat n, UInt8.ofNat t.length] ++ t := ⟨_, rfl⟩
  have hdl : hd.length = 4 + t.length := by rw [hhd, List.length_append]; rfl
  rw [← hhd]
  repeat (first|refine zA ?_|refine zB fun _ _ _=>?_|refine zC fun _ _ _=>?_|refine zD fun _ _=>?_|refine zE ?_|refine zF ?_)
  rw [hdl]
  repeat (first|refine zA ?_|refine zB fun _ _ _=>?_|refine zC fun _ _ _=>?_|refine zD fun _ _=>?_|refine zE ?_|refine zF ?_)
  rw [show 124 - (4 + t.length) = 120 - t.length by omega]
  have hE : Elt Tryz.prog 63 5 (.int .u8 0) 1 := inferInstance
  refine Ev.mkS (m := 120 - t.length) hE hS2 (by omega) (by omega) fun b2 B3 H3 hm3 hS3 => ?_
  refine Ev.prim (cvS_part (d := 9) (bs := List.replicate (120 - t.length) 0) (by rw [byts_rep]; exact hS3) (.head _) (Nat.le_refl _) (by rw [List.length_replicate]; omega)) ?_
  rw [List.drop_zero, List.take_of_length_le (by rw [List.length_replicate]; exact Nat.le_refl _)]
  refine Ev.prim (add_str (a := hd) (b := List.replicate (120 - t.length) 0) (by rw [List.length_replicate]; omega)) ?_
  have hb : hd ++ List.replicate (120 - t.length) 0 = bodyL n t := by rw [hhd]; rfl
  have hbl := body_len (k := n) (t := t) (by omega)
  rw [hb]
  refine Ev.b2 (rSum_spec (by rw [hbl]; decide)) ?_
  rintro _ _ ⟨rfl, rfl⟩
  have hS4 := hS3.drop1
  clear hS3 hS2
  have fin : Ev (fun k n_1 => (cv Tryz.prog 135 5 (u32 (crc (bodyL n t)))).bind fun v22 => some (v22, v22)) (fun _ => True) := by
    repeat (first|refine zA ?_|refine zB fun _ _ _=>?_|refine zC fun _ _ _=>?_|refine zD fun _ _=>?_|refine zE ?_|refine zF ?_)
    exact Ev.ret trivial
  obtain ⟨c, hc⟩ : ∃ c, c = crc (bodyL n t) := ⟨_, rfl⟩
  rw [← hc]
  repeat (first|refine zA ?_|refine zB fun _ _ _=>?_|refine zC fun _ _ _=>?_|refine zD fun _ _=>?_|refine zE ?_|refine zF ?_)
  refine Ev.prim (shrN (a := c) (b := 8) (by decide)) ?_
  repeat (first|refine zA ?_|refine zB fun _ _ _=>?_|refine zC fun _ _ _=>?_|refine zD fun _ _=>?_|refine zE ?_|refine zF ?_)
  refine Ev.prim (shrN (a := c) (b := 16) (by decide)) ?_
  repeat (first|refine zA ?_|refine zB fun _ _ _=>?_|refine zC fun _ _ _=>?_|refine zD fun _ _=>?_|refine zE ?_|refine zF ?_)
  refine Ev.prim (shrN (a := c) (b := 24) (by decide)) ?_
  repeat (first|refine zA ?_|refine zB fun _ _ _=>?_|refine zC fun _ _ _=>?_|refine zD fun _ _=>?_|refine zE ?_|refine zF ?_)
  refine Ev.bsC (P := Tryz.prog) (t := 63) (hS := hS4) (by decide) fun b3 H5 hS5 => ?_
  rw [byts_four] at hS5
  refine Ev.prim (cvS_part (d := 9) (bs := le4 c) hS5 (.head _) (Nat.le_refl _) (by rw [le4_len]; decide)) ?_
  rw [List.drop_zero, List.take_of_length_le (by rw [le4_len]; decide)]
  refine Ev.prim (add_str (a := bodyL n t) (b := le4 c) (by rw [hbl, le4_len]; decide)) ?_
  refine Ev.ret ⟨?_, B3, ⟨hm3⟩, hS5.drop1⟩
  rw [hc]
  rfl
theorem rOpen_spec {b : List UInt8} (hl : b.length < 9223372036854775808) (hS : St H0 B0 B L H) :
    Ev (fun k _ => rn k 92 [str b] H) (fun r => r.1 = OpenV (openR b) ∧ ∃ B', MoC B B' ∧ St H0 B0 B' L r.2) := by
  refine Ev.fn (fun k => f92_eq k _ H) ?_
  repeat (first|refine zA ?_|refine zB fun _ _ _=>?_|refine zC fun _ _ _=>?_|refine zD fun _ _=>?_|refine zE ?_|refine zF ?_)
  by_cases h1 : b.length = 128
  case neg =>
    unfold openR
    rw [if_pos h1, decide_eq_true h1]
    repeat (first|refine zA ?_|refine zB fun _ _ _=>?_|refine zC fun _ _ _=>?_|refine zD fun _ _=>?_|refine zE ?_|refine zF ?_)
    exact Ev.ret ⟨rfl, B, ⟨Mo.refl B⟩, hS⟩
  rw [decide_eq_false (by omega)]
  repeat (first|refine zA ?_|refine zB fun _ _ _=>?_|refine zC fun _ _ _=>?_|refine zD fun _ _=>?_|refine zE ?_|refine zF ?_)
  have hn3 := u8_lt (b.getD 3 0)
  have hn2 := u8_lt (b.getD 2 0)
  refine Ev.prim (show slc Tryz.prog 9 (str b) none (some (.int .i64 124)) = some (str (b.take 124)) from slc_strT (l := b) (i := 124) (by omega)) ?_
  refine Ev.b2 (rSum_spec (by rw [List.length_take]; omega)) ?_
  rintro _ _ ⟨rfl, rfl⟩
  refine Ev.prim (show slc Tryz.prog 9 (str b) (some (.int .i64 124)) none = some (str (b.drop 124)) from slc_str (l := b) 124 rfl (by omega)) ?_
  obtain ⟨c, hc⟩ : ∃ c, c = crc (b.take 124) := ⟨_, rfl⟩
  rw [← hc]
  repeat (first|refine zA ?_|refine zB fun _ _ _=>?_|refine zC fun _ _ _=>?_|refine zD fun _ _=>?_|refine zE ?_|refine zF ?_)
  refine Ev.prim (shrN (a := c) (b := 8) (by decide)) ?_
  repeat (first|refine zA ?_|refine zB fun _ _ _=>?_|refine zC fun _ _ _=>?_|refine zD fun _ _=>?_|refine zE ?_|refine zF ?_)
  refine Ev.prim (shrN (a := c) (b := 16) (by decide)) ?_
  repeat (first|refine zA ?_|refine zB fun _ _ _=>?_|refine zC fun _ _ _=>?_|refine zD fun _ _=>?_|refine zE ?_|refine zF ?_)
  refine Ev.prim (shrN (a := c) (b := 24) (by decide)) ?_
  repeat (first|refine zA ?_|refine zB fun _ _ _=>?_|refine zC fun _ _ _=>?_|refine zD fun _ _=>?_|refine zE ?_|refine zF ?_)
  refine Ev.bsC (P := Tryz.prog) (t := 63) (hS := hS) (by decide) fun b3 H5 hS5 => ?_
  rw [byts_four] at hS5
  refine Ev.prim (cvS_part (d := 9) (bs := le4 c) hS5 (.head _) (Nat.le_refl _) (by rw [le4_len]; decide)) ?_
  rw [List.drop_zero, List.take_of_length_le (by rw [le4_len]; decide)]
  have hS6 := hS5.drop1
  clear hS hS5
  repeat (first|refine zA ?_|refine zB fun _ _ _=>?_|refine zC fun _ _ _=>?_|refine zD fun _ _=>?_|refine zE ?_|refine zF ?_)
  by_cases h2 : le4 c = b.drop 124
  case neg =>
    have e : openR b = (0, [], 10) := by
      unfold openR
      rw [if_neg (by omega), ← hc, if_pos h2]
    rw [e, decide_eq_true (show b.drop 124 ≠ le4 c from fun h => h2 h.symm)]
    repeat (first|refine zA ?_|refine zB fun _ _ _=>?_|refine zC fun _ _ _=>?_|refine zD fun _ _=>?_|refine zE ?_|refine zF ?_)
    exact Ev.ret ⟨rfl, B, ⟨Mo.refl B⟩, hS6⟩
  rw [decide_eq_false (by simpa using h2.symm)]
  repeat (first|refine zA ?_|refine zB fun _ _ _=>?_|refine zC fun _ _ _=>?_|refine zD fun _ _=>?_|refine zE ?_|refine zF ?_)
  rw [hc] at h2
  refine Ev.prim (show ix Tryz.prog 9 (str b) (.int .i64 3) = some (u8 (b.getD 3 0).toNat) from ix_str 3 rfl (by omega)) ?_
  repeat (first|refine zA ?_|refine zB fun _ _ _=>?_|refine zC fun _ _ _=>?_|refine zD fun _ _=>?_|refine zE ?_|refine zF ?_)
  by_cases h6 : (b.getD 3 0).toNat ≤ 120
  case neg =>
    rw [open_bad h1 h2 h6]
    repeat (first | (first|refine zA ?_|refine zB fun _ _ _=>?_|refine zC fun _ _ _=>?_|refine zD fun _ _=>?_|refine zE ?_|refine zF ?_) | rw [decide_eq_true (by omega)] | rw [decide_eq_false (by omega)])
    exact Ev.ret ⟨rfl, B, ⟨Mo.refl B⟩, hS6⟩
  rw [open_ref h1 h2 h6]
  repeat (first | (first|refine zA ?_|refine zB fun _ _ _=>?_|refine zC fun _ _ _=>?_|refine zD fun _ _=>?_|refine zE ?_|refine zF ?_) | rw [decide_eq_true (by omega)] | rw [decide_eq_false (by omega)])
  refine Ev.prim (show ix Tryz.prog 9 (str b) (.int .i64 2) = some (u8 (b.getD 2 0).toNat) from ix_str 2 rfl (by omega)) ?_
  repeat (first | (first|refine zA ?_|refine zB fun _ _ _=>?_|refine zC fun _ _ _=>?_|refine zD fun _ _=>?_|refine zE ?_|refine zF ?_) | rw [decide_eq_true (by omega)] | rw [decide_eq_false (by omega)])
  refine Ev.prim (show ix Tryz.prog 9 (str b) (.int .i64 3) = some (u8 (b.getD 3 0).toNat) from ix_str 3 rfl (by omega)) ?_
  repeat (first | (first|refine zA ?_|refine zB fun _ _ _=>?_|refine zC fun _ _ _=>?_|refine zD fun _ _=>?_|refine zE ?_|refine zF ?_) | rw [decide_eq_true (by omega)] | rw [decide_eq_false (by omega)])
  refine Ev.prim (slc_str2 (l := b) 4 (4 + (b.getD 3 0).toNat) rfl rfl (by omega) (by omega)) ?_
  rw [show 4 + (b.getD 3 0).toNat - 4 = (b.getD 3 0).toNat by omega]
  refine Ev.b2 (rSeal_spec (by rw [List.length_take]; omega) (by omega) hS6) ?_
  rintro _ H7 ⟨rfl, B7, hm7, hS7⟩
  dsimp only at hS7
  clear hS6
  generalize sealR ((b.getD 2 0).toNat : Int) ((b.drop 4).take (b.getD 3 0).toNat) = sr
  obtain ⟨s1, s2⟩ := sr
  dsimp only
  repeat (first|refine zA ?_|refine zB fun _ _ _=>?_|refine zC fun _ _ _=>?_|refine zD fun _ _=>?_|refine zE ?_|refine zF ?_)
  by_cases h8 : s2 = 0
  · rw [decide_eq_true h8]
    repeat (first|refine zA ?_|refine zB fun _ _ _=>?_|refine zC fun _ _ _=>?_|refine zD fun _ _=>?_|refine zE ?_|refine zF ?_)
    try simp only [Bool.not_true]
    repeat (first|refine zA ?_|refine zB fun _ _ _=>?_|refine zC fun _ _ _=>?_|refine zD fun _ _=>?_|refine zE ?_|refine zF ?_)
    by_cases h9 : s1 = b
    · rw [if_pos ⟨h8, h9⟩, decide_eq_false (by simpa using h9)]
      repeat (first|refine zA ?_|refine zB fun _ _ _=>?_|refine zC fun _ _ _=>?_|refine zD fun _ _=>?_|refine zE ?_|refine zF ?_)
      try simp only [Bool.not_true]
      repeat (first|refine zA ?_|refine zB fun _ _ _=>?_|refine zC fun _ _ _=>?_|refine zD fun _ _=>?_|refine zE ?_|refine zF ?_)
      exact Ev.ret ⟨rfl, B7, hm7, hS7⟩
    · rw [if_neg (fun h => h9 h.2), decide_eq_true h9]
      repeat (first|refine zA ?_|refine zB fun _ _ _=>?_|refine zC fun _ _ _=>?_|refine zD fun _ _=>?_|refine zE ?_|refine zF ?_)
      try simp only [Bool.not_true]
      repeat (first|refine zA ?_|refine zB fun _ _ _=>?_|refine zC fun _ _ _=>?_|refine zD fun _ _=>?_|refine zE ?_|refine zF ?_)
      exact Ev.ret ⟨rfl, B7, hm7, hS7⟩
  · rw [decide_eq_false h8, if_neg (fun h => h8 h.1)]
    repeat (first|refine zA ?_|refine zB fun _ _ _=>?_|refine zC fun _ _ _=>?_|refine zD fun _ _=>?_|refine zE ?_|refine zF ?_)
    try simp only [Bool.not_false]
    repeat (first|refine zA ?_|refine zB fun _ _ _=>?_|refine zC fun _ _ _=>?_|refine zD fun _ _=>?_|refine zE ?_|refine zF ?_)
    exact Ev.ret ⟨rfl, B7, hm7, hS7⟩
end
end Go.AM.F
namespace Go.AM.F
open Go Go.AM Go.Proofs
attribute [local irreducible] run bin un ld st box newV mkS fldA fld ixA ix slc slc3 build buildS cv cvS ap cpy lenV gOp pickV b2 aIf aChk evalK resume iterD Option.bind

section
variable {B B0 H0 H : AH} {L : List (Nat × Blk)}
theorem xpWrite_spec {p : Value} {D : Dsk} {Ls : List (Nat × Blk)} {n kind : Int} {t : List UInt8} (hD : XK p D Ls) (hO : D.OK) (hc : D.cache.length + 1 < 1000000000000) (ht : t.length < 9223372036854775808) (hk : -9223372036854775808 ≤ kind ∧ kind < 9223372036854775808) (hS : St H0 B0 B (Ls ++ L) H) :
    Ev (fun k _ => rn k 47 [p, .int .i64 n, .int .i64 kind, str t] H) (XkP H0 B0 B L p (.int .i64 (D.pwrite n kind t).1) (D.pwrite n kind t).2) := by
  refine Ev.fn (fun k => f47_eq k _ _ _ _ H) ?_
  refine Ev.b2 (rSeal_spec ht hk hS) ?_
  rintro _ H1 ⟨rfl, B1, hm1, hS1⟩
  dsimp only at hS1
  clear hS
  unfold Dsk.pwrite
  have hso := @sealR_ok kind t
  generalize sealR kind t = sr at hso
  obtain ⟨s, e⟩ := sr
  dsimp only at hso ⊢
  by_cases h0 : e = 0
  case neg =>
    rw [if_pos (.inl h0), decide_eq_false h0]
    repeat (first|refine zA ?_|refine zB fun _ _ _=>?_|refine zC fun _ _ _=>?_|refine zD fun _ _=>?_|refine zE ?_|refine zF ?_)
    exact Ev.ret ⟨rfl, Ls, B1, hm1, hD, hS1⟩
  rw [decide_eq_true h0]
  by_cases h1 : n < 0
  · rw [if_pos (.inr (.inl h1))]
    repeat (first | (first|refine zA ?_|refine zB fun _ _ _=>?_|refine zC fun _ _ _=>?_|refine zD fun _ _=>?_|refine zE ?_|refine zF ?_) | rw [decide_eq_true (by omega)] | rw [decide_eq_false (by omega)])
    exact Ev.ret ⟨rfl, Ls, B1, hm1, hD, hS1⟩
  by_cases h2 : n > 1048576
  · rw [if_pos (.inr (.inr h2))]
    repeat (first | (first|refine zA ?_|refine zB fun _ _ _=>?_|refine zC fun _ _ _=>?_|refine zD fun _ _=>?_|refine zE ?_|refine zF ?_) | rw [decide_eq_true (by omega)] | rw [decide_eq_false (by omega)])
    exact Ev.ret ⟨rfl, Ls, B1, hm1, hD, hS1⟩
  rw [if_neg (by omega)]
  obtain ⟨m, rfl⟩ : ∃ m : Nat, n = m := ⟨n.toNat, by omega⟩
  have hsl : s.length = 128 := by
    obtain ⟨_, _, _, _, h5, h6⟩ := hso h0
    rw [h6, seal_len h5]
  rw [show (2 : Int) * (m : Int) = ((2 * m : Nat) : Int) by omega, show ((2 * m : Nat) : Int) + 1 = ((2 * m + 1 : Nat) : Int) by omega]
  repeat (first | (first|refine zA ?_|refine zB fun _ _ _=>?_|refine zC fun _ _ _=>?_|refine zD fun _ _=>?_|refine zE ?_|refine zF ?_) | rw [decide_eq_true (by omega)] | rw [decide_eq_false (by omega)])
  refine Ev.prim (show slc Tryz.prog 9 (str s) none (some (.int .i64 64)) = some (str (s.take 64)) from slc_strT (l := s) (i := 64) (by omega)) ?_
  refine Ev.b2 (xWrite_spec (i := ((2 * m : Nat) : Int)) hD hO (by omega) hS1) ?_
  have hwo := hO.write ((2 * m : Nat) : Int) (s.take 64)
  have hwc := write_cache D ((2 * m : Nat) : Int) (s.take 64)
  generalize D.write ((2 * m : Nat) : Int) (s.take 64) = w at hwo hwc
  obtain ⟨w1, w2⟩ := w
  dsimp only at hwo hwc ⊢
  rintro _ H2 ⟨rfl, Ls2, B2, hm2, hD2, hS2⟩
  dsimp only at hS2
  clear hS1
  by_cases hw : w1 = 0
  case neg =>
    rw [if_pos hw]
    repeat (first|refine zA ?_|refine zB fun _ _ _=>?_|refine zC fun _ _ _=>?_|refine zD fun _ _=>?_|refine zE ?_|refine zF ?_)
    rw [decide_eq_true hw]
    repeat (first|refine zA ?_|refine zB fun _ _ _=>?_|refine zC fun _ _ _=>?_|refine zD fun _ _=>?_|refine zE ?_|refine zF ?_)
    exact Ev.ret ⟨rfl, Ls2, B2, ⟨hm1.mo.trans hm2.mo⟩, hD2, hS2⟩
  rw [if_neg (by simpa using hw)]
  repeat (first|refine zA ?_|refine zB fun _ _ _=>?_|refine zC fun _ _ _=>?_|refine zD fun _ _=>?_|refine zE ?_|refine zF ?_)
  rw [decide_eq_false (by simpa using hw)]
  repeat (first | (first|refine zA ?_|refine zB fun _ _ _=>?_|refine zC fun _ _ _=>?_|refine zD fun _ _=>?_|refine zE ?_|refine zF ?_) | rw [decide_eq_true (by omega)] | rw [decide_eq_false (by omega)])
  refine Ev.prim (show slc Tryz.prog 9 (str s) (some (.int .i64 64)) none = some (str (s.drop 64)) from slc_str (l := s) 64 rfl (by omega)) ?_
  refine Ev.b2 (xWrite_spec (i := ((2 * m + 1 : Nat) : Int)) hD2 hwo (by omega) hS2) ?_
  rintro _ H3 ⟨rfl, Ls3, B3, hm3, hD3, hS3⟩
  exact Ev.ret ⟨rfl, Ls3, B3, ⟨hm1.mo.trans (hm2.mo.trans hm3.mo)⟩, hD3, hS3⟩
theorem xpRead_spec {p : Value} {D : Dsk} {Ls : List (Nat × Blk)} {n : Int} (hD : XK p D Ls) (hO : D.OK) (hc : D.cache.length < 1000000000000) {Lx : List (Nat × Blk)} (hS : St H0 B0 B Lx H) (hsub : ∀ x ∈ Ls, x ∈ Lx) :
    Ev (fun k _ => rn k 84 [p, .int .i64 n] H) (fun r => r.1 = OpenV (D.pread n) ∧ ∃ B', MoC B B' ∧ St H0 B0 B' Lx r.2) := by
  refine Ev.fn (fun k => f84_eq k _ _ H) ?_
  unfold Dsk.pread
  by_cases h1 : n < 0
  · rw [if_pos (.inl h1)]
    repeat (first | (first|refine zA ?_|refine zB fun _ _ _=>?_|refine zC fun _ _ _=>?_|refine zD fun _ _=>?_|refine zE ?_|refine zF ?_) | rw [decide_eq_true (by omega)] | rw [decide_eq_false (by omega)])
    exact Ev.ret ⟨rfl, B, ⟨Mo.refl B⟩, hS⟩
  by_cases h2 : n > 1048576
  · rw [if_pos (.inr h2)]
    repeat (first | (first|refine zA ?_|refine zB fun _ _ _=>?_|refine zC fun _ _ _=>?_|refine zD fun _ _=>?_|refine zE ?_|refine zF ?_) | rw [decide_eq_true (by omega)] | rw [decide_eq_false (by omega)])
    exact Ev.ret ⟨rfl, B, ⟨Mo.refl B⟩, hS⟩
  rw [if_neg (by omega)]
  obtain ⟨m, rfl⟩ : ∃ m : Nat, n = m := ⟨n.toNat, by omega⟩
  rw [show (2 : Int) * (m : Int) = ((2 * m : Nat) : Int) by omega, show ((2 * m : Nat) : Int) + 1 = ((2 * m + 1 : Nat) : Int) by omega]
  repeat (first | (first|refine zA ?_|refine zB fun _ _ _=>?_|refine zC fun _ _ _=>?_|refine zD fun _ _=>?_|refine zE ?_|refine zF ?_) | rw [decide_eq_true (by omega)] | rw [decide_eq_false (by omega)])
  have h64a := read_len hO ((2 * m : Nat) : Int)
  have h64b := read_len hO ((2 * m + 1 : Nat) : Int)
  refine Ev.b2 (xRead_spec (i := ((2 * m : Nat) : Int)) hD hO hc hS hsub) ?_
  generalize D.read ((2 * m : Nat) : Int) = ra at h64a
  generalize hrb : D.read ((2 * m + 1 : Nat) : Int) = rb at h64b
  obtain ⟨a, ea⟩ := ra
  obtain ⟨b, eb⟩ := rb
  try dsimp only at h64a h64b ⊢
  rintro _ _ h
  cases h
  repeat (first|refine zA ?_|refine zB fun _ _ _=>?_|refine zC fun _ _ _=>?_|refine zD fun _ _=>?_|refine zE ?_|refine zF ?_)
  by_cases he : ea = 0
  case neg =>
    rw [if_pos he, decide_eq_true he]
    repeat (first|refine zA ?_|refine zB fun _ _ _=>?_|refine zC fun _ _ _=>?_|refine zD fun _ _=>?_|refine zE ?_|refine zF ?_)
    exact Ev.ret ⟨rfl, B, ⟨Mo.refl B⟩, hS⟩
  rw [if_neg (by simpa using he), decide_eq_false (by simpa using he)]
  repeat (first | (first|refine zA ?_|refine zB fun _ _ _=>?_|refine zC fun _ _ _=>?_|refine zD fun _ _=>?_|refine zE ?_|refine zF ?_) | rw [decide_eq_true (by omega)] | rw [decide_eq_false (by omega)])
  refine Ev.b2 (xRead_spec (i := ((2 * m + 1 : Nat) : Int)) hD hO hc hS hsub) ?_
  rw [hrb]
  try dsimp only
  rintro _ _ h
  cases h
  repeat (first|refine zA ?_|refine zB fun _ _ _=>?_|refine zC fun _ _ _=>?_|refine zD fun _ _=>?_|refine zE ?_|refine zF ?_)
  by_cases he2 : eb = 0
  case neg =>
    rw [if_pos he2, decide_eq_true he2]
    repeat (first|refine zA ?_|refine zB fun _ _ _=>?_|refine zC fun _ _ _=>?_|refine zD fun _ _=>?_|refine zE ?_|refine zF ?_)
    exact Ev.ret ⟨rfl, B, ⟨Mo.refl B⟩, hS⟩
  rw [if_neg (by simpa using he2), decide_eq_false (by simpa using he2)]
  repeat (first|refine zA ?_|refine zB fun _ _ _=>?_|refine zC fun _ _ _=>?_|refine zD fun _ _=>?_|refine zE ?_|refine zF ?_)
  refine Ev.b2 (rOpen_spec (b := a ++ b) (by rw [List.length_append]; omega) hS) ?_
  rintro _ H2 ⟨rfl, B2, hm2, hS2⟩
  dsimp only at hS2
  clear hS
  unfold OpenV
  repeat (first|refine zA ?_|refine zB fun _ _ _=>?_|refine zC fun _ _ _=>?_|refine zD fun _ _=>?_|refine zE ?_|refine zF ?_)
  exact Ev.ret ⟨rfl, B2, hm2, hS2⟩
end
end Go.AM.F
namespace Go.AM.F
open Go Go.AM Go.Proofs
attribute [local irreducible] run bin un ld st box newV mkS fldA fld ixA ix slc slc3 build buildS cv cvS ap cpy lenV gOp pickV b2 aIf aChk evalK resume iterD Option.bind

section
variable {B B0 H0 H : AH} {L : List (Nat × Blk)}
theorem callV_fn {k : Nat} {g : FuncId} {xs ys : List Value} {args : List Value} {H : AH} (hg : g < yOff) : callV (rn k) (.func (.func g) ⟨xs⟩ ⟨ys⟩) args H = rn k g (xs ++ (args ++ ys)) H := by
  unfold callV
  simp only [show Nat.blt g yOff = true by rw [Nat.blt_eq]; exact hg, cond_true]
abbrev RdT9 (b1 b2 b3 : Nat) : List Value := f34_T_R0 (ptr b1 0) (ptr b2 0) (ptr b3 0)
theorem read_loop {b bx b1 b2 b3 i : Nat} {cv : Value} {cache : List (Nat × List UInt8)} {Lc : List (Nat × Blk)} (hG : GRS 116 2 cv cache.length (caCells cache) Lc) (hc : cache.length < 1000000000000) :
    ∀ (m : Nat) (B H : AH), m ≤ cache.length → St H0 B0 B ((b, ⟨.int .i64 (0 : Nat) :: RdT9 b1 b2 b3, 7, .loop 34 7⟩) :: (bx, ⟨[cv], 69, .fix⟩) :: (b3, ⟨[.int .i64 0], 37, .fix⟩) :: (b2, ⟨[.string ByteArray.empty], 9, .fix⟩) :: (b1, ⟨[i64 i], 3, .fix⟩) :: (Lc ++ L)) H →
    Ev (fun k K => f76_L0 k (.func (.yield b) #[] #[]) (ptr bx 0) (.int .i64 ((m : Int) - 1)) K H) (fun o => ∃ B' H', MoC B B' ∧
      ((find (cache.take m) i = none ∧ o = (.exit 0, f76_X_L0, H') ∧ St H0 B0 B' ((b, ⟨.int .i64 (xSt .normal : Nat) :: RdT9 b1 b2 b3, 7, .loop 34 7⟩) :: (bx, ⟨[cv], 69, .fix⟩) :: (b3, ⟨[.int .i64 0], 37, .fix⟩) :: (b2, ⟨[.string ByteArray.empty], 9, .fix⟩) :: (b1, ⟨[i64 i], 3, .fix⟩) :: (Lc ++ L)) H') ∨
       ∃ s, find (cache.take m) i = some s ∧ o = (.ret, f76_X_L0, H') ∧ St H0 B0 B' ((b, ⟨.int .i64 (xSt .ret : Nat) :: RdT9 b1 b2 b3, 7, .loop 34 7⟩) :: (bx, ⟨[cv], 69, .fix⟩) :: (b3, ⟨[.int .i64 0], 37, .fix⟩) :: (b2, ⟨[str s], 9, .fix⟩) :: (b1, ⟨[i64 i], 3, .fix⟩) :: (Lc ++ L)) H')) := by
  intro m
  induction m with
  | zero =>
    intro B H hm hS
    refine Ev.succ (fun k K => f76_L0_succ k _ _ _ K H) ?_
    repeat (first|refine zA ?_|refine zB fun _ _ _=>?_|refine zC fun _ _ _=>?_|refine zD fun _ _=>?_|refine zE ?_|refine zF ?_)
    rw [decide_eq_false (by omega)]
    repeat (first|refine zA ?_|refine zB fun _ _ _=>?_|refine zC fun _ _ _=>?_|refine zD fun _ _=>?_|refine zE ?_|refine zF ?_)
    exact Ev.ret ⟨B, H, ⟨Mo.refl B⟩, .inl ⟨rfl, rfl, hS⟩⟩
  | succ m ih =>
    intro B H hm hS
    refine Ev.succ (fun k K => f76_L0_succ k _ _ _ K H) ?_
    rw [show ((m + 1 : Nat) : Int) - 1 = (m : Int) by omega]
    have hcell := hG.cell
    repeat (first|refine zA ?_|refine zB fun _ _ _=>?_|refine zC fun _ _ _=>?_|refine zD fun _ _=>?_|refine zE ?_|refine zF ?_)
    rw [decide_eq_true (by omega)]
    repeat (first|refine zA ?_|refine zB fun _ _ _=>?_|refine zC fun _ _ _=>?_|refine zD fun _ _=>?_|refine zE ?_|refine zF ?_)
    obtain ⟨⟨a, s⟩, ha, htk⟩ := take_ex (l := cache) (m := m) (by omega)
    have hN := hG.now hS (fun p hp => .tail _ (.tail _ (.tail _ (.tail _ (.tail _ (List.mem_append_left _ hp))))))
    obtain ⟨p, q1, q2⟩ := ScN.ldAt (P := Tryz.prog) (t := 69) (k := .i64) (i := m) hN (by omega) (AggOf.eq (P := Tryz.prog) (t := 116))
    rw [caCells_at ha] at q2
    refine Ev.prim q1 ?_
    refine Ev.prim q2 ?_
    rw [htk, find_snoc]
    refine Ev.b2 (Q1 := fun r => ∃ B', MoC B B' ∧ ((a ≠ i ∧ r.1 = .bool true ∧ St H0 B0 B' ((b, ⟨.int .i64 (0 : Nat) :: RdT9 b1 b2 b3, 7, .loop 34 7⟩) :: (bx, ⟨[cv], 69, .fix⟩) :: (b3, ⟨[.int .i64 0], 37, .fix⟩) :: (b2, ⟨[.string ByteArray.empty], 9, .fix⟩) :: (b1, ⟨[i64 i], 3, .fix⟩) :: (Lc ++ L)) r.2) ∨
        (a = i ∧ r.1 = .bool false ∧ St H0 B0 B' ((b, ⟨.int .i64 (xSt .ret : Nat) :: RdT9 b1 b2 b3, 7, .loop 34 7⟩) :: (bx, ⟨[cv], 69, .fix⟩) :: (b3, ⟨[.int .i64 0], 37, .fix⟩) :: (b2, ⟨[str s], 9, .fix⟩) :: (b1, ⟨[i64 i], 3, .fix⟩) :: (Lc ++ L)) r.2)))
      (Ev.fn (fun k => f34_Y0_eq k _ _ _ _ _ b H (hS.get (.head _))) ?_) ?_
    · repeat (first|refine zA ?_|refine zB fun _ _ _=>?_|refine zC fun _ _ _=>?_|refine zD fun _ _=>?_|refine zE ?_|refine zF ?_)
      rename_i bv H1 hS1 H2 hS2
      refine Ev.setSt (c := 0) (d := 1) hS2 (.tail _ (.head _)) (.tail _ (.head _)) fun H3 hS3 => ?_
      clear hS hS1 hS2 hN q1 q2
      repeat (first|refine zA ?_|refine zB fun _ _ _=>?_|refine zC fun _ _ _=>?_|refine zD fun _ _=>?_|refine zE ?_|refine zF ?_)
      by_cases hai : a = i
      · rw [decide_eq_true hai]
        repeat (first|refine zA ?_|refine zB fun _ _ _=>?_|refine zC fun _ _ _=>?_|refine zD fun _ _=>?_|refine zE ?_|refine zF ?_)
        rename_i H4 hS4 H5 hS5
        refine Ev.setSt (c := 1) (d := 2) hS5 (.tail _ (.head _)) (.tail _ (.head _)) fun H6 hS6 => ?_
        exact Ev.ret ⟨B, ⟨Mo.refl B⟩, .inr ⟨hai, rfl, hS6.drop1⟩⟩
      · rw [decide_eq_false hai]
        repeat (first|refine zA ?_|refine zB fun _ _ _=>?_|refine zC fun _ _ _=>?_|refine zD fun _ _=>?_|refine zE ?_|refine zF ?_)
        refine Ev.setSt (c := 1) (d := 0) hS3 (.tail _ (.head _)) (.tail _ (.head _)) fun H6 hS6 => ?_
        exact Ev.ret ⟨B, ⟨Mo.refl B⟩, .inl ⟨hai, rfl, hS6.drop1⟩⟩
    · rintro v H' ⟨B', hm1, ⟨hai, rfl, hS'⟩ | ⟨hai, rfl, hS'⟩⟩
      · rw [if_neg hai]
        clear hS
        repeat (first|refine zA ?_|refine zB fun _ _ _=>?_|refine zC fun _ _ _=>?_|refine zD fun _ _=>?_|refine zE ?_|refine zF ?_)
        refine Ev.prim (bin_sub64 (by omega)) ?_
        refine (ih B' H' (by omega) hS').mono ?_
        rintro o ⟨B2, H2, hm2, h⟩
        exact ⟨B2, H2, ⟨hm1.mo.trans hm2.mo⟩, h⟩
      · rw [if_pos hai]
        clear hS
        repeat (first|refine zA ?_|refine zB fun _ _ _=>?_|refine zC fun _ _ _=>?_|refine zD fun _ _=>?_|refine zE ?_|refine zF ?_)
        exact Ev.ret ⟨B', H', hm1, .inr ⟨s, rfl, rfl, hS'⟩⟩
theorem Read_spec {p : Value} {D : Dsk} {Ls : List (Nat × Blk)} {i : Int} (hD : DK p D Ls) (hO : D.OK) (hc : D.cache.length < 1000000000000) (hS : St H0 B0 B (Ls ++ L) H) :
    Ev (fun k _ => rn k 34 [p, .int .i64 i] H) (fun r => r.1 = .tuple #[str (D.read i).1, .int .i64 (D.read i).2] ∧ ∃ B', MoC B B' ∧ St H0 B0 B' (Ls ++ L) r.2) := by
  have hD0 := hD
  obtain ⟨n, bytes, cache, fu, dn⟩ := D
  obtain ⟨d, bb, cv, Lc, rfl, hG, rfl⟩ := hD
  have h1 := hO.n1
  have h2 := hO.n2
  have hlen := hO.len
  dsimp only at hS hc hG hD0 h1 h2 hlen
  simp only [List.cons_append] at hS ⊢
  have hcell := hG.cell
  refine Ev.fn (fun k => f34_eq k _ _ H) ?_
  repeat (first|refine zA ?_|refine zB fun _ _ _=>?_|refine zC fun _ _ _=>?_|refine zD fun _ _=>?_|refine zE ?_|refine zF ?_)
  rename_i b1 H1 hS1 b2 H2 hS2 b3 H3 hS3
  unfold Dsk.read
  dsimp only
  cases dn with
  | true =>
    clear hS hS1 hS2
    repeat (first|refine zA ?_|refine zB fun _ _ _=>?_|refine zC fun _ _ _=>?_|refine zD fun _ _=>?_|refine zE ?_|refine zF ?_)
    rename_i H4 hS4 H5 hS5
    exact Ev.ret ⟨rfl, B, ⟨Mo.refl B⟩, drop_3 hS5⟩
  | false =>
    clear hS hS1 hS2
    repeat (first|refine zA ?_|refine zB fun _ _ _=>?_|refine zC fun _ _ _=>?_|refine zD fun _ _=>?_|refine zE ?_|refine zF ?_)
    rw [if_neg (fun h => by cases h)]
    by_cases hi : i < 0
    · rw [decide_eq_true hi, if_pos (.inl hi)]
      repeat (first|refine zA ?_|refine zB fun _ _ _=>?_|refine zC fun _ _ _=>?_|refine zD fun _ _=>?_|refine zE ?_|refine zF ?_)
      rename_i H4 hS4 H5 hS5
      exact Ev.ret ⟨rfl, B, ⟨Mo.refl B⟩, drop_3 hS5⟩
    rw [decide_eq_false hi]
    obtain ⟨q, rfl⟩ : ∃ q : Nat, i = q := ⟨i.toNat, by omega⟩
    repeat (first|refine zA ?_|refine zB fun _ _ _=>?_|refine zC fun _ _ _=>?_|refine zD fun _ _=>?_|refine zE ?_|refine zF ?_)
    refine Ev.b2 (Sectors_spec hD0 hO hS3 ?_) ?_
    · intro x hx
      exact .tail _ (.tail _ (.tail _ (by rw [← List.cons_append, ← List.cons_append]; exact List.mem_append_left _ hx)))
    rintro _ _ ⟨rfl, rfl⟩
    repeat (first|refine zA ?_|refine zB fun _ _ _=>?_|refine zC fun _ _ _=>?_|refine zD fun _ _=>?_|refine zE ?_|refine zF ?_)
    by_cases hq : n ≤ q
    · rw [decide_eq_true hq, if_pos (.inr (by omega))]
      repeat (first|refine zA ?_|refine zB fun _ _ _=>?_|refine zC fun _ _ _=>?_|refine zD fun _ _=>?_|refine zE ?_|refine zF ?_)
      rename_i H4 hS4 H5 hS5
      exact Ev.ret ⟨rfl, B, ⟨Mo.refl B⟩, drop_3 hS5⟩
    rw [decide_eq_false hq, if_neg (by omega)]
    repeat (first|refine zA ?_|refine zB fun _ _ _=>?_|refine zC fun _ _ _=>?_|refine zD fun _ _=>?_|refine zE ?_|refine zF ?_)
    refine Ev.b2 (Q1 := fun r => ∃ bx, r.1 = .func (.func 76) #[] #[ptr bx 0] ∧ St H0 B0 B ((bx, ⟨[cv], 69, .fix⟩) :: (b3, ⟨[.int .i64 0], 37, .fix⟩) :: (b2, ⟨[.string ByteArray.empty], 9, .fix⟩) :: (b1, ⟨[i64 q], 3, .fix⟩) :: (d, ⟨[sl bb 0 (64 * n) (64 * n), cv, .int .i64 fu, .bool false], 71, .fix⟩) :: (bb, ⟨byts bytes, 5, .fix⟩) :: (Lc ++ L)) r.2)
      (Ev.fn (fun k => f60_eq k _ H3) ?_) ?_
    · repeat (first|refine zA ?_|refine zB fun _ _ _=>?_|refine zC fun _ _ _=>?_|refine zD fun _ _=>?_|refine zE ?_|refine zF ?_)
      rename_i bx H4 hS4
      exact Ev.ret ⟨bx, rfl, hS4⟩
    rintro _ H4 ⟨bx, rfl, hS4⟩
    simp only [callV_fn (show 76 < yOff by unfold yOff; omega), List.nil_append, List.cons_append]
    have hS5 := hS4.mkB' (.int .i64 0 :: RdT9 b1 b2 b3) 7 (.loop 34 7)
    clear hS3
    have hS6 := toFront (X := Lc) (La := [(H4.length, ⟨.int .i64 0 :: RdT9 b1 b2 b3, 7, .loop 34 7⟩), (bx, ⟨[cv], 69, .fix⟩), (b3, ⟨[.int .i64 0], 37, .fix⟩), (b2, ⟨[.string ByteArray.empty], 9, .fix⟩), (b1, ⟨[i64 q], 3, .fix⟩), (d, ⟨[sl bb 0 (64 * n) (64 * n), cv, .int .i64 fu, .bool false], 71, .fix⟩), (bb, ⟨byts bytes, 5, .fix⟩)]) (L := L) hS5
    have hS7 := toFront (X := [(H4.length, ⟨.int .i64 0 :: RdT9 b1 b2 b3, 7, .loop 34 7⟩), (bx, ⟨[cv], 69, .fix⟩), (b3, ⟨[.int .i64 0], 37, .fix⟩), (b2, ⟨[.string ByteArray.empty], 9, .fix⟩), (b1, ⟨[i64 q], 3, .fix⟩)]) (La := Lc) (L := [(d, ⟨[sl bb 0 (64 * n) (64 * n), cv, .int .i64 fu, .bool false], 71, .fix⟩), (bb, ⟨byts bytes, 5, .fix⟩)] ++ L) hS6
    simp only [List.cons_append, List.nil_append] at hS7
    clear hS4 hS5 hS6
    have key : Ev (fun k _ => rn k 76 [.func (.yield H4.length) #[] #[], ptr bx 0] (mkB H4 (.int .i64 0 :: RdT9 b1 b2 b3) 7 (.loop 34 7))) (fun r => ∃ B', MoC B B' ∧
        ((find cache q = none ∧ St H0 B0 B' ((H4.length, ⟨.int .i64 (xSt .normal : Nat) :: RdT9 b1 b2 b3, 7, .loop 34 7⟩) :: (bx, ⟨[cv], 69, .fix⟩) :: (b3, ⟨[.int .i64 0], 37, .fix⟩) :: (b2, ⟨[.string ByteArray.empty], 9, .fix⟩) :: (b1, ⟨[i64 q], 3, .fix⟩) :: (Lc ++ ([(d, ⟨[sl bb 0 (64 * n) (64 * n), cv, .int .i64 fu, .bool false], 71, .fix⟩), (bb, ⟨byts bytes, 5, .fix⟩)] ++ L))) r.2) ∨
         ∃ s, find cache q = some s ∧ St H0 B0 B' ((H4.length, ⟨.int .i64 (xSt .ret : Nat) :: RdT9 b1 b2 b3, 7, .loop 34 7⟩) :: (bx, ⟨[cv], 69, .fix⟩) :: (b3, ⟨[.int .i64 0], 37, .fix⟩) :: (b2, ⟨[str s], 9, .fix⟩) :: (b1, ⟨[i64 q], 3, .fix⟩) :: (Lc ++ ([(d, ⟨[sl bb 0 (64 * n) (64 * n), cv, .int .i64 fu, .bool false], 71, .fix⟩), (bb, ⟨byts bytes, 5, .fix⟩)] ++ L))) r.2)) := by
      refine Ev.fn (fun k => f76_eq k _ _ _) ?_
      repeat (first|refine zA ?_|refine zB fun _ _ _=>?_|refine zC fun _ _ _=>?_|refine zD fun _ _=>?_|refine zE ?_|refine zF ?_)
      refine Ev.prim (hG.len (Und.eq (P := Tryz.prog) (t := 69))) ?_
      refine Ev.prim (bin_sub64 (by omega)) ?_
      refine Ev.bind (Ev.loop (read_loop hG hc cache.length B _ (Nat.le_refl _) hS7)) ?_
      rw [List.take_length]
      rintro _ ⟨B', H', hm, ⟨hf, rfl, hS'⟩ | ⟨s, hf, rfl, hS'⟩⟩
      · refine Ev.eq (fun k _ => f76_A0_x0 k _) ?_
        exact Ev.ret ⟨B', hm, .inl ⟨hf, hS'⟩⟩
      · refine Ev.eq (fun k _ => f76_A0_ret k _) ?_
        exact Ev.ret ⟨B', hm, .inr ⟨s, hf, hS'⟩⟩
    refine Ev.b2 key ?_
    clear hS7
    rintro _ H5 ⟨B', hm, ⟨hf, hS'⟩ | ⟨s, hf, hS'⟩⟩
    · refine Ev.rgBack hS' fun H6 hS6 => ?_
      refine Ev.eq (fun k _ => f34_B0_normal k _ _ _ _ H6) ?_
      clear hS'
      have hS7 := hS6.perm (show ([(bx, _), (b3, _), (b2, _), (b1, _)] ++ ([(d, _), (bb, _)] ++ (Lc ++ L))).Perm _ from List.Perm.append_left _ (permA [(d, _), (bb, _)] Lc L).symm)
      simp only [List.cons_append, List.nil_append] at hS7
      clear hS6
      repeat (first|refine zA ?_|refine zB fun _ _ _=>?_|refine zC fun _ _ _=>?_|refine zD fun _ _=>?_|refine zE ?_|refine zF ?_)
      refine Ev.prim (slc_own2 (t := 63) (by omega)) ?_
      rw [if_neg (by omega)]
      refine Ev.prim (cvS_part (d := 9) (bs := bytes) hS7 (.tail _ (.tail _ (.tail _ (.tail _ (.tail _ (.head _)))))) (by omega) (by omega)) ?_
      repeat (first|refine zA ?_|refine zB fun _ _ _=>?_|refine zC fun _ _ _=>?_|refine zD fun _ _=>?_|refine zE ?_|refine zF ?_)
      rename_i H8 hS8 H9 hS9
      refine Ev.ret ⟨?_, B', hm, hS9.drop1.drop1.drop1.drop1⟩
      unfold Dsk.look Dsk.sector
      dsimp only
      rw [Int.toNat_natCast, hf]
      simp only [Option.getD_none, Nat.mul_comm 64 q, show (q + 1) * 64 - q * 64 = 64 by omega]
      rfl
    · refine Ev.rgBack hS' fun H6 hS6 => ?_
      refine Ev.eq (fun k _ => f34_B0_ret k _ _ _ _ H6) ?_
      clear hS'
      have hS7 := hS6.perm (show ([(bx, _), (b3, _), (b2, _), (b1, _)] ++ ([(d, _), (bb, _)] ++ (Lc ++ L))).Perm _ from List.Perm.append_left _ (permA [(d, _), (bb, _)] Lc L).symm)
      simp only [List.cons_append, List.nil_append] at hS7
      clear hS6
      repeat (first|refine zA ?_|refine zB fun _ _ _=>?_|refine zC fun _ _ _=>?_|refine zD fun _ _=>?_|refine zE ?_|refine zF ?_)
      refine Ev.ret ⟨?_, B', hm, hS7.drop1.drop1.drop1.drop1⟩
      unfold Dsk.look
      dsimp only
      rw [Int.toNat_natCast, hf]
      rfl
end
end Go.AM.F
namespace Go.AM.F
open Go Go.AM Go.Proofs
attribute [local irreducible] run bin un ld st box newV mkS fldA fld ixA ix slc slc3 build buildS cv cvS ap cpy lenV gOp pickV b2 aIf aChk evalK resume iterD Option.bind

section
variable {B B0 H0 H : AH} {L : List (Nat × Blk)}
theorem pWrite_spec {p : Value} {D : Dsk} {Ls : List (Nat × Blk)} {n kind : Int} {t : List UInt8} (hD : DK p D Ls) (hO : D.OK) (hc : D.cache.length + 1 < 1000000000000) (ht : t.length < 9223372036854775808) (hk : -9223372036854775808 ≤ kind ∧ kind < 9223372036854775808) (hS : St H0 B0 B (Ls ++ L) H) :
    Ev (fun k _ => rn k 45 [p, .int .i64 n, .int .i64 kind, str t] H) (DkP H0 B0 B L p (.int .i64 (D.pwrite n kind t).1) (D.pwrite n kind t).2) := by
  refine Ev.fn (fun k => f45_eq k _ _ _ _ H) ?_
  refine Ev.b2 (Seal_spec ht hk hS) ?_
  rintro _ H1 ⟨rfl, B1, hm1, hS1⟩
  dsimp only at hS1
  clear hS
  unfold SealV Dsk.pwrite
  have hso := @sealR_ok kind t
  generalize sealR kind t = sr at hso
  obtain ⟨s, e⟩ := sr
  dsimp only at hso ⊢
  by_cases h0 : e = 0
  case neg =>
    rw [if_pos (.inl h0)]
    repeat (first|refine zA ?_|refine zB fun _ _ _=>?_|refine zC fun _ _ _=>?_|refine zD fun _ _=>?_|refine zE ?_|refine zF ?_)
    rw [decide_eq_true h0]
    repeat (first|refine zA ?_|refine zB fun _ _ _=>?_|refine zC fun _ _ _=>?_|refine zD fun _ _=>?_|refine zE ?_|refine zF ?_)
    exact Ev.ret ⟨rfl, Ls, B1, hm1, hD, hS1⟩
  by_cases h1 : n < 0
  · rw [if_pos (.inr (.inl h1))]
    repeat (first | (first|refine zA ?_|refine zB fun _ _ _=>?_|refine zC fun _ _ _=>?_|refine zD fun _ _=>?_|refine zE ?_|refine zF ?_) | rw [decide_eq_true (by omega)] | rw [decide_eq_false (by omega)])
    exact Ev.ret ⟨rfl, Ls, B1, hm1, hD, hS1⟩
  by_cases h2 : n > 1048576
  · rw [if_pos (.inr (.inr h2))]
    repeat (first | (first|refine zA ?_|refine zB fun _ _ _=>?_|refine zC fun _ _ _=>?_|refine zD fun _ _=>?_|refine zE ?_|refine zF ?_) | rw [decide_eq_true (by omega)] | rw [decide_eq_false (by omega)])
    exact Ev.ret ⟨rfl, Ls, B1, hm1, hD, hS1⟩
  rw [if_neg (by omega)]
  obtain ⟨m, rfl⟩ : ∃ m : Nat, n = m := ⟨n.toNat, by omega⟩
  have hsl : s.length = 128 := by
    obtain ⟨_, _, _, _, h5, h6⟩ := hso h0
    rw [h6, seal_len h5]
  rw [show (2 : Int) * (m : Int) = ((2 * m : Nat) : Int) by omega, show ((2 * m : Nat) : Int) + 1 = ((2 * m + 1 : Nat) : Int) by omega]
  repeat (first | (first|refine zA ?_|refine zB fun _ _ _=>?_|refine zC fun _ _ _=>?_|refine zD fun _ _=>?_|refine zE ?_|refine zF ?_) | rw [decide_eq_true (by omega)] | rw [decide_eq_false (by omega)])
  refine Ev.prim (show slc Tryz.prog 9 (str s) none (some (.int .i64 64)) = some (str (s.take 64)) from slc_strT (l := s) (i := 64) (by omega)) ?_
  refine Ev.b2 (Write_spec (i := ((2 * m : Nat) : Int)) hD hO (by omega) hS1) ?_
  have hwo := hO.write ((2 * m : Nat) : Int) (s.take 64)
  have hwc := write_cache D ((2 * m : Nat) : Int) (s.take 64)
  generalize D.write ((2 * m : Nat) : Int) (s.take 64) = w at hwo hwc
  obtain ⟨w1, w2⟩ := w
  dsimp only at hwo hwc ⊢
  rintro _ H2 ⟨rfl, Ls2, B2, hm2, hD2, hS2⟩
  dsimp only at hS2
  clear hS1
  by_cases hw : w1 = 0
  case neg =>
    rw [if_pos hw]
    repeat (first|refine zA ?_|refine zB fun _ _ _=>?_|refine zC fun _ _ _=>?_|refine zD fun _ _=>?_|refine zE ?_|refine zF ?_)
    rw [decide_eq_true hw]
    repeat (first|refine zA ?_|refine zB fun _ _ _=>?_|refine zC fun _ _ _=>?_|refine zD fun _ _=>?_|refine zE ?_|refine zF ?_)
    exact Ev.ret ⟨rfl, Ls2, B2, ⟨hm1.mo.trans hm2.mo⟩, hD2, hS2⟩
  rw [if_neg (by simpa using hw)]
  repeat (first|refine zA ?_|refine zB fun _ _ _=>?_|refine zC fun _ _ _=>?_|refine zD fun _ _=>?_|refine zE ?_|refine zF ?_)
  rw [decide_eq_false (by simpa using hw)]
  repeat (first | (first|refine zA ?_|refine zB fun _ _ _=>?_|refine zC fun _ _ _=>?_|refine zD fun _ _=>?_|refine zE ?_|refine zF ?_) | rw [decide_eq_true (by omega)] | rw [decide_eq_false (by omega)])
  refine Ev.prim (show slc Tryz.prog 9 (str s) (some (.int .i64 64)) none = some (str (s.drop 64)) from slc_str (l := s) 64 rfl (by omega)) ?_
  refine Ev.b2 (Write_spec (i := ((2 * m + 1 : Nat) : Int)) hD2 hwo (by omega) hS2) ?_
  rintro _ H3 ⟨rfl, Ls3, B3, hm3, hD3, hS3⟩
  exact Ev.ret ⟨rfl, Ls3, B3, ⟨hm1.mo.trans (hm2.mo.trans hm3.mo)⟩, hD3, hS3⟩
theorem pRead_spec {p : Value} {D : Dsk} {Ls : List (Nat × Blk)} {n : Int} (hD : DK p D Ls) (hO : D.OK) (hc : D.cache.length < 1000000000000) (hS : St H0 B0 B (Ls ++ L) H) :
    Ev (fun k _ => rn k 82 [p, .int .i64 n] H) (fun r => r.1 = OpenV (D.pread n) ∧ ∃ B', MoC B B' ∧ St H0 B0 B' (Ls ++ L) r.2) := by
  refine Ev.fn (fun k => f82_eq k _ _ H) ?_
  unfold Dsk.pread
  by_cases h1 : n < 0
  · rw [if_pos (.inl h1)]
    repeat (first | (first|refine zA ?_|refine zB fun _ _ _=>?_|refine zC fun _ _ _=>?_|refine zD fun _ _=>?_|refine zE ?_|refine zF ?_) | rw [decide_eq_true (by omega)] | rw [decide_eq_false (by omega)])
    exact Ev.ret ⟨rfl, B, ⟨Mo.refl B⟩, hS⟩
  by_cases h2 : n > 1048576
  · rw [if_pos (.inr h2)]
    repeat (first | (first|refine zA ?_|refine zB fun _ _ _=>?_|refine zC fun _ _ _=>?_|refine zD fun _ _=>?_|refine zE ?_|refine zF ?_) | rw [decide_eq_true (by omega)] | rw [decide_eq_false (by omega)])
    exact Ev.ret ⟨rfl, B, ⟨Mo.refl B⟩, hS⟩
  rw [if_neg (by omega)]
  obtain ⟨m, rfl⟩ : ∃ m : Nat, n = m := ⟨n.toNat, by omega⟩
  rw [show (2 : Int) * (m : Int) = ((2 * m : Nat) : Int) by omega, show ((2 * m : Nat) : Int) + 1 = ((2 * m + 1 : Nat) : Int) by omega]
  repeat (first | (first|refine zA ?_|refine zB fun _ _ _=>?_|refine zC fun _ _ _=>?_|refine zD fun _ _=>?_|refine zE ?_|refine zF ?_) | rw [decide_eq_true (by omega)] | rw [decide_eq_false (by omega)])
  have h64a := read_len hO ((2 * m : Nat) : Int)
  have h64b := read_len hO ((2 * m + 1 : Nat) : Int)
  have key : Ev (fun k K => f82_L0 k p (i64 m) (str []) (i64 0) K H) (fun o => ∃ B' H', MoC B B' ∧ St H0 B0 B' (Ls ++ L) H' ∧
      (((D.read ((2 * m : Nat) : Int)).2 ≠ 0 ∧ o = (.ret, f82_X_L0 (.int .i64 0) (str []) (.int .i64 (D.read ((2 * m : Nat) : Int)).2) (str []), H'))
        ∨ ((D.read ((2 * m : Nat) : Int)).2 = 0 ∧ (D.read ((2 * m + 1 : Nat) : Int)).2 ≠ 0 ∧ o = (.ret, f82_X_L0 (.int .i64 0) (str []) (.int .i64 (D.read ((2 * m + 1 : Nat) : Int)).2) (str (D.read ((2 * m : Nat) : Int)).1), H'))
        ∨ ((D.read ((2 * m : Nat) : Int)).2 = 0 ∧ (D.read ((2 * m + 1 : Nat) : Int)).2 = 0 ∧ o = (.exit 0, f82_X_L0 unk unk unk (str ((D.read ((2 * m : Nat) : Int)).1 ++ (D.read ((2 * m + 1 : Nat) : Int)).1)), H')))) := by
    refine Ev.succ (fun k K => f82_L0_succ k _ _ _ _ K H) ?_
    repeat (first | (first|refine zA ?_|refine zB fun _ _ _=>?_|refine zC fun _ _ _=>?_|refine zD fun _ _=>?_|refine zE ?_|refine zF ?_) | rw [decide_eq_true (by omega)] | rw [decide_eq_false (by omega)])
    refine Ev.b2 (Read_spec (i := ((2 * m : Nat) : Int)) hD hO hc (by exact hS)) ?_
    generalize D.read ((2 * m : Nat) : Int) = ra at h64a
    generalize hrb : D.read ((2 * m + 1 : Nat) : Int) = rb at h64b
    obtain ⟨a, ea⟩ := ra
    obtain ⟨b, eb⟩ := rb
    try dsimp only at h64a h64b ⊢
    rintro _ H1 ⟨rfl, B1, hm1, hS1⟩
    try dsimp only at hS1
    clear hS
    repeat (first|refine zA ?_|refine zB fun _ _ _=>?_|refine zC fun _ _ _=>?_|refine zD fun _ _=>?_|refine zE ?_|refine zF ?_)
    by_cases he : ea = 0
    case neg =>
      rw [decide_eq_true he]
      repeat (first|refine zA ?_|refine zB fun _ _ _=>?_|refine zC fun _ _ _=>?_|refine zD fun _ _=>?_|refine zE ?_|refine zF ?_)
      exact Ev.ret ⟨B1, H1, hm1, hS1, .inl ⟨he, rfl⟩⟩
    rw [decide_eq_false (by simpa using he)]
    repeat (first|refine zA ?_|refine zB fun _ _ _=>?_|refine zC fun _ _ _=>?_|refine zD fun _ _=>?_|refine zE ?_|refine zF ?_)
    refine Ev.prim (show bin Tryz.prog .add 9 (str []) (str a) = some (str a) from add_str (a := []) (b := a) (by simp; omega)) ?_
    repeat (first|refine zA ?_|refine zB fun _ _ _=>?_|refine zC fun _ _ _=>?_|refine zD fun _ _=>?_|refine zE ?_|refine zF ?_)
    refine Ev.succ (fun k K => f82_L0_succ k _ _ _ _ K H1) ?_
    repeat (first | (first|refine zA ?_|refine zB fun _ _ _=>?_|refine zC fun _ _ _=>?_|refine zD fun _ _=>?_|refine zE ?_|refine zF ?_) | rw [decide_eq_true (by omega)] | rw [decide_eq_false (by omega)])
    refine Ev.b2 (Read_spec (i := ((2 * m + 1 : Nat) : Int)) hD hO hc (by exact hS1)) ?_
    rw [hrb]
    rintro _ H2 ⟨rfl, B2, hm2, hS2⟩
    dsimp only at hS2
    clear hS1
    repeat (first|refine zA ?_|refine zB fun _ _ _=>?_|refine zC fun _ _ _=>?_|refine zD fun _ _=>?_|refine zE ?_|refine zF ?_)
    by_cases he2 : eb = 0
    case neg =>
      rw [decide_eq_true he2]
      repeat (first|refine zA ?_|refine zB fun _ _ _=>?_|refine zC fun _ _ _=>?_|refine zD fun _ _=>?_|refine zE ?_|refine zF ?_)
      exact Ev.ret ⟨B2, H2, ⟨hm1.mo.trans hm2.mo⟩, hS2, .inr (.inl ⟨he, he2, rfl⟩)⟩
    rw [decide_eq_false (by simpa using he2)]
    repeat (first|refine zA ?_|refine zB fun _ _ _=>?_|refine zC fun _ _ _=>?_|refine zD fun _ _=>?_|refine zE ?_|refine zF ?_)
    refine Ev.prim (add_str (a := a) (b := b) (by omega)) ?_
    repeat (first|refine zA ?_|refine zB fun _ _ _=>?_|refine zC fun _ _ _=>?_|refine zD fun _ _=>?_|refine zE ?_|refine zF ?_)
    refine Ev.succ (fun k K => f82_L0_succ k _ _ _ _ K H2) ?_
    repeat (first | (first|refine zA ?_|refine zB fun _ _ _=>?_|refine zC fun _ _ _=>?_|refine zD fun _ _=>?_|refine zE ?_|refine zF ?_) | rw [decide_eq_true (by omega)] | rw [decide_eq_false (by omega)])
    exact Ev.ret ⟨B2, H2, ⟨hm1.mo.trans hm2.mo⟩, hS2, .inr (.inr ⟨he, he2, rfl⟩)⟩
  refine Ev.bind (Ev.loop key) ?_
  generalize D.read ((2 * m : Nat) : Int) = ra at h64a
  generalize D.read ((2 * m + 1 : Nat) : Int) = rb at h64b
  obtain ⟨a, ea⟩ := ra
  obtain ⟨b, eb⟩ := rb
  try dsimp only at h64a h64b ⊢
  rintro o ⟨B1, H1, hm1, hS1, ⟨he, rfl⟩ | ⟨he, he2, rfl⟩ | ⟨he, he2, rfl⟩⟩
  · rw [if_pos he]
    refine Ev.eq (fun k _ => f82_A0_ret k _ _ _ _ H1) ?_
    exact Ev.ret ⟨rfl, B1, hm1, hS1⟩
  · rw [if_neg (by simpa using he), if_pos he2]
    refine Ev.eq (fun k _ => f82_A0_ret k _ _ _ _ H1) ?_
    exact Ev.ret ⟨rfl, B1, hm1, hS1⟩
  rw [if_neg (by simpa using he), if_neg (by simpa using he2)]
  refine Ev.eq (fun k _ => f82_A0_x0 k _ _ _ _ H1) ?_
  refine Ev.b2 (Open_spec (b := a ++ b) (by rw [List.length_append]; omega) hS1) ?_
  rintro _ H2 ⟨rfl, B2, hm2, hS2⟩
  dsimp only at hS2
  unfold OpenV
  repeat (first|refine zA ?_|refine zB fun _ _ _=>?_|refine zC fun _ _ _=>?_|refine zD fun _ _=>?_|refine zE ?_|refine zF ?_)
  exact Ev.ret ⟨rfl, B2, ⟨hm1.mo.trans hm2.mo⟩, hS2⟩
end
end Go.AM.F
namespace Go.AM.F
open Go Go.AM Go.Proofs
attribute [local irreducible] run bin un ld st box newV mkS fldA fld ixA ix slc slc3 build buildS cv cvS ap cpy lenV gOp pickV b2 aIf aChk evalK resume iterD Option.bind

section
variable {B B0 H0 H : AH} {L : List (Nat × Blk)}
abbrev FR := FRS 3
def PK (p dv : Value) (G : Pgr) (D : Dsk) (Ls : List (Nat × Blk)) : Prop := ∃ pb mb fv Lf Ld, p = ptr pb 0 ∧ DK dv D Ld ∧ FR fv G.fresh Lf ∧ Ls = (pb, ⟨[i64 G.turn, .int .i64 G.root, .map (some mb), dv, fv, .bool G.down], 85, .fix⟩) :: (mb, ⟨entI G.used, 81, .map⟩) :: (Lf ++ Ld)
def PgP (H0 B0 B : AH) (L : List (Nat × Blk)) (p dv v : Value) (G : Pgr) (D : Dsk) (r : Value × AH) : Prop := r.1 = v ∧ ∃ Ls B', MoC B B' ∧ PK p dv G D Ls ∧ St H0 B0 B' (Ls ++ L) r.2
theorem eltI : Elt Tryz.prog 51 3 (.int .i64 0) 8 := inferInstance
theorem pages_spec {dv : Value} {D : Dsk} {Ls Lx : List (Nat × Blk)} (hD : DK dv D Ls) (hO : D.OK) (hS : St H0 B0 B Lx H) (hsub : ∀ x ∈ Ls, x ∈ Lx) :
    Ev (fun k _ => rn k 52 [dv] H) (fun r => r = (i64 (D.n / 2), H)) := by
  refine Ev.fn (fun k => f52_eq k _ H) ?_
  have h2 := hO.n2
  refine Ev.b2 (Sectors_spec hD hO hS hsub) ?_
  rintro v H1 h
  cases h
  repeat (first | (first|refine zA ?_|refine zB fun _ _ _=>?_|refine zC fun _ _ _=>?_|refine zD fun _ _=>?_|refine zE ?_|refine zF ?_) | rw [decide_eq_true (by omega)] | rw [decide_eq_false (by omega)])
  exact Ev.ret rfl
theorem Index_spec {v : Value} {l : List Int} {Lf Lx : List (Nat × Blk)} (x : Int) (hF : FR v l Lf) (hl : l.length < 1000000000000) (hS : St H0 B0 B Lx H) (hsub : ∀ p ∈ Lf, p ∈ Lx) :
    Ev (fun k _ => rn k 61 [v, .int .i64 x] H) (fun r => ∃ j : Int, r = (.int .i64 j, H) ∧ (0 ≤ j ↔ x ∈ l)) := by
  refine Ev.fn (fun k => f61_eq k _ _ H) ?_
  refine Ev.prim (hF.len (Und.eq (P := Tryz.prog) (t := 51))) ?_
  have hN := hF.now hS hsub
  have key : ∀ (m i : Nat), i + m = l.length → (∀ q, q < i → l[q]? ≠ some x) → Ev (fun k K => f61_L0 k v (.int .i64 x) (i64 l.length) (i64 i) K H)
      (fun o => (o = (.exit 0, f61_X_L0 unk, H) ∧ x ∉ l) ∨ (∃ j : Nat, o = (.ret, f61_X_L0 (i64 j), H) ∧ x ∈ l)) := by
    intro m
    induction m with
    | zero =>
      intro i hi hno
      refine Ev.succ (fun k K => f61_L0_succ k _ _ _ _ K H) ?_
      repeat (first|refine zA ?_|refine zB fun _ _ _=>?_|refine zC fun _ _ _=>?_|refine zD fun _ _=>?_|refine zE ?_|refine zF ?_)
      rw [decide_eq_false (by omega)]
      repeat (first|refine zA ?_|refine zB fun _ _ _=>?_|refine zC fun _ _ _=>?_|refine zD fun _ _=>?_|refine zE ?_|refine zF ?_)
      refine Ev.ret (.inl ⟨rfl, fun hx => ?_⟩)
      obtain ⟨q, hq⟩ := List.getElem?_of_mem hx
      exact hno q (by have := (List.getElem?_eq_some_iff.1 hq).1; omega) hq
    | succ m ih =>
      intro i hi hno
      refine Ev.succ (fun k K => f61_L0_succ k _ _ _ _ K H) ?_
      repeat (first|refine zA ?_|refine zB fun _ _ _=>?_|refine zC fun _ _ _=>?_|refine zD fun _ _=>?_|refine zE ?_|refine zF ?_)
      rw [decide_eq_true (by omega)]
      repeat (first|refine zA ?_|refine zB fun _ _ _=>?_|refine zC fun _ _ _=>?_|refine zD fun _ _=>?_|refine zE ?_|refine zF ?_)
      have hx : (intV l)[i]? = some (.int .i64 l[i]) := by unfold intV; rw [List.getElem?_map, List.getElem?_eq_getElem (by omega)]; rfl
      refine Ev.ixN (t := 51) hN i rfl (by omega) hx fun p hp => ?_
      refine Ev.prim (hp.eq H (Mo.refl H)) ?_
      repeat (first|refine zA ?_|refine zB fun _ _ _=>?_|refine zC fun _ _ _=>?_|refine zD fun _ _=>?_|refine zE ?_|refine zF ?_)
      by_cases he : x = l[i]
      · rw [decide_eq_true he]
        repeat (first|refine zA ?_|refine zB fun _ _ _=>?_|refine zC fun _ _ _=>?_|refine zD fun _ _=>?_|refine zE ?_|refine zF ?_)
        exact Ev.ret (.inr ⟨i, rfl, by rw [he]; exact List.getElem_mem _⟩)
      · rw [decide_eq_false he]
        repeat (first | (first|refine zA ?_|refine zB fun _ _ _=>?_|refine zC fun _ _ _=>?_|refine zD fun _ _=>?_|refine zE ?_|refine zF ?_) | rw [decide_eq_true (by omega)] | rw [decide_eq_false (by omega)])
        refine ih (i + 1) (by omega) fun q hq => ?_
        by_cases hqi : q = i
        · subst hqi; rw [List.getElem?_eq_getElem (by omega)]; intro h; exact he (Option.some.inj h).symm
        · exact hno q (by omega)
  refine Ev.bind (Ev.loop (key l.length 0 (by omega) fun q hq => by omega)) ?_
  rintro _ (⟨rfl, hx⟩ | ⟨j, rfl, hx⟩)
  · refine Ev.eq (fun k _ => f61_A0_x0 k _ H) ?_
    exact Ev.ret ⟨-1, rfl, by simp [hx]⟩
  · refine Ev.eq (fun k _ => f61_A0_ret k _ H) ?_
    exact Ev.ret ⟨j, rfl, by simp [hx]⟩
theorem Contains_spec {v : Value} {l : List Int} {Lf Lx : List (Nat × Blk)} (x : Int) (hF : FR v l Lf) (hl : l.length < 1000000000000) (hS : St H0 B0 B Lx H) (hsub : ∀ p ∈ Lf, p ∈ Lx) :
    Ev (fun k _ => rn k 42 [v, .int .i64 x] H) (fun r => r = (.bool (decide (x ∈ l)), H)) := by
  refine Ev.fn (fun k => f42_eq k _ _ H) ?_
  refine Ev.b2 (Index_spec x hF hl hS hsub) ?_
  rintro _ _ ⟨j, h, hj⟩
  cases h
  repeat (first|refine zA ?_|refine zB fun _ _ _=>?_|refine zC fun _ _ _=>?_|refine zD fun _ _=>?_|refine zE ?_|refine zF ?_)
  refine Ev.ret ?_
  rw [decide_eq_decide.2 hj]
theorem told_spec {pb : Nat} {tv rv mv dv fv : Value} {dn : Bool} {e : Int} {Lx Ly : List (Nat × Blk)} (hm : (pb, ⟨[tv, rv, mv, dv, fv, .bool dn], 85, .fix⟩) ∈ Lx) (hu : Upd pb ⟨[tv, rv, mv, dv, fv, .bool dn], 85, .fix⟩ ⟨[tv, rv, mv, dv, fv, .bool (dn || decide (e = 7))], 85, .fix⟩ Lx Ly) [IsCell tv] [IsCell rv] [IsCell mv] [IsCell dv] [IsCell fv] (hS : St H0 B0 B Lx H) :
    Ev (fun k _ => rn k 44 [ptr pb 0, .int .i64 e] H) (fun r => r.1 = .int .i64 e ∧ St H0 B0 B Ly r.2) := by
  have i1 : InL pb _ Lx := ⟨hm⟩
  refine Ev.fn (fun k => f44_eq k _ _ H) ?_
  cases dn with
  | true =>
    have i2 : UpL pb ⟨[tv, rv, mv, dv, fv, .bool true], 85, .fix⟩ ⟨[tv, rv, mv, dv, fv, .bool true], 85, .fix⟩ Lx Ly := ⟨hu⟩
    repeat (first|refine zA ?_|refine zB fun _ _ _=>?_|refine zC fun _ _ _=>?_|refine zD fun _ _=>?_|refine zE ?_|refine zF ?_)
    exact Ev.ret ⟨rfl, by assumption⟩
  | false =>
    have i2 : UpL pb ⟨[tv, rv, mv, dv, fv, .bool false], 85, .fix⟩ ⟨[tv, rv, mv, dv, fv, .bool (decide (e = 7))], 85, .fix⟩ Lx Ly := ⟨hu⟩
    repeat (first|refine zA ?_|refine zB fun _ _ _=>?_|refine zC fun _ _ _=>?_|refine zD fun _ _=>?_|refine zE ?_|refine zF ?_)
    exact Ev.ret ⟨rfl, by assumption⟩
end
end Go.AM.F
namespace Go.AM.F
open Go Go.AM Go.Proofs
attribute [local irreducible] run bin un ld st box newV mkS fldA fld ixA ix slc slc3 build buildS cv cvS ap cpy lenV gOp pickV b2 aIf aChk evalK resume iterD Option.bind

section
variable {B B0 H0 H : AH} {L : List (Nat × Blk)}
def tB (t : Nat) : List Value := (List.range 6).map fun i => u8 (t / 2 ^ (8 * (5 - i)) % 256)
theorem tB_len (t : Nat) : (tB t).length = 6 := by simp [tB]
theorem text_loop {hb b t : Nat} {rv mv : Value} (ht : t < 281474976710656) [IsCell rv] [IsCell mv] : ∀ (m i : Nat) (H : AH), i + m = 6 →
    St H0 B0 B ((b, ⟨(tB t).take i ++ List.replicate (72 - i) (.int .u8 0), 5, .fix⟩) :: (hb, ⟨[i64 t, rv, mv], 83, .fix⟩) :: L) H →
    Ev (fun k K => f71_L0 k (ptr hb 0) (sl b 0 72 72) (i64 i) K H) (fun o => ∃ H', o = (.exit 0, f71_X_L0 (ptr hb 0) (sl b 0 72 72), H') ∧
      St H0 B0 B ((b, ⟨tB t ++ List.replicate 66 (.int .u8 0), 5, .fix⟩) :: (hb, ⟨[i64 t, rv, mv], 83, .fix⟩) :: L) H') := by
  intro m
  induction m with
  | zero =>
    intro i H hi hS
    have : i = 6 := by omega
    subst this
    refine Ev.succ (fun k K => f71_L0_succ k _ _ _ K H) ?_
    repeat (first | (first|refine zA ?_|refine zB fun _ _ _=>?_|refine zC fun _ _ _=>?_|refine zD fun _ _=>?_|refine zE ?_|refine zF ?_) | rw [decide_eq_true (by omega)] | rw [decide_eq_false (by omega)])
    refine Ev.ret ⟨H, rfl, ?_⟩
    rw [List.take_of_length_le (by rw [tB_len]; decide)] at hS
    exact hS
  | succ m ih =>
    intro i H hi hS
    refine Ev.succ (fun k K => f71_L0_succ k _ _ _ K H) ?_
    repeat (first | (first|refine zA ?_|refine zB fun _ _ _=>?_|refine zC fun _ _ _=>?_|refine zD fun _ _=>?_|refine zE ?_|refine zF ?_) | rw [decide_eq_true (by omega)] | rw [decide_eq_false (by omega)])
    refine Ev.prim (shrN (show 8 * (5 - i) < IntKind.i64.bits by show _ < 64; omega)) ?_
    refine Ev.prim (toU8 (Und.eq (P := Tryz.prog) (t := 3)) (Und.eq (P := Tryz.prog) (t := 5))) ?_
    have hE : Elt Tryz.prog 63 5 (.int .u8 0) 1 := inferInstance
    refine Ev.prim (ixA_own hE (show i < 72 by omega)) ?_
    rw [Nat.zero_add]
    have hlen : ((tB t).take i ++ List.replicate (72 - i) (Value.int .u8 0)).length = 72 := by rw [List.length_append, List.length_take, tB_len, List.length_replicate]; omega
    refine Ev.st hS (.head _) (stK_own hE (by rw [hlen]; omega) rfl) rfl (.head _) fun H' hS' => ?_
    repeat (first | (first|refine zA ?_|refine zB fun _ _ _=>?_|refine zC fun _ _ _=>?_|refine zD fun _ _=>?_|refine zE ?_|refine zF ?_) | rw [decide_eq_true (by omega)] | rw [decide_eq_false (by omega)])
    refine ih (i + 1) H' (by omega) ?_
    have e : ((tB t).take i ++ List.replicate (72 - i) (Value.int .u8 0)).set i (u8 (t / 2 ^ (8 * (5 - i)) % 256)) = (tB t).take (i + 1) ++ List.replicate (72 - (i + 1)) (.int .u8 0) := by
      have h6 : (tB t)[i]? = some (u8 (t / 2 ^ (8 * (5 - i)) % 256)) := by unfold tB; rw [List.getElem?_map, List.getElem?_range (by omega)]; rfl
      rw [List.take_add_one, h6]
      have hl : ((tB t).take i).length = i := by rw [List.length_take, tB_len]; omega
      rw [List.set_append_right _ _ (by omega), hl, Nat.sub_self, show 72 - i = (72 - (i + 1)) + 1 by omega, List.replicate_succ]
      simp
    rw [e] at hS'
    exact hS'
theorem tB_bytes (t : Nat) : tB t = byts (turnB t) := by
  unfold tB turnB byts
  rw [List.map_map, List.map_map]
  apply List.map_congr_left
  intro i hi
  have hi : i < 6 := by simpa using hi
  show _ = u8 (UInt8.ofNat (t / 256 ^ (5 - i))).toNat
  rw [show (UInt8.ofNat (t / 256 ^ (5 - i))).toNat = t / 256 ^ (5 - i) % 256 from rfl, Nat.pow_mul]
theorem text_spec {t r mb : Nat} {U : List Int} (ht : t < 281474976710656) (hr : r < 65536) (hU : ∀ n ∈ U, 0 ≤ n ∧ n < 512) (hm : (mb, ⟨entI U, 81, .map⟩) ∈ L) (hS : St H0 B0 B L H) :
    Ev (fun k _ => rn k 71 [.agg #[i64 t, i64 r, .map (some mb)]] H) (fun o => o.1 = str (textH t (r : Int) U) ∧ ∃ B', MoC B B' ∧ St H0 B0 B' L o.2) := by
  refine Ev.fn (fun k => f71_eq k _ H) ?_
  repeat (first|refine zA ?_|refine zB fun _ _ _=>?_|refine zC fun _ _ _=>?_|refine zD fun _ _=>?_|refine zE ?_|refine zF ?_)
  rename_i hb H1 hS1
  have hE : Elt Tryz.prog 63 5 (.int .u8 0) 1 := inferInstance
  refine Ev.mkS (t := 63) (m := 72) inferInstance hS1 (by omega) (by omega) fun b B' H2 hm2 hS2 => ?_
  clear hS hS1
  refine Ev.bind (Ev.loop (text_loop ht 6 0 H2 rfl (by simpa using hS2))) ?_
  clear hS2
  rintro _ ⟨H3, rfl, hS3⟩
  refine Ev.eq (fun k _ => f71_A0_x0 k _ _ H3) ?_
  repeat (first|refine zA ?_|refine zB fun _ _ _=>?_|refine zC fun _ _ _=>?_|refine zD fun _ _=>?_|refine zE ?_|refine zF ?_)
  refine Ev.prim (shrL (by decide)) ?_
  refine Ev.prim (toU8 (Und.eq (P := Tryz.prog) (t := 3)) (Und.eq (P := Tryz.prog) (t := 5))) ?_
  repeat (first|refine zA ?_|refine zB fun _ _ _=>?_|refine zC fun _ _ _=>?_|refine zD fun _ _=>?_|refine zE ?_|refine zF ?_)
  refine Ev.prim (show ixA Tryz.prog 63 (sl b 0 72 72) (.int .i64 6) = some (ptr b 6) from ixA_own (i := 6) hE (by decide)) ?_
  refine Ev.st hS3 (.head _) (stK_own (i := 6) hE (by simp [tB_len]) rfl) rfl (.head _) fun H4 hS4 => ?_
  clear hS3
  repeat (first|refine zA ?_|refine zB fun _ _ _=>?_|refine zC fun _ _ _=>?_|refine zD fun _ _=>?_|refine zE ?_|refine zF ?_)
  refine Ev.prim (show ixA Tryz.prog 63 (sl b 0 72 72) (.int .i64 7) = some (ptr b 7) from ixA_own (i := 7) hE (by decide)) ?_
  refine Ev.st hS4 (.head _) (stK_own (i := 7) hE (by simp [tB_len]) rfl) rfl (.head _) fun H5 hS5 => ?_
  clear hS4
  have e : ((tB t ++ List.replicate 66 (Value.int .u8 0)).set 6 (u8 (r / 2 ^ 8 % 256))).set 7 (u8 (r % 256)) = (tB t ++ [u8 (r / 2 ^ 8 % 256), u8 (r % 256)]) ++ List.replicate 64 (.int .u8 0) := by
    rw [List.set_append_right _ _ (by rw [tB_len]; decide), tB_len, List.set_append_right _ _ (by rw [tB_len]; decide), tB_len, List.append_assoc]
    rfl
  rw [e] at hS5
  refine AM.Ev.gText (cs := tB t ++ [u8 (r / 2 ^ 8 % 256), u8 (r % 256)]) hS5 (.tail _ (.head _)) (.tail _ (.tail _ hm)) (.head _) (.head _) (by simp [tB_len]) hU fun H6 hS6 => ?_
  clear hS5
  have e2 : (tB t ++ [u8 (r / 2 ^ 8 % 256), u8 (r % 256)]) ++ bmV U = byts (textH t (r : Int) U) := by
    rw [tB_bytes, bmV_byts]
    unfold textH
    rw [byts_app, byts_app, List.append_assoc]
    congr 2
  rw [e2] at hS6
  refine Ev.prim (cvS_part (d := 9) (bs := textH t (r : Int) U) hS6 (.head _) (by omega) (by rw [textH_len]; omega)) ?_
  rw [List.drop_zero, List.take_of_length_le (by rw [textH_len]; exact Nat.le_refl _)]
  exact Ev.ret ⟨rfl, B', ⟨hm2⟩, hS6.drop1.drop1⟩
theorem hwrite_spec {dv : Value} {D : Dsk} {Ls : List (Nat × Blk)} {t r mb : Nat} {U : List Int} (hD : DK dv D Ls) (hO : D.OK) (hc : D.cache.length + 1 < 1000000000000) (ht : t < 281474976710656) (hr : r < 65536) (hU : ∀ n ∈ U, 0 ≤ n ∧ n < 512) (hm : (mb, ⟨entI U, 81, .map⟩) ∈ L) (hS : St H0 B0 B (Ls ++ L) H) :
    Ev (fun k _ => rn k 53 [.agg #[i64 t, i64 r, .map (some mb)], dv] H) (DkP H0 B0 B L dv (.int .i64 (hwrite D t (r : Int) U).1) (hwrite D t (r : Int) U).2) := by
  refine Ev.fn (fun k => f53_eq k _ _ H) ?_
  repeat (first|refine zA ?_|refine zB fun _ _ _=>?_|refine zC fun _ _ _=>?_|refine zD fun _ _=>?_|refine zE ?_|refine zF ?_)
  rename_i hb H1 hS1
  clear hS
  refine Ev.b2 (text_spec ht hr hU (.tail _ (List.mem_append_right _ hm)) hS1) ?_
  rintro _ H2 ⟨rfl, B2, hm2, hS2⟩
  dsimp only at hS2
  clear hS1
  repeat (first|refine zA ?_|refine zB fun _ _ _=>?_|refine zC fun _ _ _=>?_|refine zD fun _ _=>?_|refine zE ?_|refine zF ?_)
  have hS3 : St H0 B0 B2 (Ls ++ ((hb, _) :: L)) H2 := hS2.perm (List.perm_middle)
  refine Ev.b2 (pWrite_spec (n := ((t % 2 : Nat) : Int)) (kind := 1) hD hO hc (by rw [textH_len]; decide) (by decide) hS3) ?_
  rintro _ H3 ⟨rfl, Ls3, B3, hm3, hD3, hS4⟩
  dsimp only at hS4
  refine Ev.ret ⟨rfl, Ls3, B3, ⟨hm2.mo.trans hm3.mo⟩, hD3, ?_⟩
  exact (hS4.perm (List.perm_middle).symm).drop1
end
end Go.AM.F
namespace Go.AM
def boolC (U : List Int) (m : Nat) : List Value := (List.range m).map fun (n : Nat) => .bool (decide ((n : Int) ∈ U))
theorem boolC_len (U : List Int) (m : Nat) : (boolC U m).length = m := by simp [boolC]
theorem boolC_at {U : List Int} {i m : Nat} (h : i < m) : (boolC U m)[i]? = some (.bool (decide ((i : Int) ∈ U))) := by
  unfold boolC; rw [List.getElem?_map, List.getElem?_range h]; rfl
theorem boolC_set {U : List Int} {i m : Nat} (h : i < m) : (boolC U m).set i (.bool true) = boolC (insI U i) m := by
  apply List.ext_getElem?
  intro j
  rw [List.getElem?_set, boolC_len]
  by_cases hj : j < m
  · rw [boolC_at hj, boolC_at hj]
    by_cases he : i = j
    · subst he
      rw [if_pos rfl, if_pos h, decide_eq_true (insI_mem.2 (.inl rfl))]
    · rw [if_neg he]
      congr 2
      apply decide_eq_decide.2
      rw [insI_mem]
      constructor
      · exact .inr
      · rintro (h1 | h1)
        · omega
        · exact h1
  · rw [List.getElem?_eq_none (l := boolC (insI U i) m) (by rw [boolC_len]; omega)]
    by_cases he : i = j
    · omega
    · rw [if_neg he, List.getElem?_eq_none (by rw [boolC_len]; omega)]
theorem boolC_nil (m : Nat) : boolC [] m = List.replicate m (.bool false) := by
  unfold boolC
  rw [show (fun (n : Nat) => Value.bool (decide ((n : Int) ∈ ([] : List Int)))) = fun _ => .bool false by funext n; simp]
  rw [List.map_const', List.length_range]
def usedT (U : List Int) : Nat → List Int
  | 0 => []
  | k + 1 => if (k : Int) ∈ U then (k : Int) :: usedT U k else usedT U k
theorem usedT_mem {U : List Int} {x : Int} : ∀ k, x ∈ usedT U k ↔ x ∈ U ∧ 0 ≤ x ∧ x < k
  | 0 => by
    constructor
    · intro h; cases h
    · rintro ⟨_, h1, h2⟩; omega
  | k + 1 => by
    unfold usedT
    split
    · rename_i h
      rw [List.mem_cons, usedT_mem k]
      constructor
      · rintro (rfl | h1)
        · exact ⟨h, by omega, by omega⟩
        · exact ⟨h1.1, h1.2.1, by omega⟩
      · rintro ⟨h1, h2, h3⟩
        by_cases he : x = (k : Int)
        · exact .inl he
        · exact .inr ⟨h1, h2, by omega⟩
    · rename_i h
      rw [usedT_mem k]
      constructor
      · rintro ⟨h1, h2, h3⟩; exact ⟨h1, h2, by omega⟩
      · rintro ⟨h1, h2, h3⟩
        refine ⟨h1, h2, ?_⟩
        by_cases he : x = (k : Int)
        · rw [he] at h1; exact absurd h1 h
        · omega
theorem usedT_bmL {U : List Int} {m : Nat} (hU : ∀ n ∈ U, 0 ≤ n ∧ n < m) : bmL (usedT U m) = bmL U := by
  unfold bmL
  apply List.map_congr_left
  intro j _
  rw [bm_congr (T := U) fun n => (usedT_mem m).trans ⟨fun h => h.1, fun h => ⟨h, hU n h⟩⟩]
theorem orU8 {P : Program} {t : TypeId} {a b : Nat} (ha : a < 256) (hb : b < 256) : bin P .or t (u8 a) (u8 b) = some (u8 (a ||| b)) := by
  rw [bin_or]
  congr 2
  rw [BitVec.toNat_or]
  have e1 : (BitVec.ofInt IntKind.u8.bits (a : Int)).toNat = a := by
    show (BitVec.ofInt 8 _).toNat = _
    rw [BitVec.toNat_ofInt]; omega
  have e2 : (BitVec.ofInt IntKind.u8.bits (b : Int)).toNat = b := by
    show (BitVec.ofInt 8 _).toNat = _
    rw [BitVec.toNat_ofInt]; omega
  rw [e1, e2, wrapu8]
  have : a ||| b < 2 ^ 8 := Nat.or_lt_two_pow (n := 8) ha hb
  omega
def UK (e : TypeId) (v : Value) (cs : List Value) (Lx : List (Nat × Blk)) : Prop :=
  ∃ b kd cap, v = sl b 0 cs.length cap ∧ cs.length ≤ cap ∧ (kd = .grow ∨ kd = .fix) ∧ Lx = [(b, ⟨cs, e, kd⟩)]
section
variable {P : Program} {R : Type} {e t : TypeId} {v : Value} {cs : List Value} {Lx : List (Nat × Blk)} {H0 B0 B H : AH} {L : List (Nat × Blk)}
theorem UK.cell (h : UK e v cs Lx) : IsCell v := by obtain ⟨b, kd, cap, rfl, _⟩ := h; exact inferInstance
theorem UK.len {e' : TypeId} (hU : P.underlying t = some (.slice e')) (h : UK e v cs Lx) : lenV P t v = some (i64 cs.length) := by obtain ⟨b, kd, cap, rfl, _⟩ := h; exact lenV_sl hU
theorem UK.now {Ly : List (Nat × Blk)} (h : UK e v cs Lx) (hS : St H0 B0 B Ly H) (hsub : ∀ p ∈ Lx, p ∈ Ly) : ScN H v cs.length 1 cs := by
  obtain ⟨b, kd, cap, rfl, h2, _, rfl⟩ := h
  refine .inr ⟨b, 0, cap, rfl, h2, by simp, .inr ⟨_, hS.get (hsub _ (List.mem_singleton.2 rfl)), ?_⟩⟩
  unfold rdN
  rw [if_pos (by simp), List.drop_zero, Nat.mul_one, List.take_length]
theorem UK.store {w z : Value} {by_ i : Nat} [hE : Elt P t e z by_] (h : UK e v cs Lx) (hS : St H0 B0 B (Lx ++ L) H) (hi : i < cs.length) (hw : isCell w = true) :
    ∃ p H' Lx', (∀ k : IntKind, ixA P t v (.int k (i : Int)) = some p) ∧ Go.AM.st P e H p w = some H' ∧ UK e v (cs.set i w) Lx' ∧ St H0 B0 B (Lx' ++ L) H' := by
  obtain ⟨b, kd, cap, rfl, h2, hk, rfl⟩ := h
  have hst : stK P e cs i w = some (cs.set i w) := by
    unfold stK
    rw [hE.A]
    dsimp only
    rw [if_pos ⟨hE.S, hi, hw⟩]
  refine ⟨ptr b i, _, [(b, ⟨cs.set i w, e, kd⟩)], fun k => ?_, st_blk (hS.get (.head _)) (by rcases hk with rfl | rfl <;> rfl) hst, ⟨b, kd, cap, by rw [List.length_set], by rw [List.length_set]; exact h2, hk, rfl⟩, hS.put (.head _)⟩
  unfold ixA sl
  rw [hE.U]
  dsimp only
  rw [if_pos ⟨hE.I, by omega, by omega⟩, hE.S, Int.toNat_natCast, Nat.mul_one, Nat.zero_add]
end
theorem Dsk.write_n (D : Dsk) (i : Int) (s : List UInt8) : (D.write i s).2.n = D.n := by
  unfold Dsk.write
  split
  · rfl
  · split
    · rfl
    · unfold Dsk.act; split <;> rfl
theorem Dsk.barrier_n (D : Dsk) : D.barrier.2.n = D.n := by
  unfold Dsk.barrier
  split
  · rfl
  · unfold Dsk.act; split <;> rfl
theorem Dsk.pwrite_n (D : Dsk) (n kind : Int) (t : List UInt8) : (D.pwrite n kind t).2.n = D.n := by
  unfold Dsk.pwrite
  split
  · rfl
  · split
    · exact Dsk.write_n _ _ _
    · rw [Dsk.write_n, Dsk.write_n]
theorem hwrite_n (D : Dsk) (t : Nat) (r : Int) (U : List Int) : (hwrite D t r U).2.n = D.n := Dsk.pwrite_n _ _ _ _
end Go.AM
namespace Go.AM.F
open Go Go.AM Go.Proofs
attribute [local irreducible] run bin un ld st box newV mkS fldA fld ixA ix slc slc3 build buildS cv cvS ap cpy lenV gOp pickV b2 aIf aChk evalK resume iterD Option.bind

section
variable {B B0 H0 H : AH} {L : List (Nat × Blk)}
theorem xmany_spec {p : Value} {D : Dsk} {Ls Lx : List (Nat × Blk)} (hD : XK p D Ls) (hO : D.OK) (hS : St H0 B0 B Lx H) (hsub : ∀ x ∈ Ls, x ∈ Lx) : Ev (fun k _ => rn k 56 [p] H) (fun r => r = (i64 (D.n / 2), H)) := by
  obtain ⟨x, sv, cv, fx, Ls1, Lc, rfl, hfx, hf1, hG1, hG2, rfl⟩ := hD
  have hcell1 := hG1.cell
  have hcell2 := hG2.cell
  have h2 := hO.n2
  have hls := hG1.len (Und.eq (P := Tryz.prog) (t := 22))
  rw [List.length_map, secsB_len] at hls
  have hxm : InL x ⟨[sv, cv, .int .i64 fx, .bool D.down], 36, .fix⟩ Lx := ⟨hsub _ (.head _)⟩
  refine Ev.fn (fun k => f56_eq k _ H) ?_
  repeat (first|refine zA ?_|refine zB fun _ _ _=>?_|refine zC fun _ _ _=>?_|refine zD fun _ _=>?_|refine zE ?_|refine zF ?_)
  refine Ev.prim hls ?_
  repeat (first | (first|refine zA ?_|refine zB fun _ _ _=>?_|refine zC fun _ _ _=>?_|refine zD fun _ _=>?_|refine zE ?_|refine zF ?_) | rw [decide_eq_true (by omega)] | rw [decide_eq_false (by omega)])
  exact Ev.ret rfl
theorem rtext_loop0 {b t : Nat} {rv uv : Value} : ∀ (m i : Nat) (H : AH), i + m = 6 →
    St H0 B0 B ((b, ⟨List.replicate (6 - i) (.int .u8 0) ++ ((tB t).drop (6 - i) ++ List.replicate 66 (.int .u8 0)), 5, .fix⟩) :: L) H →
    Ev (fun k K => f57_L0 k (i64 t) rv uv (sl b 0 72 72) (i64 i) K H) (fun o => ∃ H', o = (.exit 0, f57_X_L0 rv uv (sl b 0 72 72), H') ∧ St H0 B0 B ((b, ⟨tB t ++ List.replicate 66 (.int .u8 0), 5, .fix⟩) :: L) H') := by
  intro m
  induction m with
  | zero =>
    intro i H hi hS
    have : i = 6 := by omega
    subst this
    refine Ev.succ (fun k K => f57_L0_succ k _ _ _ _ _ K H) ?_
    repeat (first | (first|refine zA ?_|refine zB fun _ _ _=>?_|refine zC fun _ _ _=>?_|refine zD fun _ _=>?_|refine zE ?_|refine zF ?_) | rw [decide_eq_true (by omega)] | rw [decide_eq_false (by omega)])
    exact Ev.ret ⟨H, rfl, hS⟩
  | succ m ih =>
    intro i H hi hS
    refine Ev.succ (fun k K => f57_L0_succ k _ _ _ _ _ K H) ?_
    repeat (first | (first|refine zA ?_|refine zB fun _ _ _=>?_|refine zC fun _ _ _=>?_|refine zD fun _ _=>?_|refine zE ?_|refine zF ?_) | rw [decide_eq_true (by omega)] | rw [decide_eq_false (by omega)])
    refine Ev.prim (shrN (show 8 * i < IntKind.i64.bits by show 8 * i < 64; omega)) ?_
    refine Ev.prim (toU8 (Und.eq (P := Tryz.prog) (t := 3)) (Und.eq (P := Tryz.prog) (t := 5))) ?_
    have hE : Elt Tryz.prog 63 5 (.int .u8 0) 1 := inferInstance
    refine Ev.prim (ixA_own (i := 5 - i) hE (by omega)) ?_
    rw [Nat.zero_add]
    refine Ev.st hS (.head _) (stK_own (i := 5 - i) hE (by simp [tB_len]; omega) rfl) rfl (.head _) fun H' hS' => ?_
    have h6 : (tB t)[5 - i]? = some (u8 (t / 2 ^ (8 * i) % 256)) := by
      unfold tB
      rw [List.getElem?_map, List.getElem?_range (by omega)]
      show some (u8 (t / 2 ^ (8 * (5 - (5 - i))) % 256)) = _
      rw [show 5 - (5 - i) = i by omega]
    have hd : (tB t).drop (5 - i) = u8 (t / 2 ^ (8 * i) % 256) :: (tB t).drop (6 - i) := by
      have h1 := List.getElem?_eq_some_iff.1 h6
      rw [show 6 - i = 5 - i + 1 by omega, ← h1.2]
      exact List.drop_eq_getElem_cons h1.1
    have e : (List.replicate (6 - i) (Value.int .u8 0) ++ ((tB t).drop (6 - i) ++ List.replicate 66 (Value.int .u8 0))).set (5 - i) (u8 (t / 2 ^ (8 * i) % 256)) = List.replicate (6 - (i + 1)) (.int .u8 0) ++ ((tB t).drop (6 - (i + 1)) ++ List.replicate 66 (.int .u8 0)) := by
      rw [show 6 - (i + 1) = 5 - i by omega, hd]
      generalize (tB t).drop (6 - i) = z
      rw [show 6 - i = (5 - i) + 1 by omega, List.replicate_succ', List.append_assoc, List.set_append_right _ _ (by rw [List.length_replicate]; exact Nat.le_refl _), List.length_replicate, Nat.sub_self]
      rfl
    rw [e] at hS'
    repeat (first | (first|refine zA ?_|refine zB fun _ _ _=>?_|refine zC fun _ _ _=>?_|refine zD fun _ _=>?_|refine zE ?_|refine zF ?_) | rw [decide_eq_true (by omega)] | rw [decide_eq_false (by omega)])
    exact ih (i + 1) H' (by omega) hS'
theorem rtext_loop1 {b m : Nat} {uv : Value} {U : List Int} {hd : List Value} {Lu : List (Nat × Blk)} (hhd : hd.length = 8) (hm : m ≤ 512) (hK : UK 4 uv (boolC U m) Lu) (hsub : ∀ x ∈ Lu, x ∈ L) : ∀ (q i : Nat) (H : AH), i + q = m →
    St H0 B0 B ((b, ⟨hd ++ bmV (usedT U i), 5, .fix⟩) :: L) H →
    Ev (fun k K => f57_L1 k uv (sl b 0 72 72) (i64 i) K H) (fun o => ∃ H', o = (.exit 2, f57_X_L1 (sl b 0 72 72), H') ∧ St H0 B0 B ((b, ⟨hd ++ bmV (usedT U m), 5, .fix⟩) :: L) H') := by
  intro q
  have hlu := hK.len (Und.eq (P := Tryz.prog) (t := 74))
  rw [boolC_len] at hlu
  induction q with
  | zero =>
    intro i H hi hS
    have : i = m := by omega
    subst this
    refine Ev.succ (fun k K => f57_L1_succ k _ _ _ K H) ?_
    refine Ev.prim hlu ?_
    repeat (first | (first|refine zA ?_|refine zB fun _ _ _=>?_|refine zC fun _ _ _=>?_|refine zD fun _ _=>?_|refine zE ?_|refine zF ?_) | rw [decide_eq_true (by omega)] | rw [decide_eq_false (by omega)])
    exact Ev.ret ⟨H, rfl, hS⟩
  | succ q ih =>
    intro i H hi hS
    have hm8 := Nat.mod_lt i (show 0 < 8 by decide)
    refine Ev.succ (fun k K => f57_L1_succ k _ _ _ K H) ?_
    refine Ev.prim hlu ?_
    repeat (first | (first|refine zA ?_|refine zB fun _ _ _=>?_|refine zC fun _ _ _=>?_|refine zD fun _ _=>?_|refine zE ?_|refine zF ?_) | rw [decide_eq_true (by omega)] | rw [decide_eq_false (by omega)])
    have hN := hK.now hS (fun x hx => .tail _ (hsub x hx))
    rw [boolC_len] at hN
    refine Ev.ixN (t := 74) hN i rfl (by omega) (boolC_at (by omega)) fun pp hp => ?_
    refine Ev.prim (hp.eq H (Mo.refl H)) ?_
    by_cases hu : (i : Int) ∈ U
    case neg =>
      rw [decide_eq_false hu]
      repeat (first | (first|refine zA ?_|refine zB fun _ _ _=>?_|refine zC fun _ _ _=>?_|refine zD fun _ _=>?_|refine zE ?_|refine zF ?_) | rw [decide_eq_true (by omega)] | rw [decide_eq_false (by omega)])
      refine ih (i + 1) H (by omega) ?_
      rw [show usedT U (i + 1) = usedT U i from if_neg hu]
      exact hS
    rw [decide_eq_true hu]
    repeat (first | (first|refine zA ?_|refine zB fun _ _ _=>?_|refine zC fun _ _ _=>?_|refine zD fun _ _=>?_|refine zE ?_|refine zF ?_) | rw [decide_eq_true (by omega)] | rw [decide_eq_false (by omega)])
    have hE : Elt Tryz.prog 63 5 (.int .u8 0) 1 := inferInstance
    have hget : (hd ++ bmV (usedT U i))[8 + i / 8]? = some (u8 (bm (usedT U i) (i / 8))) := by
      rw [List.getElem?_append_right (by omega), hhd, Nat.add_sub_cancel_left, bmV_at _ (by omega)]
    refine Ev.prim ((ld_blk (hS.get (.head _))).trans ((ldK_own hE).trans hget)) ?_
    repeat (first | (first|refine zA ?_|refine zB fun _ _ _=>?_|refine zC fun _ _ _=>?_|refine zD fun _ _=>?_|refine zE ?_|refine zF ?_) | rw [decide_eq_true (by omega)] | rw [decide_eq_false (by omega)])
    refine Ev.prim (shl1 hm8) ?_
    have h2 : 2 ^ (i % 8) < 256 := Nat.pow_lt_pow_right (by decide) (m := i % 8) (n := 8) hm8
    refine Ev.prim (orU8 (bm_lt _ _) h2) ?_
    refine Ev.prim (ixA_own (i := 8 + i / 8) hE (by omega)) ?_
    rw [Nat.zero_add]
    refine Ev.st hS (.head _) (stK_own (i := 8 + i / 8) hE (by rw [List.length_append, hhd, bmV_len]; omega) rfl) rfl (.head _) fun H' hS' => ?_
    have e : (hd ++ bmV (usedT U i)).set (8 + i / 8) (u8 (bm (usedT U i) (i / 8) ||| 2 ^ (i % 8))) = hd ++ bmV (usedT U (i + 1)) := by
      rw [List.set_append_right _ _ (by omega), hhd, Nat.add_sub_cancel_left, show usedT U (i + 1) = (i : Int) :: usedT U i from if_pos hu, bmV_cons (n := (i : Int)) (by rw [Int.toNat_natCast]; omega), Int.toNat_natCast]
    rw [e] at hS'
    clear hS hN
    repeat (first | (first|refine zA ?_|refine zB fun _ _ _=>?_|refine zC fun _ _ _=>?_|refine zD fun _ _=>?_|refine zE ?_|refine zF ?_) | rw [decide_eq_true (by omega)] | rw [decide_eq_false (by omega)])
    exact ih (i + 1) H' (by omega) hS'
theorem rtext_spec {t r m : Nat} {uv : Value} {U : List Int} {Lu : List (Nat × Blk)} (hr : r < 9223372036854775808) (hm : m ≤ 512) (hU : ∀ n ∈ U, 0 ≤ n ∧ n < m) (hK : UK 4 uv (boolC U m) Lu) (hS : St H0 B0 B L H) (hsub : ∀ x ∈ Lu, x ∈ L) :
    Ev (fun k _ => rn k 57 [i64 t, i64 r, uv] H) (fun o => o.1 = str (textH t (r : Int) U) ∧ ∃ B', MoC B B' ∧ St H0 B0 B' L o.2) := by
  refine Ev.fn (fun k => f57_eq k _ _ _ H) ?_
  have hE : Elt Tryz.prog 63 5 (.int .u8 0) 1 := inferInstance
  refine Ev.mkS (t := 63) (m := 72) inferInstance hS (by omega) (by omega) fun b B' H2 hm2 hS2 => ?_
  clear hS
  have hS2' : St H0 B0 B' ((b, ⟨List.replicate (6 - 0) (.int .u8 0) ++ ((tB t).drop (6 - 0) ++ List.replicate 66 (.int .u8 0)), 5, .fix⟩) :: L) H2 := by
    rw [List.drop_of_length_le (by rw [tB_len]; decide)]
    exact hS2
  refine Ev.bind (Ev.loop (rtext_loop0 6 0 H2 rfl hS2')) ?_
  clear hS2 hS2'
  rintro _ ⟨H3, rfl, hS3⟩
  refine Ev.eq (fun k _ => f57_A0_x0 k _ _ _ H3) ?_
  refine Ev.prim (shrL (by decide)) ?_
  refine Ev.prim (toU8 (Und.eq (P := Tryz.prog) (t := 3)) (Und.eq (P := Tryz.prog) (t := 5))) ?_
  refine Ev.prim (show ixA Tryz.prog 63 (sl b 0 72 72) (.int .i64 6) = some (ptr b 6) from ixA_own (i := 6) hE (by decide)) ?_
  refine Ev.st hS3 (.head _) (stK_own (i := 6) hE (by simp [tB_len]) rfl) rfl (.head _) fun H4 hS4 => ?_
  clear hS3
  repeat (first|refine zA ?_|refine zB fun _ _ _=>?_|refine zC fun _ _ _=>?_|refine zD fun _ _=>?_|refine zE ?_|refine zF ?_)
  refine Ev.prim (show ixA Tryz.prog 63 (sl b 0 72 72) (.int .i64 7) = some (ptr b 7) from ixA_own (i := 7) hE (by decide)) ?_
  refine Ev.st hS4 (.head _) (stK_own (i := 7) hE (by simp [tB_len]) rfl) rfl (.head _) fun H5 hS5 => ?_
  clear hS4
  have e : ((tB t ++ List.replicate 66 (Value.int .u8 0)).set 6 (u8 (r / 2 ^ 8 % 256))).set 7 (u8 (r % 256)) = (tB t ++ [u8 (r / 2 ^ 8 % 256), u8 (r % 256)]) ++ bmV (usedT U 0) := by
    rw [List.set_append_right _ _ (by rw [tB_len]; decide), tB_len, List.set_append_right _ _ (by rw [tB_len]; decide), tB_len, List.append_assoc, show usedT U 0 = [] from rfl, bmV_nil]
    rfl
  rw [e] at hS5
  refine Ev.bind (Ev.loop (rtext_loop1 (hd := tB t ++ [u8 (r / 2 ^ 8 % 256), u8 (r % 256)]) (by simp [tB_len]) hm hK hsub m 0 H5 (by omega) hS5)) ?_
  clear hS5
  rintro _ ⟨H6, rfl, hS6⟩
  refine Ev.eq (fun k _ => f57_A1_x2 k _ H6) ?_
  have e2 : (tB t ++ [u8 (r / 2 ^ 8 % 256), u8 (r % 256)]) ++ bmV (usedT U m) = byts (textH t (r : Int) U) := by
    rw [tB_bytes, bmV_byts, usedT_bmL hU]
    unfold textH
    rw [byts_app, byts_app, List.append_assoc]
    congr 2
  rw [e2] at hS6
  refine Ev.prim (cvS_part (d := 9) (bs := textH t (r : Int) U) hS6 (.head _) (by omega) (by rw [textH_len]; omega)) ?_
  rw [List.drop_zero, List.take_of_length_le (by rw [textH_len]; exact Nat.le_refl _)]
  exact Ev.ret ⟨rfl, B', ⟨hm2⟩, hS6.drop1⟩
theorem rhas_spec {v : Value} {l : List Int} {x : Int} (hl : l.length < 1000000000000) (hN : ScN H v l.length 1 (intV l)) (hlv : lenV Tryz.prog 51 v = some (i64 l.length)) : Ev (fun k _ => rn k 43 [v, .int .i64 x] H) (fun r => r = (.bool (decide (x ∈ l)), H)) := by
  refine Ev.fn (fun k => f43_eq k _ _ H) ?_
  have key : ∀ (m i : Nat), i + m = l.length → Ev (fun k K => f43_L0 k v (.int .i64 x) (i64 i) K H) (fun o => (x ∈ l.drop i ∧ o = (.ret, f43_X_L0 (.bool true), H)) ∨ (x ∉ l.drop i ∧ o = (.exit 0, f43_X_L0 unk, H))) := by
    intro m
    induction m with
    | zero =>
      intro i hi
      refine Ev.succ (fun k K => f43_L0_succ k _ _ _ K H) ?_
      refine Ev.prim hlv ?_
      repeat (first | (first|refine zA ?_|refine zB fun _ _ _=>?_|refine zC fun _ _ _=>?_|refine zD fun _ _=>?_|refine zE ?_|refine zF ?_) | rw [decide_eq_true (by omega)] | rw [decide_eq_false (by omega)])
      exact Ev.ret (.inr ⟨by rw [List.drop_of_length_le (by omega)]; exact List.not_mem_nil, rfl⟩)
    | succ m ih =>
      intro i hi
      refine Ev.succ (fun k K => f43_L0_succ k _ _ _ K H) ?_
      refine Ev.prim hlv ?_
      repeat (first | (first|refine zA ?_|refine zB fun _ _ _=>?_|refine zC fun _ _ _=>?_|refine zD fun _ _=>?_|refine zE ?_|refine zF ?_) | rw [decide_eq_true (by omega)] | rw [decide_eq_false (by omega)])
      obtain ⟨y, hy⟩ : ∃ y, l[i]? = some y := ⟨_, List.getElem?_eq_getElem (by omega)⟩
      have hd : l.drop i = y :: l.drop (i + 1) := by
        have h1 := List.getElem?_eq_some_iff.1 hy
        rw [← h1.2]; exact List.drop_eq_getElem_cons h1.1
      refine Ev.ixN (t := 51) (x := .int .i64 y) hN i rfl (by omega) (by unfold intV; rw [List.getElem?_map, hy]; rfl) fun pp hp => ?_
      refine Ev.prim (hp.eq H (Mo.refl H)) ?_
      repeat (first|refine zA ?_|refine zB fun _ _ _=>?_|refine zC fun _ _ _=>?_|refine zD fun _ _=>?_|refine zE ?_|refine zF ?_)
      rw [hd]
      by_cases hyx : y = x
      · rw [decide_eq_true hyx]
        repeat (first|refine zA ?_|refine zB fun _ _ _=>?_|refine zC fun _ _ _=>?_|refine zD fun _ _=>?_|refine zE ?_|refine zF ?_)
        exact Ev.ret (.inl ⟨by rw [hyx]; exact .head _, rfl⟩)
      · rw [decide_eq_false hyx]
        repeat (first | (first|refine zA ?_|refine zB fun _ _ _=>?_|refine zC fun _ _ _=>?_|refine zD fun _ _=>?_|refine zE ?_|refine zF ?_) | rw [decide_eq_true (by omega)] | rw [decide_eq_false (by omega)])
        refine (ih (i + 1) (by omega)).mono ?_
        rintro o (⟨h, e⟩ | ⟨h, e⟩)
        · exact .inl ⟨.tail _ h, e⟩
        · exact .inr ⟨fun hh => by rcases List.mem_cons.1 hh with h2 | h2; exact hyx h2.symm; exact h h2, e⟩
  refine Ev.bind (Ev.loop (key l.length 0 (by omega))) ?_
  rintro _ (⟨h, rfl⟩ | ⟨h, rfl⟩)
  · rw [List.drop_zero] at h
    refine Ev.eq (fun k _ => f43_A0_ret k _ H) ?_
    rw [decide_eq_true h]
    exact Ev.ret rfl
  · rw [List.drop_zero] at h
    refine Ev.eq (fun k _ => f43_A0_x0 k _ H) ?_
    rw [decide_eq_false h]
    exact Ev.ret rfl
theorem rhasF_spec {v : Value} {l : List Int} {x : Int} {Lf Lx : List (Nat × Blk)} (hF : FR v l Lf) (hl : l.length < 1000000000000) (hS : St H0 B0 B Lx H) (hsub : ∀ p ∈ Lf, p ∈ Lx) : Ev (fun k _ => rn k 43 [v, .int .i64 x] H) (fun r => r = (.bool (decide (x ∈ l)), H)) :=
  rhas_spec hl (hF.now hS hsub) (hF.len (Und.eq (P := Tryz.prog) (t := 51)))
theorem rtold_spec {rb : Nat} {c0 c1 c2 c3 c4 : Value} {gn : Bool} {e : Int} [IsCell c0] [IsCell c1] [IsCell c2] [IsCell c3] [IsCell c4] (hS : St H0 B0 B ((rb, ⟨[c0, c1, c2, c3, c4, .bool gn], 76, .fix⟩) :: L) H) :
    Ev (fun k _ => rn k 46 [ptr rb 0, .int .i64 e] H) (fun r => r.1 = .int .i64 e ∧ St H0 B0 B ((rb, ⟨[c0, c1, c2, c3, c4, .bool (gn || decide (e = 7))], 76, .fix⟩) :: L) r.2) := by
  refine Ev.fn (fun k => f46_eq k _ _ H) ?_
  repeat (first|refine zA ?_|refine zB fun _ _ _=>?_|refine zC fun _ _ _=>?_|refine zD fun _ _=>?_|refine zE ?_|refine zF ?_)
  by_cases he : e = 7
  · rw [decide_eq_true he, Bool.or_true]
    repeat (first|refine zA ?_|refine zB fun _ _ _=>?_|refine zC fun _ _ _=>?_|refine zD fun _ _=>?_|refine zE ?_|refine zF ?_)
    rename_i H1 hS1
    refine Ev.eq (fun k _ => f46_J0_eq k _ H1) ?_
    exact Ev.ret ⟨rfl, hS1⟩
  · rw [decide_eq_false he, Bool.or_false]
    repeat (first|refine zA ?_|refine zB fun _ _ _=>?_|refine zC fun _ _ _=>?_|refine zD fun _ _=>?_|refine zE ?_|refine zF ?_)
    refine Ev.eq (fun k _ => f46_J0_eq k _ H) ?_
    exact Ev.ret ⟨rfl, hS⟩
end
end Go.AM.F
namespace Go.AM.F
open Go Go.AM Go.Proofs
attribute [local irreducible] run bin un ld st box newV mkS fldA fld ixA ix slc slc3 build buildS cv cvS ap cpy lenV gOp pickV b2 aIf aChk evalK resume iterD Option.bind

section
variable {B B0 H0 H : AH} {L : List (Nat × Blk)}
def RK (p xv : Value) (G : Pgr) (D : Dsk) (Ls : List (Nat × Blk)) : Prop := ∃ rb uv fv Lu Lf Ld, p = ptr rb 0 ∧ XK xv D Ld ∧ UK 4 uv (boolC G.used (D.n / 2)) Lu ∧ FR fv G.fresh Lf ∧
  Ls = (rb, ⟨[xv, i64 G.turn, .int .i64 G.root, uv, fv, .bool G.down], 76, .fix⟩) :: (Lu ++ (Lf ++ Ld))
theorem RK.ptr {p xv : Value} {G : Pgr} {D : Dsk} {Ls : List (Nat × Blk)} (h : RK p xv G D Ls) : ∃ b, p = ptr b 0 := by obtain ⟨rb, _, _, _, _, _, hp, _⟩ := h; exact ⟨rb, hp⟩
def RgP (H0 B0 B : AH) (L : List (Nat × Blk)) (p xv v : Value) (G : Pgr) (D : Dsk) (r : Value × AH) : Prop := r.1 = v ∧ ∃ Ls B', MoC B B' ∧ RK p xv G D Ls ∧ St H0 B0 B' (Ls ++ L) r.2
theorem rBack_spec {p xv : Value} {G : Pgr} {D : Dsk} {Ls : List (Nat × Blk)} {many : Int} (hP : RK p xv G D Ls) (hl : G.fresh.length < 100000) (hS : St H0 B0 B (Ls ++ L) H) :
    Ev (fun k _ => rn k 30 [p, .int .i64 many] H) (RgP H0 B0 B L p xv (.tuple #[]) (G.back many) D) := by
  obtain ⟨rb, uv, fv, Lu, Lf, Ld, rfl, hD, hK, hF, rfl⟩ := hP
  obtain ⟨d, rfl⟩ := hD.ptr
  have hcu := hK.cell
  have hcell := hF.cell
  simp only [List.cons_append] at hS
  refine Ev.fn (fun k => f30_eq k _ _ H) ?_
  repeat (first|refine zA ?_|refine zB fun _ _ _=>?_|refine zC fun _ _ _=>?_|refine zD fun _ _=>?_|refine zE ?_|refine zF ?_)
  refine Ev.prim (hF.len (Und.eq (P := Tryz.prog) (t := 51))) ?_
  refine Ev.prim (show fold1 minV [.int .i64 (if 0 > many then 0 else many), i64 G.fresh.length] = some (.int .i64 ((min many.toNat G.fresh.length : Nat) : Int)) from by
    rw [min_int]; congr 2; split <;> omega) ?_
  obtain ⟨fv', q1, q2⟩ := hF.back eltI (j := min many.toNat G.fresh.length) (Nat.min_le_right _ _)
  have hcell' := q2.cell
  refine Ev.prim q1 ?_
  repeat (first|refine zA ?_|refine zB fun _ _ _=>?_|refine zC fun _ _ _=>?_|refine zD fun _ _=>?_|refine zE ?_|refine zF ?_)
  have e : G.fresh.take (min many.toNat G.fresh.length) = G.fresh.take many.toNat := by
    rcases Nat.le_total many.toNat G.fresh.length with h | h
    · rw [Nat.min_eq_left h]
    · rw [Nat.min_eq_right h, List.take_length, List.take_of_length_le h]
  rw [e] at q2
  exact Ev.ret ⟨rfl, _, B, ⟨Mo.refl B⟩, ⟨rb, uv, fv', Lu, Lf, Ld, rfl, hD, hK, q2, rfl⟩, by assumption⟩
theorem rAlloc_loop {rb d m : Nat} {fv tv rv uv : Value} {Lu Lf Lr : List (Nat × Blk)} {U F : List Int} [IsCell tv] [IsCell rv] (hK : UK 4 uv (boolC U m) Lu) (hF : FR fv F Lf) (hl : F.length < 100000) (hm : m ≤ 512) : ∀ (q i : Nat), i + q = m →
    (St H0 B0 B ((rb, ⟨[ptr d 0, tv, rv, uv, fv, .bool false], 76, .fix⟩) :: (Lu ++ (Lf ++ Lr))) H) → (∀ j < i, (!decide (((j : Nat) : Int) ∈ U) && !decide ((j : Int) ∈ F)) = false) →
    Ev (fun k K => f12_L0 k (ptr rb 0) (i64 i) K H) (fun o =>
      (∃ n : Nat, (List.range m).find? (fun (n : Nat) => !decide ((n : Int) ∈ U) && !decide ((n : Int) ∈ F)) = some n ∧ ∃ fv' Lf' H', o = (.ret, f12_X_L0 (i64 n) (.int .i64 0), H') ∧ FR fv' (F ++ [(n : Int)]) Lf' ∧
        St H0 B0 B ((rb, ⟨[ptr d 0, tv, rv, uv, fv', .bool false], 76, .fix⟩) :: (Lu ++ (Lf' ++ Lr))) H') ∨
      ((List.range m).find? (fun (n : Nat) => !decide ((n : Int) ∈ U) && !decide ((n : Int) ∈ F)) = none ∧ o = (.exit 0, f12_X_L0 unk unk, H))) := by
  have hcu := hK.cell
  have hcell := hF.cell
  have hlu := hK.len (Und.eq (P := Tryz.prog) (t := 74))
  rw [boolC_len] at hlu
  have hlf := hF.len (Und.eq (P := Tryz.prog) (t := 51))
  intro q
  induction q with
  | zero =>
    intro i hi hS hno
    refine Ev.succ (fun k K => f12_L0_succ k _ _ K H) ?_
    repeat (first|refine zA ?_|refine zB fun _ _ _=>?_|refine zC fun _ _ _=>?_|refine zD fun _ _=>?_|refine zE ?_|refine zF ?_)
    refine Ev.prim hlu ?_
    repeat (first|refine zA ?_|refine zB fun _ _ _=>?_|refine zC fun _ _ _=>?_|refine zD fun _ _=>?_|refine zE ?_|refine zF ?_)
    rw [decide_eq_false (by omega)]
    repeat (first|refine zA ?_|refine zB fun _ _ _=>?_|refine zC fun _ _ _=>?_|refine zD fun _ _=>?_|refine zE ?_|refine zF ?_)
    refine Ev.ret (.inr ⟨?_, rfl⟩)
    rw [List.find?_eq_none]
    intro j hj
    rw [hno j (by have := List.mem_range.1 hj; omega)]
    decide
  | succ q ih =>
    intro i hi hS hno
    refine Ev.succ (fun k K => f12_L0_succ k _ _ K H) ?_
    repeat (first|refine zA ?_|refine zB fun _ _ _=>?_|refine zC fun _ _ _=>?_|refine zD fun _ _=>?_|refine zE ?_|refine zF ?_)
    refine Ev.prim hlu ?_
    repeat (first|refine zA ?_|refine zB fun _ _ _=>?_|refine zC fun _ _ _=>?_|refine zD fun _ _=>?_|refine zE ?_|refine zF ?_)
    rw [decide_eq_true (by omega)]
    repeat (first|refine zA ?_|refine zB fun _ _ _=>?_|refine zC fun _ _ _=>?_|refine zD fun _ _=>?_|refine zE ?_|refine zF ?_)
    have hN := hK.now hS (fun x hx => .tail _ (List.mem_append_left _ hx))
    rw [boolC_len] at hN
    refine Ev.ixN (t := 74) hN i rfl (by omega) (boolC_at (by omega)) fun pp hp => ?_
    refine Ev.prim (hp.eq H (Mo.refl H)) ?_
    have next : (!decide ((i : Int) ∈ U) && !decide ((i : Int) ∈ F)) = false → ∀ j < i + 1, (!decide (((j : Nat) : Int) ∈ U) && !decide ((j : Int) ∈ F)) = false := fun h j hj => by
      by_cases he : j = i
      · subst he; exact h
      · exact hno j (by omega)
    by_cases hu : (i : Int) ∈ U
    · rw [decide_eq_true hu]
      repeat (first | (first|refine zA ?_|refine zB fun _ _ _=>?_|refine zC fun _ _ _=>?_|refine zD fun _ _=>?_|refine zE ?_|refine zF ?_) | rw [decide_eq_true (by omega)] | rw [decide_eq_false (by omega)])
      exact ih (i + 1) (by omega) hS (next (by simp [hu]))
    rw [decide_eq_false hu]
    repeat (first|refine zA ?_|refine zB fun _ _ _=>?_|refine zC fun _ _ _=>?_|refine zD fun _ _=>?_|refine zE ?_|refine zF ?_)
    refine Ev.b2 (rhasF_spec (x := (i : Int)) hF (by omega) hS fun x hx => .tail _ (List.mem_append_right _ (List.mem_append_left _ hx))) ?_
    rintro v H1 h
    cases h
    by_cases hf : (i : Int) ∈ F
    · rw [decide_eq_true hf]
      repeat (first | (first|refine zA ?_|refine zB fun _ _ _=>?_|refine zC fun _ _ _=>?_|refine zD fun _ _=>?_|refine zE ?_|refine zF ?_) | rw [decide_eq_true (by omega)] | rw [decide_eq_false (by omega)])
      exact ih (i + 1) (by omega) hS (next (by simp [hf]))
    rw [decide_eq_false hf]
    repeat (first|refine zA ?_|refine zB fun _ _ _=>?_|refine zC fun _ _ _=>?_|refine zD fun _ _=>?_|refine zE ?_|refine zF ?_)
    refine Ev.prim hlf ?_
    repeat (first|refine zA ?_|refine zB fun _ _ _=>?_|refine zC fun _ _ _=>?_|refine zD fun _ _=>?_|refine zE ?_|refine zF ?_)
    refine Ev.prim hlf ?_
    obtain ⟨fv2, Lf2, s1, s2, s3⟩ := hF.slc3 (P := Tryz.prog) (t := 51) eltI hS fun p hp => .tail _ (List.mem_append_right _ (List.mem_append_left _ hp))
    refine Ev.prim s1 ?_
    have hS2 : St H0 B0 B ((rb, ⟨[ptr d 0, tv, rv, uv, fv, .bool false], 76, .fix⟩) :: (Lu ++ (Lf2 ++ Lr))) H := hS.drop (.cons_cons _ (List.Sublist.append_left (List.Sublist.append_right s3 _) _))
    clear hS hN
    refine FRS.push (x := ((i : Nat) : Int)) eltI s2 (hS2.perm (L' := Lf2 ++ ((rb, ⟨[ptr d 0, tv, rv, uv, fv, .bool false], 76, .fix⟩) :: (Lu ++ Lr))) (by (refine perm_cnt ?_; intro _ a; simp only [List.count_append, List.count_cons, List.cons_append, List.nil_append, List.append_assoc]; try ac_rfl))) (by omega) fun fv' Lf' H' hF' hS' => ?_
    have hcell' := hF'.cell
    have hS3 : St H0 B0 B ((rb, ⟨[ptr d 0, tv, rv, uv, fv, .bool false], 76, .fix⟩) :: (Lu ++ (Lf' ++ Lr))) H' := hS'.perm (by (refine perm_cnt ?_; intro _ a; simp only [List.count_append, List.count_cons, List.cons_append, List.nil_append, List.append_assoc]; try ac_rfl))
    clear hS2 hS'
    repeat (first|refine zA ?_|refine zB fun _ _ _=>?_|refine zC fun _ _ _=>?_|refine zD fun _ _=>?_|refine zE ?_|refine zF ?_)
    refine Ev.ret (.inl ⟨i, ?_, fv', Lf', _, rfl, hF', by assumption⟩)
    rw [List.find?_range_eq_some]
    exact ⟨by simp [hu, hf], List.mem_range.2 (by omega), fun j hj => by rw [hno j hj]; rfl⟩
theorem rAlloc_spec {p xv : Value} {G : Pgr} {D : Dsk} {Ls : List (Nat × Blk)} (hP : RK p xv G D Ls) (hO : D.OK) (hl : G.fresh.length < 100000) (hS : St H0 B0 B (Ls ++ L) H) :
    Ev (fun k _ => rn k 12 [p] H) (RgP H0 B0 B L p xv (.tuple #[.int .i64 (G.alloc (D.n / 2)).1, .int .i64 (G.alloc (D.n / 2)).2.1]) (G.alloc (D.n / 2)).2.2 D) := by
  have hP0 := hP
  obtain ⟨rb, uv, fv, Lu, Lf, Ld, rfl, hD, hK, hF, rfl⟩ := hP
  obtain ⟨d, rfl⟩ := hD.ptr
  have hcu := hK.cell
  have hcell := hF.cell
  obtain ⟨turn, root, U, F, dn⟩ := G
  dsimp only at hF hl hP0 hS hK
  refine Ev.fn (fun k => f12_eq k _ H) ?_
  simp only [List.cons_append] at hS
  unfold Pgr.alloc
  dsimp only
  have hn := hO.n2
  cases dn with
  | true =>
    repeat (first|refine zA ?_|refine zB fun _ _ _=>?_|refine zC fun _ _ _=>?_|refine zD fun _ _=>?_|refine zE ?_|refine zF ?_)
    exact Ev.ret ⟨rfl, _, B, ⟨Mo.refl B⟩, hP0, hS⟩
  | false =>
    rw [if_neg (by decide)]
    repeat (first|refine zA ?_|refine zB fun _ _ _=>?_|refine zC fun _ _ _=>?_|refine zD fun _ _=>?_|refine zE ?_|refine zF ?_)
    have hS2 : St H0 B0 B ((rb, ⟨[ptr d 0, i64 turn, .int .i64 root, uv, fv, .bool false], 76, .fix⟩) :: (Lu ++ (Lf ++ (Ld ++ L)))) H := hS.perm (by (refine perm_cnt ?_; intro _ a; simp only [List.count_append, List.count_cons, List.cons_append, List.nil_append, List.append_assoc]; try ac_rfl))
    refine Ev.bind (Ev.loop (rAlloc_loop hK hF hl (by omega) (D.n / 2) 0 (by omega) hS2 (fun j hj => by omega))) ?_
    rintro _ (⟨n, hfd, fv', Lf', H', rfl, hF', hS'⟩ | ⟨hfd, rfl⟩)
    · refine Ev.eq (fun k _ => f12_A0_ret k _ _ H') ?_
      rw [hfd]
      exact Ev.ret ⟨rfl, _, B, ⟨Mo.refl B⟩, ⟨rb, uv, fv', Lu, Lf', Ld, rfl, hD, hK, hF', rfl⟩, hS'.perm (by (refine perm_cnt ?_; intro _ a; simp only [List.count_append, List.count_cons, List.cons_append, List.nil_append, List.append_assoc]; try ac_rfl))⟩
    · refine Ev.eq (fun k _ => f12_A0_x0 k _ _ H) ?_
      rw [hfd]
      exact Ev.ret ⟨rfl, _, B, ⟨Mo.refl B⟩, hP0, hS⟩
theorem rWrite_spec {p xv : Value} {G : Pgr} {D : Dsk} {Ls : List (Nat × Blk)} {n kind : Int} {t : List UInt8} (hP : RK p xv G D Ls) (hO : D.OK) (hc : D.cache.length + 1 < 1000000000000) (hl : G.fresh.length < 100000) (ht : t.length < 9223372036854775808) (hk : -9223372036854775808 ≤ kind ∧ kind < 9223372036854775808) (hS : St H0 B0 B (Ls ++ L) H) :
    Ev (fun k _ => rn k 14 [p, .int .i64 n, .int .i64 kind, str t] H) (RgP H0 B0 B L p xv (.int .i64 (G.write D n kind t).1) (G.write D n kind t).2.1 (G.write D n kind t).2.2) := by
  have hP0 := hP
  obtain ⟨rb, uv, fv, Lu, Lf, Ld, rfl, hD, hK, hF, rfl⟩ := hP
  obtain ⟨d, rfl⟩ := hD.ptr
  have hcu := hK.cell
  have hcell := hF.cell
  obtain ⟨turn, root, U, F, dn⟩ := G
  dsimp only at hF hl hP0 hS hK
  simp only [List.cons_append] at hS
  refine Ev.fn (fun k => f14_eq k _ _ _ _ H) ?_
  unfold Pgr.write
  dsimp only
  cases dn with
  | true =>
    rw [if_pos rfl]
    repeat (first|refine zA ?_|refine zB fun _ _ _=>?_|refine zC fun _ _ _=>?_|refine zD fun _ _=>?_|refine zE ?_|refine zF ?_)
    exact Ev.ret ⟨rfl, _, B, ⟨Mo.refl B⟩, hP0, hS⟩
  | false =>
    rw [if_neg (by decide)]
    repeat (first|refine zA ?_|refine zB fun _ _ _=>?_|refine zC fun _ _ _=>?_|refine zD fun _ _=>?_|refine zE ?_|refine zF ?_)
    refine Ev.b2 (rhasF_spec (x := n) hF (by omega) hS fun x hx => .tail _ (List.mem_append_left _ (List.mem_append_right _ (List.mem_append_left _ hx)))) ?_
    rintro v H1 h
    cases h
    by_cases hf : n ∈ F
    case neg =>
      rw [decide_eq_false hf, if_pos hf]
      repeat (first|refine zA ?_|refine zB fun _ _ _=>?_|refine zC fun _ _ _=>?_|refine zD fun _ _=>?_|refine zE ?_|refine zF ?_)
      exact Ev.ret ⟨rfl, _, B, ⟨Mo.refl B⟩, hP0, hS⟩
    rw [decide_eq_true hf, if_neg (by simpa using hf)]
    repeat (first|refine zA ?_|refine zB fun _ _ _=>?_|refine zC fun _ _ _=>?_|refine zD fun _ _=>?_|refine zE ?_|refine zF ?_)
    have hpn := D.pwrite_n n kind t
    refine Ev.b2 (xpWrite_spec (n := n) (kind := kind) (L := (rb, ⟨[ptr d 0, i64 turn, .int .i64 root, uv, fv, .bool false], 76, .fix⟩) :: (Lu ++ (Lf ++ L))) hD hO hc ht hk (hS.perm (by (refine perm_cnt ?_; intro _ a; simp only [List.count_append, List.count_cons, List.cons_append, List.nil_append, List.append_assoc]; try ac_rfl)))) ?_
    generalize D.pwrite n kind t = w at hpn
    obtain ⟨w1, w2⟩ := w
    dsimp only at hpn ⊢
    rintro _ H2 ⟨rfl, Ld2, B2, hm2, hD2, hS2⟩
    dsimp only at hS2
    clear hS
    repeat (first|refine zA ?_|refine zB fun _ _ _=>?_|refine zC fun _ _ _=>?_|refine zD fun _ _=>?_|refine zE ?_|refine zF ?_)
    refine Ev.b2 (rtold_spec (L := Lu ++ (Lf ++ (Ld2 ++ L))) (hS2.perm (by (refine perm_cnt ?_; intro _ a; simp only [List.count_append, List.count_cons, List.cons_append, List.nil_append, List.append_assoc]; try ac_rfl)))) ?_
    rintro _ H3 ⟨rfl, hS3⟩
    dsimp only at hS3
    rw [← hpn] at hK
    exact Ev.ret ⟨rfl, _, B2, hm2, ⟨rb, uv, fv, Lu, Lf, Ld2, rfl, hD2, hK, hF, rfl⟩, hS3.perm (by unfold Pgr.told; dsimp only; (refine perm_cnt ?_; intro _ a; simp only [List.count_append, List.count_cons, List.cons_append, List.nil_append, List.append_assoc]; try ac_rfl))⟩
theorem rRead_spec {p xv : Value} {G : Pgr} {D : Dsk} {Ls : List (Nat × Blk)} {n : Int} (hP : RK p xv G D Ls) (hO : D.OK) (hc : D.cache.length < 1000000000000) (hS : St H0 B0 B (Ls ++ L) H) :
    Ev (fun k _ => rn k 69 [p, .int .i64 n] H) (RgP H0 B0 B L p xv (OpenV (G.read D n).1) (G.read D n).2 D) := by
  have hP0 := hP
  obtain ⟨rb, uv, fv, Lu, Lf, Ld, rfl, hD, hK, hF, rfl⟩ := hP
  obtain ⟨d, rfl⟩ := hD.ptr
  have hcu := hK.cell
  have hcell := hF.cell
  have hlu := hK.len (Und.eq (P := Tryz.prog) (t := 74))
  rw [boolC_len] at hlu
  obtain ⟨turn, root, U, F, dn⟩ := G
  dsimp only at hF hP0 hS hK
  simp only [List.cons_append] at hS
  refine Ev.fn (fun k => f69_eq k _ _ H) ?_
  unfold Pgr.read
  dsimp only
  cases dn with
  | true =>
    rw [if_pos rfl]
    repeat (first|refine zA ?_|refine zB fun _ _ _=>?_|refine zC fun _ _ _=>?_|refine zD fun _ _=>?_|refine zE ?_|refine zF ?_)
    exact Ev.ret ⟨rfl, _, B, ⟨Mo.refl B⟩, hP0, hS⟩
  | false =>
    rw [if_neg (by decide)]
    repeat (first|refine zA ?_|refine zB fun _ _ _=>?_|refine zC fun _ _ _=>?_|refine zD fun _ _=>?_|refine zE ?_|refine zF ?_)
    by_cases h1 : n < 0
    · rw [decide_eq_true h1, if_pos (.inl h1)]
      repeat (first|refine zA ?_|refine zB fun _ _ _=>?_|refine zC fun _ _ _=>?_|refine zD fun _ _=>?_|refine zE ?_|refine zF ?_)
      exact Ev.ret ⟨rfl, _, B, ⟨Mo.refl B⟩, hP0, hS⟩
    rw [decide_eq_false h1]
    repeat (first|refine zA ?_|refine zB fun _ _ _=>?_|refine zC fun _ _ _=>?_|refine zD fun _ _=>?_|refine zE ?_|refine zF ?_)
    rw [hlu, Option.bind_some]
    repeat (first|refine zA ?_|refine zB fun _ _ _=>?_|refine zC fun _ _ _=>?_|refine zD fun _ _=>?_|refine zE ?_|refine zF ?_)
    by_cases h2 : ((D.n / 2 : Nat) : Int) ≤ n
    · rw [decide_eq_true h2, if_pos (.inr h2)]
      repeat (first|refine zA ?_|refine zB fun _ _ _=>?_|refine zC fun _ _ _=>?_|refine zD fun _ _=>?_|refine zE ?_|refine zF ?_)
      exact Ev.ret ⟨rfl, _, B, ⟨Mo.refl B⟩, hP0, hS⟩
    rw [decide_eq_false h2, if_neg (fun h => by rcases h with h | h; exact h1 h; exact h2 h)]
    repeat (first|refine zA ?_|refine zB fun _ _ _=>?_|refine zC fun _ _ _=>?_|refine zD fun _ _=>?_|refine zE ?_|refine zF ?_)
    refine Ev.b2 (xpRead_spec (n := n) hD hO hc hS fun x hx => .tail _ (List.mem_append_left _ (List.mem_append_right _ (List.mem_append_right _ hx)))) ?_
    generalize D.pread n = w
    obtain ⟨w1, w2, w3⟩ := w
    rintro _ H2 ⟨rfl, B2, hm2, hS2⟩
    dsimp only at hS2
    clear hS
    unfold OpenV
    dsimp only
    repeat (first|refine zA ?_|refine zB fun _ _ _=>?_|refine zC fun _ _ _=>?_|refine zD fun _ _=>?_|refine zE ?_|refine zF ?_)
    refine Ev.b2 (rtold_spec hS2) ?_
    rintro _ H3 ⟨rfl, hS3⟩
    dsimp only at hS3
    exact Ev.ret ⟨rfl, _, B2, hm2, ⟨rb, uv, fv, Lu, Lf, Ld, rfl, hD, hK, hF, rfl⟩, hS3⟩
theorem rFormat_spec {xv : Value} {D : Dsk} {Ls : List (Nat × Blk)} (hD : XK xv D Ls) (hO : D.OK) (hc : D.cache.length + 2 < 1000000000000) (hS : St H0 B0 B (Ls ++ L) H) :
    Ev (fun k _ => rn k 25 [xv] H) (fun r => (D.format.1 ≠ 0 ∧ XkP H0 B0 B L xv (.tuple #[.pointer none, .int .i64 D.format.1]) D.format.2 r) ∨ (D.format.1 = 0 ∧ ∃ p, RgP H0 B0 B L p xv (.tuple #[p, .int .i64 0]) ⟨1, 0, [0, 1], [], false⟩ D.format.2 r)) := by
  have hn2 := hO.n2
  obtain ⟨d, rfl⟩ := hD.ptr
  refine Ev.fn (fun k => f25_eq k _ H) ?_
  refine Ev.b2 (xmany_spec hD hO hS fun x hx => List.mem_append_left _ hx) ?_
  rintro _ _ h
  cases h
  unfold Dsk.format
  by_cases h4 : D.n / 2 < 4
  · rw [if_pos h4]
    repeat (first|refine zA ?_|refine zB fun _ _ _=>?_|refine zC fun _ _ _=>?_|refine zD fun _ _=>?_|refine zE ?_|refine zF ?_)
    rw [decide_eq_true h4]
    repeat (first|refine zA ?_|refine zB fun _ _ _=>?_|refine zC fun _ _ _=>?_|refine zD fun _ _=>?_|refine zE ?_|refine zF ?_)
    exact Ev.ret (.inl ⟨show (1 : Int) ≠ 0 by decide, rfl, Ls, B, ⟨Mo.refl B⟩, hD, hS⟩)
  rw [if_neg h4]
  repeat (first|refine zA ?_|refine zB fun _ _ _=>?_|refine zC fun _ _ _=>?_|refine zD fun _ _=>?_|refine zE ?_|refine zF ?_)
  rw [decide_eq_false h4]
  repeat (first|refine zA ?_|refine zB fun _ _ _=>?_|refine zC fun _ _ _=>?_|refine zD fun _ _=>?_|refine zE ?_|refine zF ?_)
  refine Ev.b2 (xmany_spec hD hO hS fun x hx => List.mem_append_left _ hx) ?_
  rintro _ _ h
  cases h
  have hE : Elt Tryz.prog 74 4 (.bool false) 1 := inferInstance
  refine Ev.mkS (t := 74) (m := D.n / 2) inferInstance hS (by omega) (by omega) fun b B2 H2 hm2 hS2 => ?_
  clear hS
  have hK0 : UK 4 (sl b 0 (D.n / 2) (D.n / 2)) (boolC [] (D.n / 2)) [(b, ⟨boolC [] (D.n / 2), 4, .fix⟩)] := ⟨b, .fix, D.n / 2, by rw [boolC_len], by rw [boolC_len]; exact Nat.le_refl _, .inr rfl, rfl⟩
  have hS2' : St H0 B0 B2 ([(b, ⟨boolC [] (D.n / 2), 4, .fix⟩)] ++ (Ls ++ L)) H2 := by rw [boolC_nil]; exact hS2
  clear hS2
  obtain ⟨p0, H3, L3, a1, a2, hK3, hS3⟩ := hK0.store (P := Tryz.prog) (t := 74) (i := 0) (w := .bool true) hS2' (by rw [boolC_len]; omega) rfl
  rw [boolC_set (by omega)] at hK3
  obtain ⟨p1, H4, L4, b1, b2, hK4, hS4⟩ := hK3.store (P := Tryz.prog) (t := 74) (i := 1) (w := .bool true) hS3 (by rw [boolC_len]; omega) rfl
  rw [boolC_set (by omega)] at hK4
  clear hS2' hS3
  refine Ev.prim (a1 .i64) ?_
  refine Ev.prim a2 ?_
  refine Ev.prim (b1 .i64) ?_
  refine Ev.prim b2 ?_
  have eU : boolC (insI (insI [] ((0 : Nat) : Int)) ((1 : Nat) : Int)) (D.n / 2) = boolC [0, 1] (D.n / 2) := rfl
  rw [eU] at hK4
  refine Ev.b2 (rtext_spec (t := 1) (r := 0) (by decide) (by omega) (U := [0, 1]) (fun n hn => by simp at hn; omega) hK4 hS4 fun x hx => List.mem_append_left _ hx) ?_
  rintro _ H5 ⟨rfl, B5, hm5, hS5⟩
  dsimp only at hS5
  clear hS4
  have hwn := hwrite_n D 1 0 [0, 1]
  have hwo : (hwrite D 1 0 [0, 1]).2.OK := pwrite_ok hO _ _ _
  have hwc : (hwrite D 1 0 [0, 1]).2.cache.length ≤ D.cache.length + 2 := pwrite_cache D _ _ _
  refine Ev.b2 (xpWrite_spec (n := 1) (kind := 1) (t := textH 1 0 [0, 1]) (L := L4 ++ L) hD hO (by omega) (by rw [textH_len]; decide) (by decide) (hS5.perm (by (refine perm_cnt ?_; intro _ a; simp only [List.count_append, List.count_cons, List.cons_append, List.nil_append, List.append_assoc]; try ac_rfl)))) ?_
  rw [show D.pwrite 1 1 (textH 1 0 [0, 1]) = hwrite D 1 0 [0, 1] from rfl]
  generalize hwrite D 1 0 [0, 1] = w at hwn hwo hwc
  obtain ⟨w1, w2⟩ := w
  dsimp only at hwn hwo hwc ⊢
  rintro _ H6 ⟨rfl, Ls6, B6, hm6, hD6, hS6⟩
  dsimp only at hS6
  clear hS5
  repeat (first|refine zA ?_|refine zB fun _ _ _=>?_|refine zC fun _ _ _=>?_|refine zD fun _ _=>?_|refine zE ?_|refine zF ?_)
  by_cases hw : w1 = 0
  case neg =>
    rw [decide_eq_false hw, if_pos hw]
    repeat (first|refine zA ?_|refine zB fun _ _ _=>?_|refine zC fun _ _ _=>?_|refine zD fun _ _=>?_|refine zE ?_|refine zF ?_)
    refine Ev.eq (fun k _ => f25_J0_eq k _ _ _ H6) ?_
    repeat (first|refine zA ?_|refine zB fun _ _ _=>?_|refine zC fun _ _ _=>?_|refine zD fun _ _=>?_|refine zE ?_|refine zF ?_)
    rw [decide_eq_true hw]
    repeat (first|refine zA ?_|refine zB fun _ _ _=>?_|refine zC fun _ _ _=>?_|refine zD fun _ _=>?_|refine zE ?_|refine zF ?_)
    exact Ev.ret (.inl ⟨hw, rfl, Ls6, B6, ⟨hm2.trans (hm5.mo.trans hm6.mo)⟩, hD6, hS6.drop (List.Sublist.append_left (List.sublist_append_right _ _) _)⟩)
  rw [decide_eq_true hw, if_neg (by simpa using hw)]
  repeat (first|refine zA ?_|refine zB fun _ _ _=>?_|refine zC fun _ _ _=>?_|refine zD fun _ _=>?_|refine zE ?_|refine zF ?_)
  refine Ev.b2 (xBarrier_spec hD6 hwo (by omega) hS6) ?_
  have hbn := w2.barrier_n
  generalize w2.barrier = z at hbn
  obtain ⟨z1, z2⟩ := z
  dsimp only at hbn ⊢
  rintro _ H7 ⟨rfl, Ls7, B7, hm7, hD7, hS7⟩
  dsimp only at hS7
  clear hS6
  refine Ev.eq (fun k _ => f25_J0_eq k _ _ _ H7) ?_
  repeat (first|refine zA ?_|refine zB fun _ _ _=>?_|refine zC fun _ _ _=>?_|refine zD fun _ _=>?_|refine zE ?_|refine zF ?_)
  by_cases hz : z1 = 0
  case neg =>
    rw [decide_eq_true hz]
    repeat (first|refine zA ?_|refine zB fun _ _ _=>?_|refine zC fun _ _ _=>?_|refine zD fun _ _=>?_|refine zE ?_|refine zF ?_)
    exact Ev.ret (.inl ⟨hz, rfl, Ls7, B7, ⟨hm2.trans (hm5.mo.trans (hm6.mo.trans hm7.mo))⟩, hD7, hS7.drop (List.Sublist.append_left (List.sublist_append_right _ _) _)⟩)
  rw [decide_eq_false (by simpa using hz)]
  have hcu := hK4.cell
  repeat (first|refine zA ?_|refine zB fun _ _ _=>?_|refine zC fun _ _ _=>?_|refine zD fun _ _=>?_|refine zE ?_|refine zF ?_)
  rename_i rb H8 hS8
  have hK8 : UK 4 (sl b 0 (D.n / 2) (D.n / 2)) (boolC [0, 1] (z2.n / 2)) L4 := by rw [hbn, hwn]; exact hK4
  exact Ev.ret (.inr ⟨hz, ptr rb 0, rfl, _, B7, ⟨hm2.trans (hm5.mo.trans (hm6.mo.trans hm7.mo))⟩, ⟨rb, _, .slice none 0 0, L4, [], Ls7, rfl, hD7, hK8, FRS.nil, rfl⟩, hS8.perm (by (refine perm_cnt ?_; intro _ a; simp only [List.count_append, List.count_cons, List.cons_append, List.nil_append, List.append_assoc]; try ac_rfl))⟩)
end
end Go.AM.F
namespace Go.AM
def need (n : Nat) : Nat := if min n 1048576 = 0 then 1 else (min n 1048576 + 117) / 118
theorem need_pos (n : Nat) : 1 ≤ need n := by
  unfold need
  split
  · exact Nat.le_refl 1
  · omega
def pagesL (j k : Nat) : List Int := (List.range k).map fun (i : Nat) => ((j + 2 + i : Nat) : Int)
theorem pagesL_len (j k : Nat) : (pagesL j k).length = k := by simp [pagesL]
theorem pagesL_succ (j k : Nat) : pagesL j (k + 1) = pagesL j k ++ [((j + 2 + k : Nat) : Int)] := by
  unfold pagesL
  rw [List.range_succ, List.map_append]; rfl
theorem pagesL_mem {j k : Nat} {x : Int} : x ∈ pagesL j k ↔ (j : Int) + 2 ≤ x ∧ x < j + 2 + k := by
  unfold pagesL
  constructor
  · intro h
    obtain ⟨i, hi, rfl⟩ := List.mem_map.1 h
    have := List.mem_range.1 hi
    omega
  · intro h
    exact List.mem_map.2 ⟨(x - j - 2).toNat, List.mem_range.2 (by omega), by omega⟩
theorem pagesL_at {j k i : Nat} (h : i < k) : (pagesL j k)[i]? = some ((j + 2 + i : Nat) : Int) := by
  unfold pagesL
  rw [List.getElem?_map, List.getElem?_range h]; rfl
def nextB (j k i : Nat) : Nat := if i + 1 < k then j + 2 + (i + 1) else 0
def pieceT (s : List UInt8) (i : Nat) : List UInt8 := (s.drop (118 * i)).take 118
def hdr (n : Nat) : List UInt8 := [UInt8.ofNat (n / 256), UInt8.ofNat n]
def bpage (s : List UInt8) (j k i : Nat) : List UInt8 := hdr (nextB j k i) ++ pieceT s i
theorem bpage_len (s : List UInt8) (j k i : Nat) : (bpage s j k i).length ≤ 120 := by
  unfold bpage pieceT hdr
  simp; omega
def Dsk.Has (D : Dsk) (s : List UInt8) (j k : Nat) : Prop := ∀ i, i < k → D.pg (j + 2 + i) = sealL 2 (bpage s j k i)
theorem Dsk.Up.gread {D : Dsk} {G : Pgr} {m n k : Nat} {t : List UInt8} (h : D.Up (2 * m)) (hd : G.down = false) (hn : n < m) (hm2 : m ≤ 512) (hk : 1 ≤ k) (hk9 : k ≤ 9) (ht : t.length ≤ 120) (hp : D.pg n = sealL k t) : G.read D (n : Int) = (((k : Int), t, 0), G) := by
  have hdn : D.n / 2 = m := by have := h.n; omega
  have e2 : D.pread (n : Int) = ((k : Int), t, 0) := by
    rw [h.pread hn (by omega)]
    show openR (D.pg n) = _
    rw [hp]
    exact open_seal hk hk9 ht
  unfold Pgr.read
  rw [if_neg (by rw [hd]; decide), hdn, if_neg (by omega), e2]
  dsimp only
  rw [told0]
theorem drop_piece (s : List UInt8) (i : Nat) : (s.drop (118 * i)).drop (min (s.drop (118 * i)).length 118) = s.drop (118 * (i + 1)) := by
  rw [List.drop_drop]
  rcases Nat.le_total (s.drop (118 * i)).length 118 with h | h
  · rw [Nat.min_eq_left h]
    rw [List.length_drop] at h ⊢
    rw [List.drop_of_length_le (by omega), List.drop_of_length_le (by omega)]
  · rw [Nat.min_eq_right h]
    congr 1
theorem take_piece (s : List UInt8) (i : Nat) : (s.drop (118 * i)).take (min (s.drop (118 * i)).length 118) = pieceT s i := by
  unfold pieceT
  rcases Nat.le_total (s.drop (118 * i)).length 118 with h | h
  · rw [Nat.min_eq_left h, List.take_length, List.take_of_length_le h]
  · rw [Nat.min_eq_right h]
theorem piece_join (s : List UInt8) (a i : Nat) : (s.drop (118 * a)).take (118 * i) ++ pieceT s (a + i) = (s.drop (118 * a)).take (118 * (i + 1)) := by
  unfold pieceT
  rw [show 118 * (a + i) = 118 * a + 118 * i by omega, ← List.drop_drop, show 118 * (i + 1) = 118 * i + 118 by omega, List.take_add]
theorem hdr_val (n : Nat) (h : n < 65536) : (UInt8.ofNat (n / 256)).toNat * 256 + (UInt8.ofNat n).toNat = n := by
  simp only [UInt8.toNat_ofNat']
  omega
theorem perm1 {α : Type} (A : List α) (x : α) (B R : List α) : (A ++ (x :: (B ++ R))).Perm (B ++ (x :: (A ++ R))) := by
  have h1 : (A ++ (x :: (B ++ R))).Perm (x :: (A ++ (B ++ R))) := List.perm_middle
  have h2 : (B ++ (x :: (A ++ R))).Perm (x :: (B ++ (A ++ R))) := List.perm_middle
  refine h1.trans ((List.Perm.cons x ?_).trans h2.symm)
  rw [← List.append_assoc, ← List.append_assoc]
  exact List.Perm.append_right _ List.perm_append_comm
theorem perm2 {α : Type} (A : List α) (x : α) (B C R : List α) : (A ++ (x :: (B ++ (C ++ R)))).Perm (C ++ (A ++ (x :: (B ++ R)))) := by
  have e1 : A ++ (x :: (B ++ (C ++ R))) = (A ++ (x :: B)) ++ (C ++ R) := by simp
  have e2 : A ++ (x :: (B ++ R)) = (A ++ (x :: B)) ++ R := by simp
  rw [e1, e2, ← List.append_assoc, ← List.append_assoc C]
  exact List.Perm.append_right _ List.perm_append_comm
theorem FRS.freeze {e : TypeId} {v : Value} {l : List Int} {Lx L : List (Nat × Blk)} {H0 B0 B H : AH} {n : Nat} (hn : l.length = n) (h : FRS e v l Lx) (hS : St H0 B0 B (Lx ++ L) H) : ∃ B', MoC B B' ∧ ScN B' v n 1 (intV l) ∧ St H0 B0 B' L H := by
  subst hn
  rcases h with ⟨rfl, hv, rfl⟩ | ⟨b, cap, rest, rfl, h1, h2, rfl⟩
  · refine ⟨B, ⟨Mo.refl B⟩, ?_, hS⟩
    rcases hv with rfl | ⟨b, off, rfl⟩
    · exact .inl ⟨rfl, rfl, rfl⟩
    · exact .inr ⟨b, off, 0, rfl, Nat.le_refl _, by simp [intV], .inl rfl⟩
  · obtain ⟨B', q1, q2, q3⟩ := St.freeze hS
    refine ⟨B', ⟨q1⟩, .inr ⟨b, 0, cap, rfl, h2, by simp [intV_len], .inr ⟨_, q2, ?_⟩⟩, q3⟩
    unfold rdN
    rw [if_pos (by simp [intV_len]), List.drop_zero, Nat.mul_one, List.take_append_of_le_length (by simp [intV_len]), List.take_of_length_le (by simp [intV_len])]
theorem perm3 {α : Type} (x y z : α) (A R : List α) : (A ++ (z :: x :: y :: R)).Perm (x :: y :: z :: (A ++ R)) := by
  have h1 : (A ++ ([z, x, y] ++ R)).Perm ([z, x, y] ++ (A ++ R)) := by
    rw [← List.append_assoc, ← List.append_assoc]
    exact List.Perm.append_right _ List.perm_append_comm
  refine List.Perm.trans h1 ?_
  exact (List.Perm.swap _ _ _).trans (List.Perm.cons _ (List.Perm.swap _ _ _))
theorem permB4 {α : Type} (x y z : α) (A R : List α) : (z :: x :: y :: (A ++ R)).Perm (A ++ (x :: y :: z :: R)) := by
  have h1 : ([x, y, z] ++ (A ++ R)).Perm (A ++ ([x, y, z] ++ R)) := by
    rw [← List.append_assoc, ← List.append_assoc]
    exact List.Perm.append_right _ List.perm_append_comm
  refine List.Perm.trans ?_ h1
  exact (List.Perm.swap _ _ _).trans (List.Perm.cons _ (List.Perm.swap _ _ _))
end Go.AM
namespace Go.AM
def allocN (m : Nat) : Nat → Pgr → List Int → List Int × Int × Pgr
  | 0, G, l => (l, 0, G)
  | k + 1, G, l => if (G.alloc m).2.1 ≠ 0 then (l, (G.alloc m).2.1, (G.alloc m).2.2) else allocN m k (G.alloc m).2.2 (l ++ [(G.alloc m).1])
def nextL (l : List Int) (i : Nat) : Int := l.getD (i + 1) 0
def pageL (s : List UInt8) (l : List Int) (i : Nat) : List UInt8 := hdr (nextL l i).toNat ++ pieceT s i
def layN (s : List UInt8) (l : List Int) : Nat → Nat → Pgr → Dsk → Int × Pgr × Dsk
  | 0, _, G, D => (0, G, D)
  | q + 1, i, G, D => if (G.write D (l.getD i 0) 2 (pageL s l i)).1 ≠ 0 then G.write D (l.getD i 0) 2 (pageL s l i) else layN s l q (i + 1) (G.write D (l.getD i 0) 2 (pageL s l i)).2.1 (G.write D (l.getD i 0) 2 (pageL s l i)).2.2
def Pgr.bwrite (G : Pgr) (D : Dsk) (s : List UInt8) : Int × Int × Pgr × Dsk :=
  if 60000 < s.length then (0, 1, G, D)
  else if (allocN (D.n / 2) (need s.length) G []).2.1 ≠ 0 then (0, (allocN (D.n / 2) (need s.length) G []).2.1, (allocN (D.n / 2) (need s.length) G []).2.2.back G.fresh.length, D)
  else if (layN s (allocN (D.n / 2) (need s.length) G []).1 (need s.length) 0 (allocN (D.n / 2) (need s.length) G []).2.2 D).1 ≠ 0 then
    (0, (layN s (allocN (D.n / 2) (need s.length) G []).1 (need s.length) 0 (allocN (D.n / 2) (need s.length) G []).2.2 D).1,
      (layN s (allocN (D.n / 2) (need s.length) G []).1 (need s.length) 0 (allocN (D.n / 2) (need s.length) G []).2.2 D).2.1.back G.fresh.length, (layN s (allocN (D.n / 2) (need s.length) G []).1 (need s.length) 0 (allocN (D.n / 2) (need s.length) G []).2.2 D).2.2)
  else ((allocN (D.n / 2) (need s.length) G []).1.getD 0 0, 0, (layN s (allocN (D.n / 2) (need s.length) G []).1 (need s.length) 0 (allocN (D.n / 2) (need s.length) G []).2.2 D).2.1, (layN s (allocN (D.n / 2) (need s.length) G []).1 (need s.length) 0 (allocN (D.n / 2) (need s.length) G []).2.2 D).2.2)
structure Pgr.In (G : Pgr) (m : Nat) : Prop where
  us : ∀ x ∈ G.used, 0 ≤ x ∧ x < m
  fr : ∀ x ∈ G.fresh, 0 ≤ x ∧ x < m
  nd : G.fresh.Nodup
theorem nodup_lt {l : List Int} {m : Nat} (hn : l.Nodup) (h : ∀ x ∈ l, 0 ≤ x ∧ x < m) : l.length ≤ m := by
  have h1 := hn.length_le_of_subset (l₂ := pagesI m) fun x hx => pagesI_mem.2 (h x hx)
  simpa [pagesI] using h1
theorem Pgr.In.len {G : Pgr} {m : Nat} (h : G.In m) : G.fresh.length ≤ m := nodup_lt h.nd h.fr
theorem Pgr.alloc_cases (G : Pgr) (m : Nat) : ((G.alloc m).2.1 ≠ 0 ∧ (G.alloc m).1 = 0 ∧ (G.alloc m).2.2 = G) ∨ ((G.alloc m).2.1 = 0 ∧ ∃ n : Nat, n < m ∧ (n : Int) ∉ G.fresh ∧ (G.alloc m).1 = n ∧ (G.alloc m).2.2 = { G with fresh := G.fresh ++ [(n : Int)] }) := by
  unfold Pgr.alloc
  split
  · exact .inl ⟨show (7 : Int) ≠ 0 by decide, rfl, rfl⟩
  · split
    · rename_i n hf
      rw [List.find?_range_eq_some] at hf
      obtain ⟨h1, h2, _⟩ := hf
      exact .inr ⟨rfl, n, List.mem_range.1 h2, by simpa using (by simpa using h1 : _ ∧ _).2, rfl, rfl⟩
    · exact .inl ⟨show (6 : Int) ≠ 0 by decide, rfl, rfl⟩
theorem Pgr.In.alloc {G : Pgr} {m : Nat} (h : G.In m) : (G.alloc m).2.2.In m := by
  rcases G.alloc_cases m with ⟨_, _, e⟩ | ⟨_, n, hn, hnf, _, e⟩
  · rw [e]; exact h
  · rw [e]
    refine ⟨h.us, fun x hx => ?_, ?_⟩
    · rcases List.mem_append.1 hx with hx | hx
      · exact h.fr x hx
      · rw [List.mem_singleton.1 hx]; omega
    · rw [List.nodup_append]
      refine ⟨h.nd, by simp, fun a ha b hb => ?_⟩
      rw [List.mem_singleton.1 hb]
      rintro rfl
      exact hnf ha
theorem Pgr.In.back {G : Pgr} {m : Nat} (h : G.In m) (k : Int) : (G.back k).In m :=
  ⟨h.us, fun x hx => h.fr x (List.mem_of_mem_take hx), (List.take_sublist _ _).nodup h.nd⟩
theorem Pgr.In.told {G : Pgr} {m : Nat} (h : G.In m) (e : Int) : (G.told e).In m := ⟨h.us, h.fr, h.nd⟩
theorem Pgr.In.write {G : Pgr} {m : Nat} (h : G.In m) (D : Dsk) (n k : Int) (t : List UInt8) : (G.write D n k t).2.1.In m := by
  unfold Pgr.write
  split
  · exact h
  · split
    · exact h
    · exact h.told _
theorem Pgr.write_ok {D : Dsk} (h : D.OK) (G : Pgr) (n k : Int) (t : List UInt8) : (G.write D n k t).2.2.OK ∧ (G.write D n k t).2.2.n = D.n ∧ (G.write D n k t).2.2.cache.length ≤ D.cache.length + 2 := by
  unfold Pgr.write
  split
  · exact ⟨h, rfl, Nat.le_add_right _ _⟩
  · split
    · exact ⟨h, rfl, Nat.le_add_right _ _⟩
    · exact ⟨pwrite_ok h _ _ _, Dsk.pwrite_n _ _ _ _, pwrite_cache _ _ _ _⟩
theorem allocN_in {m : Nat} : ∀ (k : Nat) (G : Pgr) (l : List Int), G.In m → (∀ x ∈ l, 0 ≤ x ∧ x < m) → (allocN m k G l).2.2.In m ∧ (∀ x ∈ (allocN m k G l).1, 0 ≤ x ∧ x < m) ∧ ((allocN m k G l).2.1 = 0 → (allocN m k G l).1.length = l.length + k)
  | 0, G, l, h, hl => ⟨h, hl, fun _ => rfl⟩
  | k + 1, G, l, h, hl => by
    unfold allocN
    split
    · rename_i he
      exact ⟨h.alloc, hl, fun h0 => absurd h0 he⟩
    · rename_i he
      have h1 : ∀ x ∈ l ++ [(G.alloc m).1], 0 ≤ x ∧ x < m := fun x hx => by
        rcases List.mem_append.1 hx with hx | hx
        · exact hl x hx
        · rw [List.mem_singleton.1 hx]
          rcases G.alloc_cases m with ⟨e, _⟩ | ⟨_, n, hn, _, e, _⟩
          · exact absurd e he
          · rw [e]; omega
      obtain ⟨a, b, c⟩ := allocN_in k _ _ h.alloc h1
      exact ⟨a, b, fun h0 => by rw [c h0, List.length_append, List.length_singleton]; omega⟩
theorem layN_in {m : Nat} (s : List UInt8) (l : List Int) : ∀ (q i : Nat) (G : Pgr) (D : Dsk), G.In m → D.OK → (layN s l q i G D).2.1.In m ∧ (layN s l q i G D).2.2.OK ∧ (layN s l q i G D).2.2.n = D.n ∧ (layN s l q i G D).2.2.cache.length ≤ D.cache.length + 2 * q
  | 0, i, G, D, h, hO => ⟨h, hO, rfl, Nat.le_refl _⟩
  | q + 1, i, G, D, h, hO => by
    obtain ⟨h1, h2, h3⟩ := G.write_ok hO (l.getD i 0) 2 (pageL s l i)
    unfold layN
    split
    · exact ⟨h.write _ _ _ _, h1, h2, by omega⟩
    · obtain ⟨a, b, c, d⟩ := layN_in s l q (i + 1) _ _ (h.write D (l.getD i 0) 2 (pageL s l i)) h1
      exact ⟨a, b, c.trans h2, by omega⟩
theorem bwrite_in {m : Nat} {G : Pgr} {D : Dsk} (s : List UInt8) (h : G.In m) (hO : D.OK) (hm : D.n / 2 = m) : (G.bwrite D s).2.2.1.In m ∧ (G.bwrite D s).2.2.2.OK ∧ (G.bwrite D s).2.2.2.n = D.n ∧ (G.bwrite D s).2.2.2.cache.length ≤ D.cache.length + 2 * need s.length := by
  subst hm
  obtain ⟨a1, a2, a3⟩ := allocN_in (m := D.n / 2) (need s.length) G [] h (fun x hx => by cases hx)
  obtain ⟨b1, b2, b3, b4⟩ := layN_in s (allocN (D.n / 2) (need s.length) G []).1 (need s.length) 0 (allocN (D.n / 2) (need s.length) G []).2.2 D a1 hO
  unfold Pgr.bwrite
  split
  · exact ⟨h, hO, rfl, Nat.le_add_right _ _⟩
  · split
    · exact ⟨a1.back _, hO, rfl, Nat.le_add_right _ _⟩
    · split
      · exact ⟨b1.back _, b2, b3, b4⟩
      · exact ⟨b1, b2, b3, b4⟩
def nextT (t : List UInt8) : Nat := (t.getD 0 0).toNat * 256 + (t.getD 1 0).toNat
def walkR (D : Dsk) (m : Nat) : Nat → Pgr → List Int → List UInt8 → Int → (List Int × List UInt8 × Int) × Pgr
  | 0, G, _, _, _ => (([], [], 2), G)
  | k + 1, G, l, s, a =>
    if (G.read D a).1.2.2 ≠ 0 then (([], [], (G.read D a).1.2.2), (G.read D a).2)
    else if (G.read D a).1.1 ≠ 2 ∨ (G.read D a).1.2.1.length < 2 ∨ 512 ≤ l.length then (([], [], 2), (G.read D a).2)
    else if nextT (G.read D a).1.2.1 = 0 then ((l ++ [a], s ++ (G.read D a).1.2.1.drop 2, 0), (G.read D a).2)
    else if nextT (G.read D a).1.2.1 = 1 ∨ m ≤ nextT (G.read D a).1.2.1 ∨ (nextT (G.read D a).1.2.1 : Int) ∈ l ++ [a] then (([], [], 2), (G.read D a).2)
    else walkR D m k (G.read D a).2 (l ++ [a]) (s ++ (G.read D a).1.2.1.drop 2) (nextT (G.read D a).1.2.1)
def Pgr.walk (G : Pgr) (D : Dsk) (a : Int) : (List Int × List UInt8 × Int) × Pgr := walkR D (D.n / 2) 513 G [] [] a
theorem openR_len (b : List UInt8) : (openR b).2.1.length ≤ b.length := by
  unfold openR
  split
  · exact Nat.zero_le _
  · split
    · exact Nat.zero_le _
    · split
      · show ((b.drop 4).take _).length ≤ _
        rw [List.length_take, List.length_drop]; omega
      · exact Nat.zero_le _
theorem pread_len {D : Dsk} (hO : D.OK) (n : Int) : (D.pread n).2.1.length ≤ 128 := by
  unfold Dsk.pread
  split
  · exact Nat.zero_le _
  · split
    · exact Nat.zero_le _
    · split
      · exact Nat.zero_le _
      · refine Nat.le_trans (openR_len _) ?_
        rw [List.length_append]
        have h1 := read_len hO (2 * n)
        have h2 := read_len hO (2 * n + 1)
        omega
theorem gread_len {D : Dsk} (hO : D.OK) (G : Pgr) (n : Int) : (G.read D n).1.2.1.length ≤ 128 := by
  unfold Pgr.read
  split
  · exact Nat.zero_le _
  · split
    · exact Nat.zero_le _
    · exact pread_len hO n
theorem walkR_len {D : Dsk} {m : Nat} (hO : D.OK) : ∀ (k : Nat) (G : Pgr) (l : List Int) (s : List UInt8) (a : Int), l.length + k ≤ 513 → s.length ≤ 128 * l.length → (walkR D m k G l s a).1.2.1.length ≤ 65664 ∧ (walkR D m k G l s a).1.1.length ≤ 513
  | 0, G, l, s, a, _, _ => ⟨Nat.zero_le _, Nat.zero_le _⟩
  | k + 1, G, l, s, a, hl, hs => by
    have htl := gread_len hO G a
    have h1 : (s ++ (G.read D a).1.2.1.drop 2).length ≤ 128 * (l ++ [a]).length := by rw [List.length_append, List.length_append, List.length_singleton, List.length_drop]; omega
    have h2 : (l ++ [a]).length = l.length + 1 := by rw [List.length_append, List.length_singleton]
    unfold walkR
    split
    · exact ⟨Nat.zero_le _, Nat.zero_le _⟩
    · split
      · exact ⟨Nat.zero_le _, Nat.zero_le _⟩
      · split
        · exact ⟨by show (s ++ _).length ≤ _; omega, by show (l ++ [a]).length ≤ _; omega⟩
        · split
          · exact ⟨Nat.zero_le _, Nat.zero_le _⟩
          · exact walkR_len hO k _ _ _ _ (by omega) h1
theorem walkR_err {D : Dsk} {m : Nat} : ∀ (k : Nat) (G : Pgr) (l : List Int) (s : List UInt8) (a : Int), (walkR D m k G l s a).1.2.2 ≠ 0 → (walkR D m k G l s a).1.2.1 = [] ∧ (walkR D m k G l s a).1.1 = []
  | 0, G, l, s, a, _ => ⟨rfl, rfl⟩
  | k + 1, G, l, s, a, h => by
    unfold walkR at h ⊢
    split
    · exact ⟨rfl, rfl⟩
    · rename_i h1
      rw [if_neg h1] at h
      split
      · exact ⟨rfl, rfl⟩
      · rename_i h2
        rw [if_neg h2] at h
        split
        · rename_i h3
          rw [if_pos h3] at h
          exact absurd rfl h
        · rename_i h3
          rw [if_neg h3] at h
          split
          · exact ⟨rfl, rfl⟩
          · rename_i h4
            rw [if_neg h4] at h
            exact walkR_err k _ _ _ _ h
end Go.AM
namespace Go.AM.F
open Go Go.AM Go.Proofs
attribute [local irreducible] run bin un ld st box newV mkS fldA fld ixA ix slc slc3 build buildS cv cvS ap cpy lenV gOp pickV b2 aIf aChk evalK resume iterD Option.bind

section
variable {B B0 H0 H : AH} {L : List (Nat × Blk)}
theorem rNeed_spec {n : Nat} : Ev (fun k _ => rn k 21 [i64 n] H) (fun r => r = (i64 (need n), H)) := by
  refine Ev.fn (fun k => f21_eq k _ H) ?_
  refine Ev.prim (show fold1 maxV [i64 n, .int .i64 0] = some (i64 n) from by rw [max_int]; congr 2; omega) ?_
  refine Ev.prim (show fold1 minV [i64 n, .int .i64 1048576] = some (i64 (min n 1048576)) from by rw [min_int]; congr 2; omega) ?_
  unfold need
  generalize hz : min n 1048576 = z
  have hz2 : z ≤ 1048576 := by omega
  repeat (first | (first|refine zA ?_|refine zB fun _ _ _=>?_|refine zC fun _ _ _=>?_|refine zD fun _ _=>?_|refine zE ?_|refine zF ?_) | rw [decide_eq_true (by omega)] | rw [decide_eq_false (by omega)])
  refine Ev.ret ?_
  congr 2
  by_cases h0 : z = 0
  · rw [if_pos h0, h0]; rfl
  · rw [if_neg h0, show z + 118 - 1 = z + 117 by omega]
    have : 1 ≤ (z + 117) / 118 := by omega
    split <;> omega
theorem rb_alloc {p xv : Value} {D : Dsk} {m was : Nat} {s : List UInt8} (hO : D.OK) (hm : D.n / 2 = m) (hs : s.length ≤ 60000) : ∀ (q i : Nat) (B H : AH) (G : Pgr) (Ls Lv : List (Nat × Blk)) (l : List Int) (v : Value), i + q = need s.length → G.In m → RK p xv G D Ls → FR v l Lv → l.length = i → St H0 B0 B (Lv ++ (Ls ++ L)) H →
    Ev (fun K K2 => f8_L0 K p (str s) (i64 was) v (i64 i) K2 H) (fun o =>
      ((allocN m q G l).2.1 = 0 ∧ ∃ B' H' Ls' Lv' v', o = (.exit 0, f8_X_L0 p (str s) unk unk (i64 was) v', H') ∧ MoC B B' ∧ RK p xv (allocN m q G l).2.2 D Ls' ∧ FR v' (allocN m q G l).1 Lv' ∧ St H0 B0 B' (Lv' ++ (Ls' ++ L)) H') ∨
      ((allocN m q G l).2.1 ≠ 0 ∧ ∃ B' H' Ls' w, o = (.ret, f8_X_L0 p (str s) (.int .i64 0) (.int .i64 (allocN m q G l).2.1) (i64 was) w, H') ∧ MoC B B' ∧ RK p xv ((allocN m q G l).2.2.back was) D Ls' ∧ St H0 B0 B' (Ls' ++ L) H')) := by
  have hneed : need s.length ≤ 10000 := by unfold need; split <;> omega
  have hm5 : m ≤ 512 := by have := hO.n2; omega
  intro q
  induction q with
  | zero =>
    intro i B H G Ls Lv l v hi hG hP hF hll hS
    refine Ev.succ (fun K K2 => f8_L0_succ K _ _ _ _ _ K2 H) ?_
    repeat (first|refine zA ?_|refine zB fun _ _ _=>?_|refine zC fun _ _ _=>?_|refine zD fun _ _=>?_|refine zE ?_|refine zF ?_)
    refine Ev.b2 (rNeed_spec (n := s.length)) ?_
    rintro _ _ h
    cases h
    repeat (first | (first|refine zA ?_|refine zB fun _ _ _=>?_|refine zC fun _ _ _=>?_|refine zD fun _ _=>?_|refine zE ?_|refine zF ?_) | rw [decide_eq_true (by omega)] | rw [decide_eq_false (by omega)])
    exact Ev.ret (.inl ⟨rfl, B, H, Ls, Lv, v, rfl, ⟨Mo.refl B⟩, hP, hF, hS⟩)
  | succ q ih =>
    intro i B H G Ls Lv l v hi hG hP hF hll hS
    refine Ev.succ (fun K K2 => f8_L0_succ K _ _ _ _ _ K2 H) ?_
    repeat (first|refine zA ?_|refine zB fun _ _ _=>?_|refine zC fun _ _ _=>?_|refine zD fun _ _=>?_|refine zE ?_|refine zF ?_)
    refine Ev.b2 (rNeed_spec (n := s.length)) ?_
    rintro _ _ h
    cases h
    repeat (first | (first|refine zA ?_|refine zB fun _ _ _=>?_|refine zC fun _ _ _=>?_|refine zD fun _ _=>?_|refine zE ?_|refine zF ?_) | rw [decide_eq_true (by omega)] | rw [decide_eq_false (by omega)])
    have hgl := hG.len
    refine Ev.b2 (rAlloc_spec hP hO (by omega) (hS.perm (L' := Ls ++ (Lv ++ L)) (by (refine perm_cnt ?_; intro _ a; simp only [List.count_append, List.count_cons, List.cons_append, List.nil_append, List.append_assoc]; try ac_rfl)))) ?_
    rw [hm]
    have hGa := hG.alloc
    unfold allocN
    generalize G.alloc m = a at hGa
    obtain ⟨a1, a2, G1⟩ := a
    dsimp only at hGa ⊢
    rintro _ H1 ⟨rfl, Ls1, B1, hm1, hP1, hS1⟩
    dsimp only at hS1
    clear hS
    repeat (first|refine zA ?_|refine zB fun _ _ _=>?_|refine zC fun _ _ _=>?_|refine zD fun _ _=>?_|refine zE ?_|refine zF ?_)
    by_cases he : a2 = 0
    case neg =>
      rw [if_pos he, decide_eq_true he]
      repeat (first|refine zA ?_|refine zB fun _ _ _=>?_|refine zC fun _ _ _=>?_|refine zD fun _ _=>?_|refine zE ?_|refine zF ?_)
      have hgl2 := hGa.len
      refine Ev.b2 (rBack_spec (many := (was : Int)) hP1 (by omega) hS1) ?_
      rintro _ H2 ⟨rfl, Ls2, B2, hm2, hP2, hS2⟩
      dsimp only at hS2
      repeat (first|refine zA ?_|refine zB fun _ _ _=>?_|refine zC fun _ _ _=>?_|refine zD fun _ _=>?_|refine zE ?_|refine zF ?_)
      exact Ev.ret (.inr ⟨he, B2, H2, Ls2, v, rfl, ⟨hm1.mo.trans hm2.mo⟩, hP2, hS2.drop (List.Sublist.append_left (List.sublist_append_right _ _) _)⟩)
    rw [if_neg (by simpa using he), decide_eq_false (by simpa using he)]
    repeat (first|refine zA ?_|refine zB fun _ _ _=>?_|refine zC fun _ _ _=>?_|refine zD fun _ _=>?_|refine zE ?_|refine zF ?_)
    refine FRS.push (x := a1) eltI hF (hS1.perm (L' := Lv ++ (Ls1 ++ L)) (by (refine perm_cnt ?_; intro _ a; simp only [List.count_append, List.count_cons, List.cons_append, List.nil_append, List.append_assoc]; try ac_rfl))) (by omega) fun v' Lv' H2 hF2 hS2 => ?_
    clear hS1
    repeat (first | (first|refine zA ?_|refine zB fun _ _ _=>?_|refine zC fun _ _ _=>?_|refine zD fun _ _=>?_|refine zE ?_|refine zF ?_) | rw [decide_eq_true (by omega)] | rw [decide_eq_false (by omega)])
    refine (ih (i + 1) B1 H2 G1 Ls1 Lv' _ v' (by omega) hGa hP1 hF2 (by rw [List.length_append, List.length_singleton, hll]) hS2).mono ?_
    rintro o (⟨h1, B', H', Ls', Lv2, v2, e, hm', h2⟩ | ⟨h1, B', H', Ls', w, e, hm', h2⟩)
    · exact .inl ⟨h1, B', H', Ls', Lv2, v2, e, ⟨hm1.mo.trans hm'.mo⟩, h2⟩
    · exact .inr ⟨h1, B', H', Ls', w, e, ⟨hm1.mo.trans hm'.mo⟩, h2⟩
theorem piece_at {s : List UInt8} {i : Nat} (hs : s.length ≤ 60000) (hi : i < need s.length) : 118 * i ≤ s.length ∧ (s.drop (118 * i)).take (min s.length (118 * (i + 1)) - 118 * i) = pieceT s i := by
  have h1 : 118 * i ≤ s.length := by
    unfold need at hi
    split at hi <;> omega
  refine ⟨h1, ?_⟩
  unfold pieceT
  rcases Nat.le_total s.length (118 * (i + 1)) with h | h
  · rw [Nat.min_eq_left h, List.take_of_length_le (by rw [List.length_drop]; exact Nat.le_refl _), List.take_of_length_le (by rw [List.length_drop]; omega)]
  · rw [Nat.min_eq_right h, show 118 * (i + 1) - 118 * i = 118 by omega]
theorem rb_lay {p xv : Value} {m was : Nat} {v : Value} {s : List UInt8} {l : List Int} {Lv : List (Nat × Blk)} (hm5 : m ≤ 512) (hs : s.length ≤ 60000) (hl : ∀ x ∈ l, 0 ≤ x ∧ x < m) (hln : l.length = need s.length) (hF : FR v l Lv) : ∀ (q i : Nat) (B H : AH) (G : Pgr) (D : Dsk) (Ls : List (Nat × Blk)), i + q = l.length → G.In m → D.OK → D.n / 2 = m → D.cache.length + 2 * q < 100000000 → RK p xv G D Ls → St H0 B0 B (Lv ++ (Ls ++ L)) H →
    Ev (fun K K2 => f8_L1 K p (str s) (i64 was) v (i64 i) K2 H) (fun o =>
      ((layN s l q i G D).1 = 0 ∧ ∃ B' H' Ls', o = (.exit 2, f8_X_L1 unk unk v, H') ∧ MoC B B' ∧ RK p xv (layN s l q i G D).2.1 (layN s l q i G D).2.2 Ls' ∧ St H0 B0 B' (Lv ++ (Ls' ++ L)) H') ∨
      ((layN s l q i G D).1 ≠ 0 ∧ ∃ B' H' Ls', o = (.ret, f8_X_L1 (.int .i64 0) (.int .i64 (layN s l q i G D).1) v, H') ∧ MoC B B' ∧ RK p xv ((layN s l q i G D).2.1.back was) (layN s l q i G D).2.2 Ls' ∧ St H0 B0 B' (Lv ++ (Ls' ++ L)) H')) := by
  have hneed : need s.length ≤ 10000 := by unfold need; split <;> omega
  have hlv := hF.len (Und.eq (P := Tryz.prog) (t := 51))
  intro q
  induction q with
  | zero =>
    intro i B H G D Ls hi hG hO hm hc hP hS
    refine Ev.succ (fun K K2 => f8_L1_succ K _ _ _ _ _ K2 H) ?_
    refine Ev.prim hlv ?_
    repeat (first | (first|refine zA ?_|refine zB fun _ _ _=>?_|refine zC fun _ _ _=>?_|refine zD fun _ _=>?_|refine zE ?_|refine zF ?_) | rw [decide_eq_true (by omega)] | rw [decide_eq_false (by omega)])
    exact Ev.ret (.inl ⟨rfl, B, H, Ls, rfl, ⟨Mo.refl B⟩, hP, hS⟩)
  | succ q ih =>
    intro i B H G D Ls hi hG hO hm hc hP hS
    refine Ev.succ (fun K K2 => f8_L1_succ K _ _ _ _ _ K2 H) ?_
    refine Ev.prim hlv ?_
    repeat (first | (first|refine zA ?_|refine zB fun _ _ _=>?_|refine zC fun _ _ _=>?_|refine zD fun _ _=>?_|refine zE ?_|refine zF ?_) | rw [decide_eq_true (by omega)] | rw [decide_eq_false (by omega)])
    refine Ev.prim hlv ?_
    repeat (first|refine zA ?_|refine zB fun _ _ _=>?_|refine zC fun _ _ _=>?_|refine zD fun _ _=>?_|refine zE ?_|refine zF ?_)
    have hN := hF.now hS fun x hx => List.mem_append_left _ hx
    have hat : ∀ a, a < l.length → (intV l)[a]? = some (.int .i64 (l.getD a 0)) := fun a ha => by
      unfold intV
      rw [List.getElem?_map, List.getElem?_eq_getElem ha, List.getD, List.getElem?_eq_getElem ha]; rfl
    obtain ⟨hp1, hp2⟩ := piece_at (i := i) hs (by omega)
    have go : ∀ nx : Nat, (nx : Int) = nextL l i → Ev (fun K K2 => f8_J0 K K2 p (str s) (i64 was) v (i64 i) (i64 nx) H) (fun o =>
      ((layN s l (q + 1) i G D).1 = 0 ∧ ∃ B' H' Ls', o = (.exit 2, f8_X_L1 unk unk v, H') ∧ MoC B B' ∧ RK p xv (layN s l (q + 1) i G D).2.1 (layN s l (q + 1) i G D).2.2 Ls' ∧ St H0 B0 B' (Lv ++ (Ls' ++ L)) H') ∨
      ((layN s l (q + 1) i G D).1 ≠ 0 ∧ ∃ B' H' Ls', o = (.ret, f8_X_L1 (.int .i64 0) (.int .i64 (layN s l (q + 1) i G D).1) v, H') ∧ MoC B B' ∧ RK p xv ((layN s l (q + 1) i G D).2.1.back was) (layN s l (q + 1) i G D).2.2 Ls' ∧ St H0 B0 B' (Lv ++ (Ls' ++ L)) H')) := by
      intro nx hnx
      refine Ev.eq (fun K K2 => f8_J0_eq K K2 _ _ _ _ _ _ H) ?_
      repeat (first|refine zA ?_|refine zB fun _ _ _=>?_|refine zC fun _ _ _=>?_|refine zD fun _ _=>?_|refine zE ?_|refine zF ?_)
      rw [show (if ((118 * (i + 1) : Nat) : Int) < (s.length : Int) then ((118 * (i + 1) : Nat) : Int) else (s.length : Int)) = ((min s.length (118 * (i + 1)) : Nat) : Int) by split <;> omega]
      refine Ev.prim (slc_str2 (l := s) (118 * i) (min s.length (118 * (i + 1))) rfl rfl (by omega) (Nat.min_le_left _ _)) ?_
      rw [hp2]
      refine Ev.ixN (t := 51) hN i rfl (by omega) (hat i (by omega)) fun pp hp => ?_
      refine Ev.prim (hp.eq H (Mo.refl H)) ?_
      refine Ev.prim (shrL (by decide)) ?_
      refine Ev.prim (toU8 (Und.eq (P := Tryz.prog) (t := 3)) (Und.eq (P := Tryz.prog) (t := 5))) ?_
      refine Ev.prim (toU8 (Und.eq (P := Tryz.prog) (t := 3)) (Und.eq (P := Tryz.prog) (t := 5))) ?_
      refine Ev.bsC (by decide) fun bb H1 hS1 => ?_
      rw [show nx / 2 ^ 8 = nx / 256 from rfl, show [u8 (nx / 256 % 256), u8 (nx % 256)] = byts [UInt8.ofNat (nx / 256), UInt8.ofNat nx] from rfl] at hS1
      refine Ev.prim (cvS_part (d := 9) (bs := hdr nx) hS1 (.head _) (Nat.le_refl _) (by show 0 + 2 ≤ 2; decide)) ?_
      rw [show ((hdr nx).drop 0).take 2 = hdr nx from rfl]
      have hpl : (pieceT s i).length ≤ 118 := by unfold pieceT; rw [List.length_take]; omega
      refine Ev.prim (add_str (a := hdr nx) (b := pieceT s i) (by unfold hdr; simp; omega)) ?_
      have eb : hdr nx ++ pieceT s i = pageL s l i := by unfold pageL; rw [← hnx, Int.toNat_natCast]
      rw [eb]
      have hgl := hG.len
      have hlen : (pageL s l i).length < 9223372036854775808 := by rw [← eb]; unfold hdr; simp; omega
      refine Ev.b2 (rWrite_spec (n := l.getD i 0) (kind := 2) (t := pageL s l i) (L := Lv ++ L) hP hO (by omega) (by omega) hlen (by decide) (hS1.drop1.perm (by (refine perm_cnt ?_; intro _ a; simp only [List.count_append, List.count_cons, List.cons_append, List.nil_append, List.append_assoc]; try ac_rfl)))) ?_
      obtain ⟨w1, w2, w3⟩ := G.write_ok hO (l.getD i 0) 2 (pageL s l i)
      have w4 := hG.write D (l.getD i 0) 2 (pageL s l i)
      unfold layN
      generalize G.write D (l.getD i 0) 2 (pageL s l i) = w at w1 w2 w3 w4
      obtain ⟨e, G1, D1⟩ := w
      dsimp only at w1 w2 w3 w4 ⊢
      rintro _ H2 ⟨rfl, Ls2, B2, hm2, hP2, hS2⟩
      dsimp only at hS2
      clear hS1
      repeat (first|refine zA ?_|refine zB fun _ _ _=>?_|refine zC fun _ _ _=>?_|refine zD fun _ _=>?_|refine zE ?_|refine zF ?_)
      by_cases he : e = 0
      case neg =>
        rw [if_pos he, decide_eq_true he]
        repeat (first|refine zA ?_|refine zB fun _ _ _=>?_|refine zC fun _ _ _=>?_|refine zD fun _ _=>?_|refine zE ?_|refine zF ?_)
        have hgl2 := w4.len
        refine Ev.b2 (rBack_spec (many := (was : Int)) hP2 (by omega) hS2) ?_
        rintro _ H3 ⟨rfl, Ls3, B3, hm3, hP3, hS3⟩
        dsimp only at hS3
        repeat (first|refine zA ?_|refine zB fun _ _ _=>?_|refine zC fun _ _ _=>?_|refine zD fun _ _=>?_|refine zE ?_|refine zF ?_)
        exact Ev.ret (.inr ⟨he, B3, H3, Ls3, rfl, ⟨hm2.mo.trans hm3.mo⟩, hP3, hS3.perm (by (refine perm_cnt ?_; intro _ a; simp only [List.count_append, List.count_cons, List.cons_append, List.nil_append, List.append_assoc]; try ac_rfl))⟩)
      rw [if_neg (by simpa using he), decide_eq_false (by simpa using he)]
      repeat (first | (first|refine zA ?_|refine zB fun _ _ _=>?_|refine zC fun _ _ _=>?_|refine zD fun _ _=>?_|refine zE ?_|refine zF ?_) | rw [decide_eq_true (by omega)] | rw [decide_eq_false (by omega)])
      refine (ih (i + 1) B2 H2 G1 D1 Ls2 (by omega) w4 w1 (by rw [w2]; exact hm) (by omega) hP2 (hS2.perm (by (refine perm_cnt ?_; intro _ a; simp only [List.count_append, List.count_cons, List.cons_append, List.nil_append, List.append_assoc]; try ac_rfl)))).mono ?_
      rintro o (⟨h1, B', H', Ls', e', hm', h2⟩ | ⟨h1, B', H', Ls', e', hm', h2⟩)
      · exact .inl ⟨h1, B', H', Ls', e', ⟨hm2.mo.trans hm'.mo⟩, h2⟩
      · exact .inr ⟨h1, B', H', Ls', e', ⟨hm2.mo.trans hm'.mo⟩, h2⟩
    by_cases hlast : i + 1 < l.length
    · rw [decide_eq_true (by omega)]
      repeat (first | (first|refine zA ?_|refine zB fun _ _ _=>?_|refine zC fun _ _ _=>?_|refine zD fun _ _=>?_|refine zE ?_|refine zF ?_) | rw [decide_eq_true (by omega)] | rw [decide_eq_false (by omega)])
      refine Ev.ixN (t := 51) hN (i + 1) rfl (by omega) (hat (i + 1) hlast) fun pp2 hp2 => ?_
      refine Ev.prim (hp2.eq H (Mo.refl H)) ?_
      have hx := hl (l.getD (i + 1) 0) (by rw [List.getD, List.getElem?_eq_getElem hlast]; exact List.getElem_mem hlast)
      have := go (l.getD (i + 1) 0).toNat (by unfold nextL; omega)
      have e9 : i64 (l.getD (i + 1) 0).toNat = Value.int .i64 (l.getD (i + 1) 0) := by
        show Value.int .i64 ((l.getD (i + 1) 0).toNat : Int) = _
        rw [Int.toNat_of_nonneg hx.1]
      rw [e9] at this
      exact this
    · rw [decide_eq_false (by omega)]
      repeat (first | (first|refine zA ?_|refine zB fun _ _ _=>?_|refine zC fun _ _ _=>?_|refine zD fun _ _=>?_|refine zE ?_|refine zF ?_) | rw [decide_eq_true (by omega)] | rw [decide_eq_false (by omega)])
      exact go 0 (by unfold nextL; rw [List.getD, List.getElem?_eq_none (by omega)]; rfl)
theorem rbWrite_spec {p xv : Value} {G : Pgr} {D : Dsk} {Ls : List (Nat × Blk)} {s : List UInt8} (hO : D.OK) (hG : G.In (D.n / 2)) (hc : D.cache.length < 10000000) (hsl : s.length < 9223372036854775808) (hP : RK p xv G D Ls) (hS : St H0 B0 B (Ls ++ L) H) :
    Ev (fun K _ => rn K 8 [p, str s] H) (RgP H0 B0 B L p xv (.tuple #[.int .i64 (G.bwrite D s).1, .int .i64 (G.bwrite D s).2.1]) (G.bwrite D s).2.2.1 (G.bwrite D s).2.2.2) := by
  have hP0 := hP
  have hm5 := hO.n2
  refine Ev.fn (fun K => f8_eq K _ _ H) ?_
  have hnp := need_pos s.length
  unfold Pgr.bwrite
  repeat (first|refine zA ?_|refine zB fun _ _ _=>?_|refine zC fun _ _ _=>?_|refine zD fun _ _=>?_|refine zE ?_|refine zF ?_)
  by_cases h6 : 60000 < s.length
  · rw [if_pos h6, decide_eq_true h6]
    repeat (first|refine zA ?_|refine zB fun _ _ _=>?_|refine zC fun _ _ _=>?_|refine zD fun _ _=>?_|refine zE ?_|refine zF ?_)
    exact Ev.ret ⟨rfl, Ls, B, ⟨Mo.refl B⟩, hP0, hS⟩
  rw [if_neg h6, decide_eq_false h6]
  obtain ⟨rb, uv, fv, Lu, Lf, Ld, rfl, hD, hK, hF, rfl⟩ := hP
  obtain ⟨d, rfl⟩ := hD.ptr
  have hcu := hK.cell
  have hcell := hF.cell
  simp only [List.cons_append] at hS
  repeat (first|refine zA ?_|refine zB fun _ _ _=>?_|refine zC fun _ _ _=>?_|refine zD fun _ _=>?_|refine zE ?_|refine zF ?_)
  refine Ev.prim (hF.len (Und.eq (P := Tryz.prog) (t := 51))) ?_
  refine Ev.bind (Ev.loop (rb_alloc (m := D.n / 2) (was := G.fresh.length) (s := s) hO rfl (by omega) (need s.length) 0 B H G _ [] [] (.slice none 0 0) (by omega) hG hP0 FRS.nil rfl hS)) ?_
  clear hS
  obtain ⟨a1, a2, a3⟩ := allocN_in (m := D.n / 2) (need s.length) G [] hG (fun x hx => by cases hx)
  generalize allocN (D.n / 2) (need s.length) G [] = a at a1 a2 a3
  obtain ⟨l, e, G1⟩ := a
  dsimp only at a1 a2 a3 ⊢
  rintro _ (⟨h1, B1, H1, Ls1, Lv1, v1, rfl, hm1, hP1, hF1, hS1⟩ | ⟨h1, B1, H1, Ls1, w, rfl, hm1, hP1, hS1⟩)
  case inr =>
    rw [if_pos h1]
    refine Ev.eq (fun K _ => f8_A0_ret K _ _ _ _ _ _ H1) ?_
    exact Ev.ret ⟨rfl, Ls1, B1, hm1, hP1, hS1⟩
  rw [if_neg (by simpa using h1)]
  have hln : l.length = need s.length := by have := a3 h1; simpa using this
  have hneed : need s.length ≤ 10000 := by unfold need; split <;> omega
  refine Ev.eq (fun K _ => f8_A0_x0 K _ _ _ _ _ _ H1) ?_
  refine Ev.bind (Ev.loop (rb_lay (m := D.n / 2) (was := G.fresh.length) (s := s) (l := l) (by omega) (by omega) a2 hln hF1 l.length 0 B1 H1 G1 D Ls1 (by omega) a1 hO rfl (by omega) hP1 hS1)) ?_
  clear hS1
  rw [hln]
  generalize layN s l (need s.length) 0 G1 D = w
  obtain ⟨e2, G2, D2⟩ := w
  dsimp only
  rintro _ (⟨h2, B2, H2, Ls2, rfl, hm2, hP2, hS2⟩ | ⟨h2, B2, H2, Ls2, rfl, hm2, hP2, hS2⟩)
  case inr =>
    rw [if_pos h2]
    refine Ev.eq (fun K _ => f8_A1_ret K _ _ _ H2) ?_
    exact Ev.ret ⟨rfl, Ls2, B2, ⟨hm1.mo.trans hm2.mo⟩, hP2, hS2.drop (List.sublist_append_right _ _)⟩
  rw [if_neg (by simpa using h2)]
  refine Ev.eq (fun K _ => f8_A1_x2 K _ _ _ H2) ?_
  have hN := hF1.now hS2 fun x hx => List.mem_append_left _ hx
  refine Ev.ixN (t := 51) (x := .int .i64 (l.getD 0 0)) hN 0 rfl (by omega) (by unfold intV; rw [List.getElem?_map, List.getD, List.getElem?_eq_getElem (show 0 < l.length by omega)]; rfl) fun pp hp => ?_
  refine Ev.prim (hp.eq H2 (Mo.refl H2)) ?_
  exact Ev.ret ⟨rfl, Ls2, B2, ⟨hm1.mo.trans hm2.mo⟩, hP2, hS2.drop (List.sublist_append_right _ _)⟩
end
end Go.AM.F
namespace Go.AM.F
open Go Go.AM Go.Proofs
attribute [local irreducible] run bin un ld st box newV mkS fldA fld ixA ix slc slc3 build buildS cv cvS ap cpy lenV gOp pickV b2 aIf aChk evalK resume iterD Option.bind

section
variable {B B0 H0 H : AH} {L : List (Nat × Blk)}
theorem rseen_spec {v : Value} {l : List Int} {x : Int} {Lf Lx : List (Nat × Blk)} (hF : FR v l Lf) (hl : l.length < 1000000000000) (hS : St H0 B0 B Lx H) (hsub : ∀ p ∈ Lf, p ∈ Lx) : Ev (fun k _ => rn k 70 [v, .int .i64 x] H) (fun r => r = (.bool (decide (x ∈ l)), H)) := by
  refine Ev.fn (fun k => f70_eq k _ _ H) ?_
  have hN := hF.now hS hsub
  have hlv := hF.len (Und.eq (P := Tryz.prog) (t := 51))
  have key : ∀ (m i : Nat), i + m = l.length → Ev (fun k K => f70_L0 k v (.int .i64 x) (i64 i) K H) (fun o => (x ∈ l.drop i ∧ o = (.ret, f70_X_L0 (.bool true), H)) ∨ (x ∉ l.drop i ∧ o = (.exit 0, f70_X_L0 unk, H))) := by
    intro m
    induction m with
    | zero =>
      intro i hi
      refine Ev.succ (fun k K => f70_L0_succ k _ _ _ K H) ?_
      refine Ev.prim hlv ?_
      repeat (first | (first|refine zA ?_|refine zB fun _ _ _=>?_|refine zC fun _ _ _=>?_|refine zD fun _ _=>?_|refine zE ?_|refine zF ?_) | rw [decide_eq_true (by omega)] | rw [decide_eq_false (by omega)])
      exact Ev.ret (.inr ⟨by rw [List.drop_of_length_le (by omega)]; exact List.not_mem_nil, rfl⟩)
    | succ m ih =>
      intro i hi
      refine Ev.succ (fun k K => f70_L0_succ k _ _ _ K H) ?_
      refine Ev.prim hlv ?_
      repeat (first | (first|refine zA ?_|refine zB fun _ _ _=>?_|refine zC fun _ _ _=>?_|refine zD fun _ _=>?_|refine zE ?_|refine zF ?_) | rw [decide_eq_true (by omega)] | rw [decide_eq_false (by omega)])
      obtain ⟨y, hy⟩ : ∃ y, l[i]? = some y := ⟨_, List.getElem?_eq_getElem (by omega)⟩
      have hd : l.drop i = y :: l.drop (i + 1) := by
        have h1 := List.getElem?_eq_some_iff.1 hy
        rw [← h1.2]; exact List.drop_eq_getElem_cons h1.1
      refine Ev.ixN (t := 51) (x := .int .i64 y) hN i rfl (by omega) (by unfold intV; rw [List.getElem?_map, hy]; rfl) fun pp hp => ?_
      refine Ev.prim (hp.eq H (Mo.refl H)) ?_
      repeat (first|refine zA ?_|refine zB fun _ _ _=>?_|refine zC fun _ _ _=>?_|refine zD fun _ _=>?_|refine zE ?_|refine zF ?_)
      rw [hd]
      by_cases hyx : y = x
      · rw [decide_eq_true hyx]
        repeat (first|refine zA ?_|refine zB fun _ _ _=>?_|refine zC fun _ _ _=>?_|refine zD fun _ _=>?_|refine zE ?_|refine zF ?_)
        exact Ev.ret (.inl ⟨by rw [hyx]; exact .head _, rfl⟩)
      · rw [decide_eq_false hyx]
        repeat (first | (first|refine zA ?_|refine zB fun _ _ _=>?_|refine zC fun _ _ _=>?_|refine zD fun _ _=>?_|refine zE ?_|refine zF ?_) | rw [decide_eq_true (by omega)] | rw [decide_eq_false (by omega)])
        refine (ih (i + 1) (by omega)).mono ?_
        rintro o (⟨h, e⟩ | ⟨h, e⟩)
        · exact .inl ⟨.tail _ h, e⟩
        · exact .inr ⟨fun hh => by rcases List.mem_cons.1 hh with h2 | h2; exact hyx h2.symm; exact h h2, e⟩
  refine Ev.bind (Ev.loop (key l.length 0 (by omega))) ?_
  rintro _ (⟨h, rfl⟩ | ⟨h, rfl⟩)
  · rw [List.drop_zero] at h
    refine Ev.eq (fun k _ => f70_A0_ret k _ H) ?_
    rw [decide_eq_true h]
    exact Ev.ret rfl
  · rw [List.drop_zero] at h
    refine Ev.eq (fun k _ => f70_A0_x0 k _ H) ?_
    rw [decide_eq_false h]
    exact Ev.ret rfl
theorem rwalk_loop {p xv : Value} {D : Dsk} {m : Nat} (hO : D.OK) (hm : D.n / 2 = m) (hc : D.cache.length < 1000000000000) : ∀ (k : Nat) (B H : AH) (G : Pgr) (Ls Lv : List (Nat × Blk)) (l : List Int) (v : Value) (s : List UInt8) (a : Int), l.length + k = 513 → l.length ≤ 512 → s.length ≤ 128 * l.length → RK p xv G D Ls → FR v l Lv → St H0 B0 B (Lv ++ (Ls ++ L)) H →
    Ev (fun K K2 => f51_L0 K p v (str s) (.int .i64 a) K2 H) (fun o => ∃ B' H' Ls' Lv' v', o = (.ret, f51_X_L0 v' (str (walkR D m k G l s a).1.2.1) (.int .i64 (walkR D m k G l s a).1.2.2), H') ∧ MoC B B' ∧ RK p xv (walkR D m k G l s a).2 D Ls' ∧ FR v' (walkR D m k G l s a).1.1 Lv' ∧ St H0 B0 B' (Lv' ++ (Ls' ++ L)) H') := by
  intro k
  induction k with
  | zero => intro B H G Ls Lv l v s a hk hl; omega
  | succ k ih =>
    intro B H G Ls Lv l v s a hk hl hsl hP hF hS
    have hm5 := hO.n2
    have hlv := hF.len (Und.eq (P := Tryz.prog) (t := 51))
    have hcv := hF.cell
    refine Ev.succ (fun K K2 => f51_L0_succ K _ _ _ _ K2 H) ?_
    refine Ev.b2 (rRead_spec (n := a) hP hO hc (hS.perm (L' := Ls ++ (Lv ++ L)) (by (refine perm_cnt ?_; intro _ a; simp only [List.count_append, List.count_cons, List.cons_append, List.nil_append, List.append_assoc]; try ac_rfl)))) ?_
    have htl := gread_len hO G a
    unfold walkR
    generalize G.read D a = r at htl
    obtain ⟨⟨kd, t, e⟩, G1⟩ := r
    dsimp only at htl ⊢
    rintro _ H1 ⟨rfl, Ls1, B1, hm1, hP1, hS1⟩
    dsimp only at hS1
    clear hS
    unfold OpenV
    dsimp only
    have none0 : St H0 B0 B1 (Ls1 ++ L) H1 := hS1.drop (List.Sublist.append_left (List.sublist_append_right _ _) _)
    have noneA : St H0 B0 B1 ([] ++ (Ls1 ++ L)) H1 := none0
    repeat (first|refine zA ?_|refine zB fun _ _ _=>?_|refine zC fun _ _ _=>?_|refine zD fun _ _=>?_|refine zE ?_|refine zF ?_)
    by_cases he : e = 0
    case neg =>
      rw [if_pos he, decide_eq_true he]
      repeat (first|refine zA ?_|refine zB fun _ _ _=>?_|refine zC fun _ _ _=>?_|refine zD fun _ _=>?_|refine zE ?_|refine zF ?_)
      exact Ev.ret ⟨B1, H1, Ls1, [], .slice none 0 0, rfl, hm1, hP1, FRS.nil, noneA⟩
    rw [if_neg (by simpa using he), decide_eq_false (by simpa using he)]
    repeat (first|refine zA ?_|refine zB fun _ _ _=>?_|refine zC fun _ _ _=>?_|refine zD fun _ _=>?_|refine zE ?_|refine zF ?_)
    by_cases h1 : kd = 2
    case neg =>
      rw [if_pos (.inl h1), decide_eq_true h1]
      repeat (first|refine zA ?_|refine zB fun _ _ _=>?_|refine zC fun _ _ _=>?_|refine zD fun _ _=>?_|refine zE ?_|refine zF ?_)
      exact Ev.ret ⟨B1, H1, Ls1, [], .slice none 0 0, rfl, hm1, hP1, FRS.nil, noneA⟩
    rw [decide_eq_false (by simpa using h1)]
    repeat (first|refine zA ?_|refine zB fun _ _ _=>?_|refine zC fun _ _ _=>?_|refine zD fun _ _=>?_|refine zE ?_|refine zF ?_)
    by_cases h2 : t.length < 2
    · rw [if_pos (.inr (.inl h2)), decide_eq_true h2]
      repeat (first|refine zA ?_|refine zB fun _ _ _=>?_|refine zC fun _ _ _=>?_|refine zD fun _ _=>?_|refine zE ?_|refine zF ?_)
      exact Ev.ret ⟨B1, H1, Ls1, [], .slice none 0 0, rfl, hm1, hP1, FRS.nil, noneA⟩
    rw [decide_eq_false h2]
    repeat (first|refine zA ?_|refine zB fun _ _ _=>?_|refine zC fun _ _ _=>?_|refine zD fun _ _=>?_|refine zE ?_|refine zF ?_)
    rw [hlv, Option.bind_some]
    repeat (first|refine zA ?_|refine zB fun _ _ _=>?_|refine zC fun _ _ _=>?_|refine zD fun _ _=>?_|refine zE ?_|refine zF ?_)
    by_cases h3 : 512 ≤ l.length
    · rw [if_pos (.inr (.inr h3)), decide_eq_true h3]
      repeat (first|refine zA ?_|refine zB fun _ _ _=>?_|refine zC fun _ _ _=>?_|refine zD fun _ _=>?_|refine zE ?_|refine zF ?_)
      exact Ev.ret ⟨B1, H1, Ls1, [], .slice none 0 0, rfl, hm1, hP1, FRS.nil, noneA⟩
    rw [if_neg (fun h => by rcases h with h | h | h; exact h h1; exact h2 h; exact h3 h), decide_eq_false h3]
    repeat (first|refine zA ?_|refine zB fun _ _ _=>?_|refine zC fun _ _ _=>?_|refine zD fun _ _=>?_|refine zE ?_|refine zF ?_)
    refine FRS.push (x := a) eltI hF (hS1.perm (L' := Lv ++ (Ls1 ++ L)) (by (refine perm_cnt ?_; intro _ a; simp only [List.count_append, List.count_cons, List.cons_append, List.nil_append, List.append_assoc]; try ac_rfl))) (by omega) fun v' Lv' H2 hF2 hS2 => ?_
    clear hS1 noneA none0
    have hcv' := hF2.cell
    refine Ev.prim (slc_str (l := t) 2 rfl (by omega)) ?_
    have hdl : (t.drop 2).length ≤ 128 := by rw [List.length_drop]; omega
    refine Ev.prim (add_str (a := s) (b := t.drop 2) (by omega)) ?_
    have hb0 := UInt8.toNat_lt (t.getD 0 0)
    have hb1 := UInt8.toNat_lt (t.getD 1 0)
    refine Ev.prim (ix_str (l := t) 0 rfl (by omega)) ?_
    repeat (first|refine zA ?_|refine zB fun _ _ _=>?_|refine zC fun _ _ _=>?_|refine zD fun _ _=>?_|refine zE ?_|refine zF ?_)
    refine Ev.prim (shl8 (by omega)) ?_
    refine Ev.prim (ix_str (l := t) 1 rfl (by omega)) ?_
    repeat (first|refine zA ?_|refine zB fun _ _ _=>?_|refine zC fun _ _ _=>?_|refine zD fun _ _=>?_|refine zE ?_|refine zF ?_)
    refine Ev.prim (or8 (by omega) hb1) ?_
    rw [show (t.getD 0 0).toNat * 256 + (t.getD 1 0).toNat = nextT t from rfl]
    have hnx : nextT t < 65536 := by unfold nextT; omega
    have hsl2 : (s ++ t.drop 2).length ≤ 128 * (l ++ [a]).length := by rw [List.length_append, List.length_append, List.length_singleton]; omega
    have hll2 : (l ++ [a]).length = l.length + 1 := by rw [List.length_append, List.length_singleton]
    generalize nextT t = nx at hnx
    repeat (first|refine zA ?_|refine zB fun _ _ _=>?_|refine zC fun _ _ _=>?_|refine zD fun _ _=>?_|refine zE ?_|refine zF ?_)
    by_cases hz : nx = 0
    · rw [if_pos hz, decide_eq_true hz]
      repeat (first|refine zA ?_|refine zB fun _ _ _=>?_|refine zC fun _ _ _=>?_|refine zD fun _ _=>?_|refine zE ?_|refine zF ?_)
      exact Ev.ret ⟨B1, H2, Ls1, Lv', v', rfl, hm1, hP1, hF2, hS2⟩
    rw [if_neg hz, decide_eq_false hz]
    repeat (first|refine zA ?_|refine zB fun _ _ _=>?_|refine zC fun _ _ _=>?_|refine zD fun _ _=>?_|refine zE ?_|refine zF ?_)
    have none3 : St H0 B0 B1 (Ls1 ++ L) H2 := hS2.drop (List.sublist_append_right _ _)
    have none2 : St H0 B0 B1 ([] ++ (Ls1 ++ L)) H2 := none3
    by_cases hn1 : nx = 1
    · rw [if_pos (.inl hn1), decide_eq_true hn1]
      repeat (first|refine zA ?_|refine zB fun _ _ _=>?_|refine zC fun _ _ _=>?_|refine zD fun _ _=>?_|refine zE ?_|refine zF ?_)
      exact Ev.ret ⟨B1, H2, Ls1, [], .slice none 0 0, rfl, hm1, hP1, FRS.nil, none2⟩
    rw [decide_eq_false hn1]
    have hP1' := hP1
    obtain ⟨rb, uv, fv, Lu, Lf, Ld, hpe, hD1, hK1, hF1, hLs⟩ := hP1'
    obtain ⟨d, rfl⟩ := hD1.ptr
    have hcu := hK1.cell
    have hcf := hF1.cell
    have hlu := hK1.len (Und.eq (P := Tryz.prog) (t := 74))
    rw [boolC_len, hm] at hlu
    have ix : InL rb ⟨[ptr d 0, i64 G1.turn, .int .i64 G1.root, uv, fv, .bool G1.down], 76, .fix⟩ (Lv' ++ (Ls1 ++ L)) := ⟨List.mem_append_right _ (List.mem_append_left _ (by rw [hLs]; exact .head _))⟩
    rw [hpe]
    repeat (first|refine zA ?_|refine zB fun _ _ _=>?_|refine zC fun _ _ _=>?_|refine zD fun _ _=>?_|refine zE ?_|refine zF ?_)
    rw [hlu, Option.bind_some]
    repeat (first|refine zA ?_|refine zB fun _ _ _=>?_|refine zC fun _ _ _=>?_|refine zD fun _ _=>?_|refine zE ?_|refine zF ?_)
    by_cases hn2 : m ≤ nx
    · rw [if_pos (.inr (.inl hn2)), decide_eq_true hn2]
      repeat (first|refine zA ?_|refine zB fun _ _ _=>?_|refine zC fun _ _ _=>?_|refine zD fun _ _=>?_|refine zE ?_|refine zF ?_)
      exact Ev.ret ⟨B1, H2, Ls1, [], .slice none 0 0, rfl, hm1, hpe ▸ hP1, FRS.nil, none2⟩
    rw [decide_eq_false hn2]
    repeat (first|refine zA ?_|refine zB fun _ _ _=>?_|refine zC fun _ _ _=>?_|refine zD fun _ _=>?_|refine zE ?_|refine zF ?_)
    refine Ev.b2 (rseen_spec (x := (nx : Int)) hF2 (by omega) hS2 fun x hx => List.mem_append_left _ hx) ?_
    rintro _ _ h
    cases h
    by_cases hn3 : (nx : Int) ∈ l ++ [a]
    · rw [if_pos (.inr (.inr hn3)), decide_eq_true hn3]
      repeat (first|refine zA ?_|refine zB fun _ _ _=>?_|refine zC fun _ _ _=>?_|refine zD fun _ _=>?_|refine zE ?_|refine zF ?_)
      exact Ev.ret ⟨B1, H2, Ls1, [], .slice none 0 0, rfl, hm1, hpe ▸ hP1, FRS.nil, none2⟩
    rw [if_neg (fun h => by rcases h with h | h | h; exact hn1 h; exact hn2 h; exact hn3 h), decide_eq_false hn3]
    repeat (first|refine zA ?_|refine zB fun _ _ _=>?_|refine zC fun _ _ _=>?_|refine zD fun _ _=>?_|refine zE ?_|refine zF ?_)
    rw [← hpe]
    refine (ih B1 H2 G1 Ls1 Lv' (l ++ [a]) v' (s ++ t.drop 2) (nx : Int) (by omega) (by omega) hsl2 hP1 hF2 hS2).mono ?_
    rintro o ⟨B', H', Ls', Lv2, v2, e', hm', h2⟩
    exact ⟨B', H', Ls', Lv2, v2, e', ⟨hm1.mo.trans hm'.mo⟩, h2⟩
theorem rwalk_spec {p xv : Value} {G : Pgr} {D : Dsk} {Ls : List (Nat × Blk)} {a : Int} (hO : D.OK) (hc : D.cache.length < 1000000000000) (hP : RK p xv G D Ls) (hS : St H0 B0 B (Ls ++ L) H) :
    Ev (fun K _ => rn K 51 [p, .int .i64 a] H) (fun r => ∃ v Lv Ls' B', r.1 = .tuple #[v, str (G.walk D a).1.2.1, .int .i64 (G.walk D a).1.2.2] ∧ MoC B B' ∧ RK p xv (G.walk D a).2 D Ls' ∧ FR v (G.walk D a).1.1 Lv ∧ St H0 B0 B' (Lv ++ (Ls' ++ L)) r.2) := by
  refine Ev.fn (fun K => f51_eq K _ _ H) ?_
  refine Ev.bind (Ev.loop (rwalk_loop hO rfl hc 513 B H G Ls [] [] (.slice none 0 0) [] a rfl (by decide) (Nat.le_refl _) hP FRS.nil hS)) ?_
  rintro _ ⟨B', H', Ls', Lv, v, rfl, hm', h1, h2, h3⟩
  refine Ev.eq (fun K _ => f51_A0_ret K _ _ _ H') ?_
  exact Ev.ret ⟨v, Lv, Ls', B', rfl, hm', h1, h2, h3⟩
theorem rbRead_spec {p xv : Value} {G : Pgr} {D : Dsk} {Ls : List (Nat × Blk)} {a : Int} (hO : D.OK) (hc : D.cache.length < 1000000000000) (hP : RK p xv G D Ls) (hS : St H0 B0 B (Ls ++ L) H) :
    Ev (fun K _ => rn K 16 [p, .int .i64 a] H) (RgP H0 B0 B L p xv (.tuple #[str (G.walk D a).1.2.1, .int .i64 (G.walk D a).1.2.2]) (G.walk D a).2 D) := by
  refine Ev.fn (fun K => f16_eq K _ _ H) ?_
  refine Ev.b2 (rwalk_spec (a := a) hO hc hP hS) ?_
  rintro _ H1 ⟨v, Lv, Ls', B', rfl, hm', h1, h2, h3⟩
  repeat (first|refine zA ?_|refine zB fun _ _ _=>?_|refine zC fun _ _ _=>?_|refine zD fun _ _=>?_|refine zE ?_|refine zF ?_)
  exact Ev.ret ⟨rfl, Ls', B', hm', h1, h3.drop (List.sublist_append_right _ _)⟩
theorem rbPages_spec {p xv : Value} {G : Pgr} {D : Dsk} {Ls : List (Nat × Blk)} {a : Int} (hO : D.OK) (hc : D.cache.length < 1000000000000) (hP : RK p xv G D Ls) (hS : St H0 B0 B (Ls ++ L) H) :
    Ev (fun K _ => rn K 18 [p, .int .i64 a] H) (fun r => ∃ v Lv Ls' B', r.1 = .tuple #[v, .int .i64 (G.walk D a).1.2.2] ∧ MoC B B' ∧ RK p xv (G.walk D a).2 D Ls' ∧ FR v (G.walk D a).1.1 Lv ∧ St H0 B0 B' (Lv ++ (Ls' ++ L)) r.2) := by
  refine Ev.fn (fun K => f18_eq K _ _ H) ?_
  refine Ev.b2 (rwalk_spec (a := a) hO hc hP hS) ?_
  rintro _ H1 ⟨v, Lv, Ls', B', rfl, hm', h1, h2, h3⟩
  repeat (first|refine zA ?_|refine zB fun _ _ _=>?_|refine zC fun _ _ _=>?_|refine zD fun _ _=>?_|refine zE ?_|refine zF ?_)
  exact Ev.ret ⟨v, Lv, Ls', B', rfl, hm', h1, h2, h3⟩
end
end Go.AM.F
namespace Go.AM.F
open Go Go.AM Go.Proofs
attribute [local irreducible] run bin un ld st box newV mkS fldA fld ixA ix slc slc3 build buildS cv cvS ap cpy lenV gOp pickV b2 aIf aChk evalK resume iterD Option.bind

section
variable {B B0 H0 H : AH} {L : List (Nat × Blk)}
theorem DK.ptr {dv : Value} {D : Dsk} {Ls : List (Nat × Blk)} (h : DK dv D Ls) : ∃ d, dv = ptr d 0 := by obtain ⟨d, bb, cv, Lc, hp, _⟩ := h; exact ⟨d, hp⟩
theorem Format_spec {dv : Value} {D : Dsk} {Ls : List (Nat × Blk)} (hD : DK dv D Ls) (hO : D.OK) (hc : D.cache.length + 2 < 1000000000000) (hS : St H0 B0 B (Ls ++ L) H) :
    Ev (fun k _ => rn k 23 [dv] H) (fun r => (D.format.1 ≠ 0 ∧ DkP H0 B0 B L dv (.tuple #[.pointer none, .int .i64 D.format.1]) D.format.2 r) ∨ (D.format.1 = 0 ∧ ∃ p, PgP H0 B0 B L p dv (.tuple #[p, .int .i64 0]) ⟨1, 0, [0, 1], [], false⟩ D.format.2 r)) := by
  refine Ev.fn (fun k => f23_eq k _ H) ?_
  have h2 := hO.n2
  refine Ev.b2 (pages_spec hD hO hS fun x hx => List.mem_append_left _ hx) ?_
  rintro v H1 h
  cases h
  unfold Dsk.format
  by_cases h4 : D.n / 2 < 4
  · rw [if_pos h4]
    repeat (first | (first|refine zA ?_|refine zB fun _ _ _=>?_|refine zC fun _ _ _=>?_|refine zD fun _ _=>?_|refine zE ?_|refine zF ?_) | rw [decide_eq_true (by omega)] | rw [decide_eq_false (by omega)])
    exact Ev.ret (.inl ⟨by simp, rfl, Ls, B, ⟨Mo.refl B⟩, hD, hS⟩)
  rw [if_neg h4]
  obtain ⟨d, rfl⟩ := hD.ptr
  repeat (first | (first|refine zA ?_|refine zB fun _ _ _=>?_|refine zC fun _ _ _=>?_|refine zD fun _ _=>?_|refine zE ?_|refine zF ?_) | rw [decide_eq_true (by omega)] | rw [decide_eq_false (by omega)])
  refine Ev.mkMap (P := Tryz.prog) hS fun mb H1 hS1 => ?_
  refine Ev.mpTrueI (S := []) (kt := 3) (et := 4) (Und.eq (P := Tryz.prog) (t := 81)) (Und.eq (P := Tryz.prog) (t := 3)) hS1 (.head _) (.head _) fun H2 hS2 => ?_
  refine Ev.mpTrueI (S := [0]) (kt := 3) (et := 4) (Und.eq (P := Tryz.prog) (t := 81)) (Und.eq (P := Tryz.prog) (t := 3)) hS2 (.head _) (.head _) fun H3 hS3 => ?_
  clear hS hS1 hS2
  rw [show insI [0] 1 = [0, 1] from rfl] at hS3
  repeat (first | (first|refine zA ?_|refine zB fun _ _ _=>?_|refine zC fun _ _ _=>?_|refine zD fun _ _=>?_|refine zE ?_|refine zF ?_) | rw [decide_eq_true (by omega)] | rw [decide_eq_false (by omega)])
  rename_i pb H4 hS4
  clear hS3
  have hS5 : St H0 B0 B (Ls ++ ((pb, _) :: (mb, _) :: L)) H4 := hS4.perm (permA [_, _] Ls L)
  refine Ev.b2 (hwrite_spec (t := 1) (r := 0) (U := [0, 1]) hD hO (by omega) (by decide) (by decide) (by decide) (.tail _ (.head _)) hS5) ?_
  clear hS4 hS5
  have hwo := pwrite_ok hO ((1 % 2 : Nat) : Int) 1 (textH 1 0 [0, 1])
  have hwc := pwrite_cache D ((1 % 2 : Nat) : Int) 1 (textH 1 0 [0, 1])
  change (hwrite D 1 0 [0, 1]).2.OK at hwo
  change (hwrite D 1 0 [0, 1]).2.cache.length ≤ _ at hwc
  rw [show ((0 : Nat) : Int) = 0 from rfl]
  generalize hwrite D 1 0 [0, 1] = w at hwo hwc ⊢
  obtain ⟨w1, w2⟩ := w
  dsimp only at hwo hwc ⊢
  rintro _ H5 ⟨rfl, Ls5, B5, hm5, hD5, hS5⟩
  dsimp only at hS5
  by_cases hw : w1 = 0
  case neg =>
    rw [if_pos hw]
    repeat (first|refine zA ?_|refine zB fun _ _ _=>?_|refine zC fun _ _ _=>?_|refine zD fun _ _=>?_|refine zE ?_|refine zF ?_)
    rw [decide_eq_true hw]
    repeat (first|refine zA ?_|refine zB fun _ _ _=>?_|refine zC fun _ _ _=>?_|refine zD fun _ _=>?_|refine zE ?_|refine zF ?_)
    exact Ev.ret (.inl ⟨hw, rfl, Ls5, B5, hm5, hD5, hS5.drop (List.Sublist.append_left (.cons _ (.cons _ (List.Sublist.refl _))) _)⟩)
  rw [if_neg (by simpa using hw)]
  repeat (first|refine zA ?_|refine zB fun _ _ _=>?_|refine zC fun _ _ _=>?_|refine zD fun _ _=>?_|refine zE ?_|refine zF ?_)
  rw [decide_eq_false (by simpa using hw)]
  repeat (first|refine zA ?_|refine zB fun _ _ _=>?_|refine zC fun _ _ _=>?_|refine zD fun _ _=>?_|refine zE ?_|refine zF ?_)
  refine Ev.b2 (Barrier_spec hD5 hwo (by omega) hS5) ?_
  generalize w2.barrier = b at ⊢
  obtain ⟨b1, b2⟩ := b
  dsimp only
  rintro _ H6 ⟨rfl, Ls6, B6, hm6, hD6, hS6⟩
  dsimp only at hS6
  by_cases hb : b1 = 0
  case neg =>
    repeat (first|refine zA ?_|refine zB fun _ _ _=>?_|refine zC fun _ _ _=>?_|refine zD fun _ _=>?_|refine zE ?_|refine zF ?_)
    rw [decide_eq_true hb]
    repeat (first|refine zA ?_|refine zB fun _ _ _=>?_|refine zC fun _ _ _=>?_|refine zD fun _ _=>?_|refine zE ?_|refine zF ?_)
    exact Ev.ret (.inl ⟨hb, rfl, Ls6, B6, ⟨hm5.mo.trans hm6.mo⟩, hD6, hS6.drop (List.Sublist.append_left (.cons _ (.cons _ (List.Sublist.refl _))) _)⟩)
  repeat (first|refine zA ?_|refine zB fun _ _ _=>?_|refine zC fun _ _ _=>?_|refine zD fun _ _=>?_|refine zE ?_|refine zF ?_)
  rw [decide_eq_false (by simpa using hb)]
  repeat (first|refine zA ?_|refine zB fun _ _ _=>?_|refine zC fun _ _ _=>?_|refine zD fun _ _=>?_|refine zE ?_|refine zF ?_)
  refine Ev.ret (.inr ⟨hb, ptr pb 0, rfl, _, B6, ⟨hm5.mo.trans hm6.mo⟩, ⟨pb, mb, _, [], Ls6, rfl, hD6, FRS.nil, rfl⟩, ?_⟩)
  exact (hS6.perm (permA Ls6 [_, _] L))
theorem PK.sub {p dv : Value} {G : Pgr} {D : Dsk} {Ls : List (Nat × Blk)} (h : PK p dv G D Ls) : ∃ Ld, DK dv D Ld ∧ ∀ x ∈ Ld, x ∈ Ls := by
  obtain ⟨pb, mb, fv, Lf, Ld, rfl, hD, hF, rfl⟩ := h
  exact ⟨Ld, hD, fun x hx => .tail _ (.tail _ (List.mem_append_right _ hx))⟩
theorem Pages_spec {p dv : Value} {G : Pgr} {D : Dsk} {Ls Lx : List (Nat × Blk)} (hP : PK p dv G D Ls) (hO : D.OK) (hS : St H0 B0 B Lx H) (hsub : ∀ x ∈ Ls, x ∈ Lx) :
    Ev (fun k _ => rn k 41 [p] H) (fun r => r = (i64 (D.n / 2), H)) := by
  obtain ⟨Ld, hD, hs⟩ := hP.sub
  obtain ⟨pb, mb, fv, Lf, Ld', rfl, hD', hF, rfl⟩ := hP
  obtain ⟨d, rfl⟩ := hD.ptr
  have hcell := hF.cell
  have hi : InL pb _ Lx := ⟨hsub _ (.head _)⟩
  refine Ev.fn (fun k => f41_eq k _ H) ?_
  repeat (first|refine zA ?_|refine zB fun _ _ _=>?_|refine zC fun _ _ _=>?_|refine zD fun _ _=>?_|refine zE ?_|refine zF ?_)
  refine Ev.b2 (pages_spec hD hO hS fun x hx => hsub _ (hs x hx)) ?_
  rintro v H1 h
  cases h
  exact Ev.ret rfl
theorem Alloc_loop {pb mb d : Nat} {fv : Value} {Lf Lr : List (Nat × Blk)} {tv rv : Value} {U F : List Int} {m : Nat} [IsCell tv] [IsCell rv] (hF : FR fv F Lf) (hl : F.length < 100000) (hm : m < 100000) : ∀ (q i : Nat), i + q = m → 
    (St H0 B0 B ((pb, ⟨[tv, rv, .map (some mb), ptr d 0, fv, .bool false], 85, .fix⟩) :: (mb, ⟨entI U, 81, .map⟩) :: (Lf ++ Lr)) H) → (∀ j < i, (!decide (((j : Nat) : Int) ∈ U) && !decide ((j : Int) ∈ F)) = false) →
    Ev (fun k K => f11_L0 k (ptr pb 0) (i64 m) (i64 i) K H) (fun o =>
      (∃ n : Nat, (List.range m).find? (fun (n : Nat) => !decide ((n : Int) ∈ U) && !decide ((n : Int) ∈ F)) = some n ∧ ∃ fv' Lf' H', o = (.ret, f11_X_L0 (i64 n) (.int .i64 0), H') ∧ FR fv' (F ++ [(n : Int)]) Lf' ∧
        St H0 B0 B ((pb, ⟨[tv, rv, .map (some mb), ptr d 0, fv', .bool false], 85, .fix⟩) :: (mb, ⟨entI U, 81, .map⟩) :: (Lf' ++ Lr)) H') ∨
      ((List.range m).find? (fun (n : Nat) => !decide ((n : Int) ∈ U) && !decide ((n : Int) ∈ F)) = none ∧ o = (.exit 0, f11_X_L0 unk unk, H))) := by
  intro q
  induction q with
  | zero =>
    intro i hi hS hno
    refine Ev.succ (fun k K => f11_L0_succ k _ _ _ K H) ?_
    repeat (first|refine zA ?_|refine zB fun _ _ _=>?_|refine zC fun _ _ _=>?_|refine zD fun _ _=>?_|refine zE ?_|refine zF ?_)
    rw [decide_eq_false (by omega)]
    repeat (first|refine zA ?_|refine zB fun _ _ _=>?_|refine zC fun _ _ _=>?_|refine zD fun _ _=>?_|refine zE ?_|refine zF ?_)
    refine Ev.ret (.inr ⟨?_, rfl⟩)
    rw [List.find?_eq_none]
    intro j hj
    rw [hno j (by have := List.mem_range.1 hj; omega)]
    decide
  | succ q ih =>
    intro i hi hS hno
    have hcell := hF.cell
    refine Ev.succ (fun k K => f11_L0_succ k _ _ _ K H) ?_
    repeat (first|refine zA ?_|refine zB fun _ _ _=>?_|refine zC fun _ _ _=>?_|refine zD fun _ _=>?_|refine zE ?_|refine zF ?_)
    rw [decide_eq_true (by omega)]
    repeat (first|refine zA ?_|refine zB fun _ _ _=>?_|refine zC fun _ _ _=>?_|refine zD fun _ _=>?_|refine zE ?_|refine zF ?_)
    refine Ev.prim (lkI (kt := 3) (et := 4) (Und.eq (P := Tryz.prog) (t := 81)) (Und.eq (P := Tryz.prog) (t := 3)) (by kernel_rfl) hS (.tail _ (.head _))) ?_
    have next : (!decide ((i : Int) ∈ U) && !decide ((i : Int) ∈ F)) = false → ∀ j < i + 1, (!decide (((j : Nat) : Int) ∈ U) && !decide ((j : Int) ∈ F)) = false := fun h j hj => by
      by_cases he : j = i
      · subst he; exact h
      · exact hno j (by omega)
    by_cases hu : (i : Int) ∈ U
    · rw [decide_eq_true hu]
      repeat (first | (first|refine zA ?_|refine zB fun _ _ _=>?_|refine zC fun _ _ _=>?_|refine zD fun _ _=>?_|refine zE ?_|refine zF ?_) | rw [decide_eq_true (by omega)] | rw [decide_eq_false (by omega)])
      exact ih (i + 1) (by omega) hS (next (by simp [hu]))
    rw [decide_eq_false hu]
    repeat (first|refine zA ?_|refine zB fun _ _ _=>?_|refine zC fun _ _ _=>?_|refine zD fun _ _=>?_|refine zE ?_|refine zF ?_)
    refine Ev.b2 (Contains_spec (i : Int) hF (by omega) hS fun x hx => .tail _ (.tail _ (List.mem_append_left _ hx))) ?_
    rintro v H1 h
    cases h
    by_cases hf : (i : Int) ∈ F
    · rw [decide_eq_true hf]
      repeat (first | (first|refine zA ?_|refine zB fun _ _ _=>?_|refine zC fun _ _ _=>?_|refine zD fun _ _=>?_|refine zE ?_|refine zF ?_) | rw [decide_eq_true (by omega)] | rw [decide_eq_false (by omega)])
      exact ih (i + 1) (by omega) hS (next (by simp [hf]))
    rw [decide_eq_false hf]
    repeat (first|refine zA ?_|refine zB fun _ _ _=>?_|refine zC fun _ _ _=>?_|refine zD fun _ _=>?_|refine zE ?_|refine zF ?_)
    have hS2 : St H0 B0 B (Lf ++ ((pb, _) :: (mb, _) :: Lr)) H := hS.perm (permA [_, _] Lf Lr)
    refine FRS.push eltI hF hS2 (by omega) fun fv' Lf' H' hF' hS' => ?_
    have hcell' := hF'.cell
    have hS3 : St H0 B0 B ((pb, _) :: (mb, _) :: (Lf' ++ Lr)) H' := hS'.perm (permA Lf' [_, _] Lr)
    clear hS hS2 hS'
    repeat (first|refine zA ?_|refine zB fun _ _ _=>?_|refine zC fun _ _ _=>?_|refine zD fun _ _=>?_|refine zE ?_|refine zF ?_)
    refine Ev.ret (.inl ⟨i, ?_, fv', Lf', _, rfl, hF', by assumption⟩)
    rw [List.find?_range_eq_some]
    exact ⟨by simp [hu, hf], List.mem_range.2 (by omega), fun j hj => by rw [hno j hj]; rfl⟩
theorem Alloc_spec {p dv : Value} {G : Pgr} {D : Dsk} {Ls : List (Nat × Blk)} (hP : PK p dv G D Ls) (hO : D.OK) (hl : G.fresh.length < 100000) (hS : St H0 B0 B (Ls ++ L) H) :
    Ev (fun k _ => rn k 11 [p] H) (PgP H0 B0 B L p dv (.tuple #[.int .i64 (G.alloc (D.n / 2)).1, .int .i64 (G.alloc (D.n / 2)).2.1]) (G.alloc (D.n / 2)).2.2 D) := by
  have hP0 := hP
  obtain ⟨pb, mb, fv, Lf, Ld, rfl, hD, hF, rfl⟩ := hP
  obtain ⟨d, rfl⟩ := hD.ptr
  have hcell := hF.cell
  obtain ⟨turn, root, U, F, dn⟩ := G
  dsimp only at hF hl hP0 hS
  refine Ev.fn (fun k => f11_eq k _ H) ?_
  simp only [List.cons_append] at hS
  unfold Pgr.alloc
  dsimp only
  have hn := hO.n2
  cases dn with
  | true =>
    repeat (first|refine zA ?_|refine zB fun _ _ _=>?_|refine zC fun _ _ _=>?_|refine zD fun _ _=>?_|refine zE ?_|refine zF ?_)
    exact Ev.ret ⟨rfl, _, B, ⟨Mo.refl B⟩, hP0, hS⟩
  | false =>
    rw [if_neg (by decide)]
    repeat (first|refine zA ?_|refine zB fun _ _ _=>?_|refine zC fun _ _ _=>?_|refine zD fun _ _=>?_|refine zE ?_|refine zF ?_)
    refine Ev.b2 (Pages_spec hP0 hO hS fun x hx => ?_) ?_
    · rcases List.mem_cons.1 hx with rfl | hx
      · exact .head _
      · rcases List.mem_cons.1 hx with rfl | hx
        · exact .tail _ (.head _)
        · exact .tail _ (.tail _ (List.mem_append_left _ hx))
    rintro v H1 h
    cases h
    have hS2 : St H0 B0 B ((pb, ⟨[i64 turn, .int .i64 root, .map (some mb), ptr d 0, fv, .bool false], 85, .fix⟩) :: (mb, ⟨entI U, 81, .map⟩) :: (Lf ++ (Ld ++ L))) H := by rw [List.append_assoc] at hS; exact hS
    refine Ev.bind (Ev.loop (Alloc_loop hF hl (by omega) (D.n / 2) 0 (by omega) hS2 (fun j hj => by omega))) ?_
    rintro _ (⟨n, hfd, fv', Lf', H', rfl, hF', hS'⟩ | ⟨hfd, rfl⟩)
    · refine Ev.eq (fun k _ => f11_A0_ret k _ _ H') ?_
      rw [hfd]
      refine Ev.ret ⟨rfl, _, B, ⟨Mo.refl B⟩, ⟨pb, mb, fv', Lf', Ld, rfl, hD, hF', rfl⟩, ?_⟩
      show St H0 B0 B ((pb, _) :: (mb, _) :: ((Lf' ++ Ld) ++ L)) H'
      rw [List.append_assoc]
      exact hS'
    · refine Ev.eq (fun k _ => f11_A0_x0 k _ _ H) ?_
      rw [hfd]
      exact Ev.ret ⟨rfl, _, B, ⟨Mo.refl B⟩, hP0, hS⟩
theorem Back_spec {p dv : Value} {G : Pgr} {D : Dsk} {Ls : List (Nat × Blk)} {many : Int} (hP : PK p dv G D Ls) (hl : G.fresh.length < 100000) (hS : St H0 B0 B (Ls ++ L) H) :
    Ev (fun k _ => rn k 29 [p, .int .i64 many] H) (PgP H0 B0 B L p dv (.tuple #[]) (G.back many) D) := by
  obtain ⟨pb, mb, fv, Lf, Ld, rfl, hD, hF, rfl⟩ := hP
  obtain ⟨d, rfl⟩ := hD.ptr
  have hcell := hF.cell
  simp only [List.cons_append] at hS
  refine Ev.fn (fun k => f29_eq k _ _ H) ?_
  repeat (first|refine zA ?_|refine zB fun _ _ _=>?_|refine zC fun _ _ _=>?_|refine zD fun _ _=>?_|refine zE ?_|refine zF ?_)
  refine Ev.prim (hF.len (Und.eq (P := Tryz.prog) (t := 51))) ?_
  refine Ev.prim (show fold1 minV [.int .i64 (if 0 > many then 0 else many), i64 G.fresh.length] = some (.int .i64 ((min many.toNat G.fresh.length : Nat) : Int)) from by
    rw [min_int]; congr 2; split <;> omega) ?_
  obtain ⟨fv', q1, q2⟩ := hF.back eltI (j := min many.toNat G.fresh.length) (Nat.min_le_right _ _)
  have hcell' := q2.cell
  refine Ev.prim q1 ?_
  repeat (first|refine zA ?_|refine zB fun _ _ _=>?_|refine zC fun _ _ _=>?_|refine zD fun _ _=>?_|refine zE ?_|refine zF ?_)
  have e : G.fresh.take (min many.toNat G.fresh.length) = G.fresh.take many.toNat := by
    rcases Nat.le_total many.toNat G.fresh.length with h | h
    · rw [Nat.min_eq_left h]
    · rw [Nat.min_eq_right h, List.take_length, List.take_of_length_le h]
  rw [e] at q2
  exact Ev.ret ⟨rfl, _, B, ⟨Mo.refl B⟩, ⟨pb, mb, fv', Lf, Ld, rfl, hD, q2, rfl⟩, by assumption⟩
theorem Turn_spec {p dv : Value} {G : Pgr} {D : Dsk} {Ls Lx : List (Nat × Blk)} (hP : PK p dv G D Ls) (hS : St H0 B0 B Lx H) (hsub : ∀ x ∈ Ls, x ∈ Lx) :
    Ev (fun k _ => rn k 39 [p] H) (fun r => r = (i64 G.turn, H)) := by
  obtain ⟨pb, mb, fv, Lf, Ld', rfl, hD', hF, rfl⟩ := hP
  have hi : InL pb _ Lx := ⟨hsub _ (.head _)⟩
  refine Ev.fn (fun k => f39_eq k _ H) ?_
  repeat (first|refine zA ?_|refine zB fun _ _ _=>?_|refine zC fun _ _ _=>?_|refine zD fun _ _=>?_|refine zE ?_|refine zF ?_)
  exact Ev.ret rfl
theorem Root_spec {p dv : Value} {G : Pgr} {D : Dsk} {Ls Lx : List (Nat × Blk)} (hP : PK p dv G D Ls) (hS : St H0 B0 B Lx H) (hsub : ∀ x ∈ Ls, x ∈ Lx) :
    Ev (fun k _ => rn k 38 [p] H) (fun r => r = (.int .i64 G.root, H)) := by
  obtain ⟨pb, mb, fv, Lf, Ld', rfl, hD', hF, rfl⟩ := hP
  have hi : InL pb _ Lx := ⟨hsub _ (.head _)⟩
  refine Ev.fn (fun k => f38_eq k _ H) ?_
  repeat (first|refine zA ?_|refine zB fun _ _ _=>?_|refine zC fun _ _ _=>?_|refine zD fun _ _=>?_|refine zE ?_|refine zF ?_)
  exact Ev.ret rfl
theorem Fresh_spec {p dv : Value} {G : Pgr} {D : Dsk} {Ls : List (Nat × Blk)} (hP : PK p dv G D Ls) (hl : G.fresh.length < 100000) (hS : St H0 B0 B (Ls ++ L) H) :
    Ev (fun k _ => rn k 27 [p] H) (fun r => ∃ B', MoC B B' ∧ ScN B' r.1 G.fresh.length 1 (intV G.fresh) ∧ St H0 B0 B' (Ls ++ L) r.2) := by
  have hP0 := hP
  obtain ⟨pb, mb, fv, Lf, Ld, rfl, hD, hF, rfl⟩ := hP
  have hcell := hF.cell
  simp only [List.cons_append] at hS
  refine Ev.fn (fun k => f27_eq k _ H) ?_
  repeat (first|refine zA ?_|refine zB fun _ _ _=>?_|refine zC fun _ _ _=>?_|refine zD fun _ _=>?_|refine zE ?_|refine zF ?_)
  rw [show (fun k n : Nat => AM.b2 (rn k 59 [fv] H) fun v4 h4 => some (v4, h4)) = fun k n => rn k 59 [fv] H from funext fun k => funext fun _ => b2_id _]
  refine Ev.fn (fun k => f59_eq k _ H) ?_
  have hN := hF.now hS (fun x hx => .tail _ (.tail _ (List.mem_append_left _ (List.mem_append_left _ hx))))
  have app : ∀ (Lx : List (Nat × Blk)), (∀ x ∈ Lf, x ∈ Lx) → ∀ B' H' v, MoC B B' → St H0 B0 B' Lx H' → GAcc 3 1 H0 B0 B' Lx H' v 0 [] →
      Ev (fun k n => AM.b2 (AM.ap Tryz.prog 51 51 H' v fv) fun v3 h3 => some (v3, h3)) (fun r : Value × AH => ∃ B', MoC B B' ∧ ScN B' r.1 G.fresh.length 1 (intV G.fresh) ∧ St H0 B0 B' Lx r.2) := by
    intro Lx hsub B' H' v hm hS' hG
    have hN' := hF.now hS' hsub
    refine GAcc.more (t := 51) (u := 51) (Und.eq (P := Tryz.prog) (t := 51)) hG hN' (by simp [intV, isCell]) (by omega) fun v' B2 H2 hm2 hG2 => ?_
    obtain ⟨B3, hm3, hsc, hS3⟩ := hG2.freeze
    rw [Nat.zero_add, List.nil_append] at hsc
    exact Ev.ret ⟨B3, ⟨hm.mo.trans (hm2.mo.trans hm3.mo)⟩, hsc, hS3⟩
  have bs : ∀ (w : Value), (bin Tryz.prog .eql 51 w (.slice none 0 0) = some (.bool true) ∧ w = .slice none 0 0) ∨ bin Tryz.prog .eql 51 w (.slice none 0 0) = some (.bool false) ∨ (∀ b o n c, w ≠ sl b o n c) ∧ w ≠ .slice none 0 0 := by
    intro w
    by_cases h1 : w = .slice none 0 0
    · left; rw [h1]; exact ⟨by kernel_rfl, rfl⟩
    · by_cases h2 : ∃ b o n c, w = sl b o n c
      · obtain ⟨b, o, n, c, rfl⟩ := h2
        right; left
        unfold bin sl
        rw [if_neg (by simp [flat1])]
        dsimp only
        rw [Und.eq (P := Tryz.prog) (t := 51), Option.bind_some]
        rfl
      · exact .inr (.inr ⟨fun b o n c h => h2 ⟨b, o, n, c, h⟩, h1⟩)
  rcases bs fv with ⟨h1, rfl⟩ | h1 | ⟨h1, h2⟩
  · refine Ev.prim h1 ?_
    repeat (first|refine zA ?_|refine zB fun _ _ _=>?_|refine zC fun _ _ _=>?_|refine zD fun _ _=>?_|refine zE ?_|refine zF ?_)
    refine Ev.ret ⟨B, ⟨Mo.refl B⟩, ?_, hS⟩
    rcases hN with ⟨_, h2, h3⟩ | ⟨b, off, cap, h2, _⟩
    · exact .inl ⟨rfl, h2, h3⟩
    · cases h2
  · refine Ev.prim h1 ?_
    repeat (first|refine zA ?_|refine zB fun _ _ _=>?_|refine zC fun _ _ _=>?_|refine zD fun _ _=>?_|refine zE ?_|refine zF ?_)
    refine Ev.prim2 (v := sl H.length 0 0 0) (H := mkB H [] 3 .fix) (by kernel_rfl) ?_
    have hS2 := (hS.mkB' [] 3 .fix).drop1
    exact app _ (fun x hx => .tail _ (.tail _ (List.mem_append_left _ (List.mem_append_left _ hx)))) B _ _ ⟨Mo.refl B⟩ hS2 (.inl ⟨rfl, rfl, .inr ⟨_, _, rfl⟩, hS2⟩)
  · rcases hN with ⟨h3, _⟩ | ⟨b, off, cap, h3, _⟩
    · exact (h2 h3).elim
    · exact (h1 _ _ _ _ h3).elim
end
end Go.AM.F
