/-
  Facts of the abstract evaluator and of the functions that the law reaches, part 4. Conditions: none.
-/
import Derived.ProofKit
import Derived.Deep.Slices
import Derived.DataElems
import Derived.DataReads
import Derived.ChangeArms
import Derived.ChangeSame
import Derived.Test.YtbalihedocchfaaGreatDoorG3BlobPlays
set_option linter.unusedVariables false
set_option linter.unusedSimpArgs false
set_option linter.unnecessarySimpa false
set_option exponentiation.threshold 200000
set_option maxRecDepth 100000
namespace Go.AM.F
open Go Go.AM Go.Proofs
attribute [local irreducible] run bin un ld st box newV mkS fldA fld ixA ix slc slc3 build buildS cv cvS ap cpy lenV gOp pickV b2 aIf aChk evalK resume iterD Option.bind

section
variable {B B0 H0 H : AH} {L : List (Nat × Blk)}
theorem st_toD {x y : Nat × Blk} {Lf Ld : List (Nat × Blk)} (h : St H0 B0 B (x :: y :: (Lf ++ Ld ++ L)) H) : St H0 B0 B (Ld ++ (x :: y :: (Lf ++ L))) H := h.perm (by
  have := (permA Ld (x :: y :: Lf) L).symm
  simpa [List.append_assoc] using this)
theorem st_toP {x y : Nat × Blk} {Lf Ld : List (Nat × Blk)} (h : St H0 B0 B (Ld ++ (x :: y :: (Lf ++ L))) H) : St H0 B0 B (x :: y :: (Lf ++ Ld ++ L)) H := h.perm (by
  have := permA Ld (x :: y :: Lf) L
  simpa [List.append_assoc] using this)
theorem Write_specP {p dv : Value} {G : Pgr} {D : Dsk} {Ls : List (Nat × Blk)} {n kind : Int} {t : List UInt8} (hP : PK p dv G D Ls) (hO : D.OK) (hc : D.cache.length + 1 < 1000000000000) (hl : G.fresh.length < 100000) (ht : t.length < 9223372036854775808) (hk : -9223372036854775808 ≤ kind ∧ kind < 9223372036854775808) (hS : St H0 B0 B (Ls ++ L) H) :
    Ev (fun k _ => rn k 13 [p, .int .i64 n, .int .i64 kind, str t] H) (PgP H0 B0 B L p dv (.int .i64 (G.write D n kind t).1) (G.write D n kind t).2.1 (G.write D n kind t).2.2) := by
  have hP0 := hP
  obtain ⟨pb, mb, fv, Lf, Ld, rfl, hD, hF, rfl⟩ := hP
  obtain ⟨d, rfl⟩ := hD.ptr
  have hcell := hF.cell
  obtain ⟨turn, root, U, F, dn⟩ := G
  dsimp only at hF hl hP0 hS
  simp only [List.cons_append] at hS
  refine Ev.fn (fun k => f13_eq k _ _ _ _ H) ?_
  unfold Pgr.write
  dsimp only
  cases dn with
  | true =>
    rw [if_pos rfl]
    repeat (first|refine zA ?_|refine zB fun _ _ _=>?_|refine zC fun _ _ _=>?_|refine zD fun _ _=>?_|refine zE ?_|refine zF ?_)
    exact Ev.ret ⟨rfl, _, B, ⟨Mo.refl B⟩, hP0, hS⟩
  | false =>
    rw [if_neg (by decide)]
    repeat (first|refine zA ?_|refine zB fun _ _ _=>?_|refine zC fun _ _ _=>?_|refine zD fun _ _=>?_|refine zE ?_|refine zF ?_)
    refine Ev.b2 (Contains_spec n hF (by omega) hS fun x hx => .tail _ (.tail _ (List.mem_append_left _ (List.mem_append_left _ hx)))) ?_
    rintro v H1 h
    cases h
    by_cases hf : n ∈ F
    case neg =>
      rw [decide_eq_false hf, if_pos hf]
      repeat (first|refine zA ?_|refine zB fun _ _ _=>?_|refine zC fun _ _ _=>?_|refine zD fun _ _=>?_|refine zE ?_|refine zF ?_)
      exact Ev.ret ⟨rfl, _, B, ⟨Mo.refl B⟩, hP0, hS⟩
    rw [decide_eq_true hf, if_neg (by simpa using hf)]
    repeat (first|refine zA ?_|refine zB fun _ _ _=>?_|refine zC fun _ _ _=>?_|refine zD fun _ _=>?_|refine zE ?_|refine zF ?_)
    refine Ev.b2 (pWrite_spec (n := n) (kind := kind) hD hO hc ht hk (st_toD hS)) ?_
    generalize D.pwrite n kind t = w
    obtain ⟨w1, w2⟩ := w
    dsimp only
    rintro _ H2 ⟨rfl, Ld2, B2, hm2, hD2, hS2⟩
    dsimp only at hS2
    repeat (first|refine zA ?_|refine zB fun _ _ _=>?_|refine zC fun _ _ _=>?_|refine zD fun _ _=>?_|refine zE ?_|refine zF ?_)
    refine Ev.b2 (told_spec (.head _) (.head _) (st_toP hS2)) ?_
    rintro _ H3 ⟨rfl, hS3⟩
    exact Ev.ret ⟨rfl, _, B2, hm2, ⟨pb, mb, fv, Lf, Ld2, rfl, hD2, hF, rfl⟩, hS3⟩
theorem Read_specP {p dv : Value} {G : Pgr} {D : Dsk} {Ls : List (Nat × Blk)} {n : Int} (hP : PK p dv G D Ls) (hO : D.OK) (hc : D.cache.length < 1000000000000) (hS : St H0 B0 B (Ls ++ L) H) :
    Ev (fun k _ => rn k 67 [p, .int .i64 n] H) (PgP H0 B0 B L p dv (OpenV (G.read D n).1) (G.read D n).2 D) := by
  have hP0 := hP
  obtain ⟨pb, mb, fv, Lf, Ld, rfl, hD, hF, rfl⟩ := hP
  obtain ⟨d, rfl⟩ := hD.ptr
  have hcell := hF.cell
  obtain ⟨turn, root, U, F, dn⟩ := G
  dsimp only at hF hP0 hS
  simp only [List.cons_append] at hS
  refine Ev.fn (fun k => f67_eq k _ _ H) ?_
  have hn := hO.n2
  unfold Pgr.read
  dsimp only
  cases dn with
  | true =>
    rw [if_pos rfl]
    repeat (first|refine zA ?_|refine zB fun _ _ _=>?_|refine zC fun _ _ _=>?_|refine zD fun _ _=>?_|refine zE ?_|refine zF ?_)
    exact Ev.ret ⟨rfl, _, B, ⟨Mo.refl B⟩, hP0, hS⟩
  | false =>
    rw [if_neg (by decide)]
    repeat (first|refine zA ?_|refine zB fun _ _ _=>?_|refine zC fun _ _ _=>?_|refine zD fun _ _=>?_|refine zE ?_|refine zF ?_)
    by_cases h0 : n < 0
    · rw [decide_eq_true h0, if_pos (.inl h0)]
      repeat (first|refine zA ?_|refine zB fun _ _ _=>?_|refine zC fun _ _ _=>?_|refine zD fun _ _=>?_|refine zE ?_|refine zF ?_)
      exact Ev.ret ⟨rfl, _, B, ⟨Mo.refl B⟩, hP0, hS⟩
    rw [decide_eq_false h0]
    repeat (first|refine zA ?_|refine zB fun _ _ _=>?_|refine zC fun _ _ _=>?_|refine zD fun _ _=>?_|refine zE ?_|refine zF ?_)
    refine Ev.b2 (Pages_spec hP0 hO hS fun x hx => ?_) ?_
    · rcases List.mem_cons.1 hx with rfl | hx
      · exact .head _
      · rcases List.mem_cons.1 hx with rfl | hx
        · exact .tail _ (.head _)
        · exact .tail _ (.tail _ (List.mem_append_left _ hx))
    rintro v H1 h
    cases h
    repeat (first|refine zA ?_|refine zB fun _ _ _=>?_|refine zC fun _ _ _=>?_|refine zD fun _ _=>?_|refine zE ?_|refine zF ?_)
    by_cases h1 : ((D.n / 2 : Nat) : Int) ≤ n
    · rw [decide_eq_true h1, if_pos (.inr h1)]
      repeat (first|refine zA ?_|refine zB fun _ _ _=>?_|refine zC fun _ _ _=>?_|refine zD fun _ _=>?_|refine zE ?_|refine zF ?_)
      exact Ev.ret ⟨rfl, _, B, ⟨Mo.refl B⟩, hP0, hS⟩
    rw [decide_eq_false h1, if_neg (by omega)]
    repeat (first|refine zA ?_|refine zB fun _ _ _=>?_|refine zC fun _ _ _=>?_|refine zD fun _ _=>?_|refine zE ?_|refine zF ?_)
    refine Ev.b2 (pRead_spec (n := n) hD hO hc (st_toD hS)) ?_
    generalize D.pread n = w
    obtain ⟨w1, w2, w3⟩ := w
    dsimp only
    rintro _ H2 ⟨rfl, B2, hm2, hS2⟩
    try dsimp only at hS2
    unfold OpenV
    dsimp only
    repeat (first|refine zA ?_|refine zB fun _ _ _=>?_|refine zC fun _ _ _=>?_|refine zD fun _ _=>?_|refine zE ?_|refine zF ?_)
    refine Ev.b2 (told_spec (.head _) (.head _) (st_toP hS2)) ?_
    rintro _ H3 ⟨rfl, hS3⟩
    repeat (first|refine zA ?_|refine zB fun _ _ _=>?_|refine zC fun _ _ _=>?_|refine zD fun _ _=>?_|refine zE ?_|refine zF ?_)
    exact Ev.ret ⟨rfl, _, B2, hm2, ⟨pb, mb, fv, Lf, Ld, rfl, hD, hF, rfl⟩, hS3⟩
theorem Used_spec {p dv : Value} {G : Pgr} {D : Dsk} {Ls : List (Nat × Blk)} (hP : PK p dv G D Ls) (hO : D.OK) (hS : St H0 B0 B (Ls ++ L) H) :
    Ev (fun k _ => rn k 36 [p] H) (fun r => ∃ B', MoC B B' ∧ ScN B' r.1 (G.list (D.n / 2)).length 1 (intV (G.list (D.n / 2))) ∧ St H0 B0 B' (Ls ++ L) r.2) := by
  have hP0 := hP
  obtain ⟨pb, mb, fv, Lf, Ld, rfl, hD, hF, rfl⟩ := hP
  obtain ⟨d, rfl⟩ := hD.ptr
  have hcell := hF.cell
  simp only [List.cons_append] at hS
  refine Ev.fn (fun k => f36_eq k _ H) ?_
  refine Ev.b2 (Pages_spec hP0 hO hS fun x hx => ?_) ?_
  · rcases List.mem_cons.1 hx with rfl | hx
    · exact .head _
    · rcases List.mem_cons.1 hx with rfl | hx
      · exact .tail _ (.head _)
      · exact .tail _ (.tail _ (List.mem_append_left _ hx))
  rintro v H1 h
  cases h
  have hn := hO.n2
  have hm : D.n / 2 ≤ 1024 := by omega
  generalize D.n / 2 = m at *
  have key : ∀ (q i : Nat) (v : Value) (B1 H : AH), i + q = m → MoC B B1 → GAcc 3 1 H0 B0 B1 ((pb, ⟨[i64 G.turn, .int .i64 G.root, .map (some mb), ptr d 0, fv, .bool G.down], 85, .fix⟩) :: (mb, ⟨entI G.used, 81, .map⟩) :: (Lf ++ Ld ++ L)) H v (G.list i).length (intV (G.list i)) →
      Ev (fun k K => f36_L0 k (ptr pb 0) v (i64 m) (i64 i) K H) (fun o => ∃ v' B' H', o = (.exit 0, f36_X_L0 v', H') ∧ MoC B B' ∧ GAcc 3 1 H0 B0 B' ((pb, ⟨[i64 G.turn, .int .i64 G.root, .map (some mb), ptr d 0, fv, .bool G.down], 85, .fix⟩) :: (mb, ⟨entI G.used, 81, .map⟩) :: (Lf ++ Ld ++ L)) H' v' (G.list m).length (intV (G.list m))) := by
    intro q
    induction q with
    | zero =>
      intro i v B1 H hi hB1 hG
      have : i = m := by omega
      subst this
      refine Ev.succ (fun k K => f36_L0_succ k _ _ _ _ K H) ?_
      repeat (first|refine zA ?_|refine zB fun _ _ _=>?_|refine zC fun _ _ _=>?_|refine zD fun _ _=>?_|refine zE ?_|refine zF ?_)
      rw [decide_eq_false (by omega)]
      repeat (first|refine zA ?_|refine zB fun _ _ _=>?_|refine zC fun _ _ _=>?_|refine zD fun _ _=>?_|refine zE ?_|refine zF ?_)
      exact Ev.ret ⟨v, B1, H, rfl, hB1, hG⟩
    | succ q ih =>
      intro i v B1 H hi hB1 hG
      have hSt := hG.st
      refine Ev.succ (fun k K => f36_L0_succ k _ _ _ _ K H) ?_
      repeat (first|refine zA ?_|refine zB fun _ _ _=>?_|refine zC fun _ _ _=>?_|refine zD fun _ _=>?_|refine zE ?_|refine zF ?_)
      rw [decide_eq_true (by omega)]
      repeat (first|refine zA ?_|refine zB fun _ _ _=>?_|refine zC fun _ _ _=>?_|refine zD fun _ _=>?_|refine zE ?_|refine zF ?_)
      refine Ev.prim (lkI (kt := 3) (et := 4) (Und.eq (P := Tryz.prog) (t := 81)) (Und.eq (P := Tryz.prog) (t := 3)) (by kernel_rfl) hSt (.tail _ (.head _))) ?_
      have hstep : G.list (i + 1) = G.list i ++ (if (i : Int) ∈ G.used then [(i : Int)] else []) := by
        unfold Pgr.list
        rw [List.range_succ, List.map_append, List.filter_append]
        congr 1
        by_cases hu : (i : Int) ∈ G.used <;> simp [hu]
      have hlen : (G.list i).length ≤ i := by
        unfold Pgr.list
        exact Nat.le_trans (List.length_filter_le _ _) (by simp)
      by_cases hu : (i : Int) ∈ G.used
      · rw [decide_eq_true hu]
        rw [if_pos hu] at hstep
        repeat (first|refine zA ?_|refine zB fun _ _ _=>?_|refine zC fun _ _ _=>?_|refine zD fun _ _=>?_|refine zE ?_|refine zF ?_)
        refine GAcc.push (t := 51) (x := i64 i) (ds := [i64 i]) hG rfl rfl rfl rfl (by decide) (by omega) fun v' B' H' hm' hG' => ?_
        repeat (first | (first|refine zA ?_|refine zB fun _ _ _=>?_|refine zC fun _ _ _=>?_|refine zD fun _ _=>?_|refine zE ?_|refine zF ?_) | rw [decide_eq_true (by omega)] | rw [decide_eq_false (by omega)])
        refine ih (i + 1) v' B' H' (by omega) ⟨hB1.mo.trans hm'.mo⟩ ?_
        rw [hstep, intV_snoc, List.length_append]
        exact hG'
      · rw [decide_eq_false hu]
        rw [if_neg hu, List.append_nil] at hstep
        repeat (first | (first|refine zA ?_|refine zB fun _ _ _=>?_|refine zC fun _ _ _=>?_|refine zD fun _ _=>?_|refine zE ?_|refine zF ?_) | rw [decide_eq_true (by omega)] | rw [decide_eq_false (by omega)])
        refine ih (i + 1) v B1 H (by omega) hB1 ?_
        rw [hstep]
        exact hG
  refine Ev.bind (Ev.loop (key m 0 _ B H (by omega) ⟨Mo.refl B⟩ (.inl ⟨rfl, rfl, .inl rfl, hS⟩))) ?_
  rintro _ ⟨v', B', H', rfl, hm', hG'⟩
  refine Ev.eq (fun k _ => f36_A0_x0 k _ H') ?_
  obtain ⟨B2, hm2, hsc, hS2⟩ := hG'.freeze
  exact Ev.ret ⟨B2, ⟨hm'.mo.trans hm2.mo⟩, hsc, hS2⟩
end
end Go.AM.F
namespace Go.AM.F
open Go Go.AM Go.Proofs
attribute [local irreducible] run bin un ld st box newV mkS fldA fld ixA ix slc slc3 build buildS cv cvS ap cpy lenV gOp pickV b2 aIf aChk evalK resume iterD Option.bind

section
variable {B B0 H0 H : AH} {L : List (Nat × Blk)}
def WP (w : Nat) (G : Pgr) (D : Dsk) (Ls : List (Nat × Blk)) : Prop := ∃ dv xv p r Lp Lr, PK p dv G D Lp ∧ RK r xv G D Lr ∧ Ls = (w, ⟨[dv, xv, p, r], 32, .fix⟩) :: (Lp ++ Lr)
def WD (w : Nat) (D : Dsk) (Ls : List (Nat × Blk)) : Prop := ∃ dv xv Ld Lx, DK dv D Ld ∧ XK xv D Lx ∧ Ls = (w, ⟨[dv, xv, .pointer none, .pointer none], 32, .fix⟩) :: (Ld ++ Lx)
theorem RK.xptr {p xv : Value} {G : Pgr} {D : Dsk} {Ls : List (Nat × Blk)} (h : RK p xv G D Ls) : ∃ b, xv = AM.ptr b 0 := by obtain ⟨b, _, _, _, _, _, hp, hx, _⟩ := h; exact XK.ptr hx
theorem PK.pptr {p dv : Value} {G : Pgr} {D : Dsk} {Ls : List (Nat × Blk)} (h : PK p dv G D Ls) : ∃ b, p = ptr b 0 := by obtain ⟨pb, mb, fv, Lf, Ld, hp, _⟩ := h; exact ⟨pb, hp⟩
theorem PK.dptr {p dv : Value} {G : Pgr} {D : Dsk} {Ls : List (Nat × Blk)} (h : PK p dv G D Ls) : ∃ b, dv = ptr b 0 := by obtain ⟨pb, mb, fv, Lf, Ld, hp, hD, _⟩ := h; obtain ⟨d, _, _, _, hp, _⟩ := hD; exact ⟨d, hp⟩
theorem disks_spec {n : Nat} (h1 : 1 ≤ n) (h2 : n ≤ 1024) (hS : St H0 B0 B L H) :
    Ev (fun k _ => rn k 24 [i64 n] H) (fun r => ∃ d x Ld Lx B', r.1 = .tuple #[d, x, .bool true] ∧ MoC B B' ∧ DK d (Dsk.new n) Ld ∧ XK x (Dsk.new n) Lx ∧ St H0 B0 B' (Ld ++ (Lx ++ L)) r.2) := by
  refine Ev.fn (fun k => f24_eq k _ H) ?_
  refine Ev.b2 (New_spec h1 h2 hS) ?_
  rintro _ H1 ⟨dv, Ld, B1, rfl, hm1, hD, hS1⟩
  dsimp only at hS1
  clear hS
  obtain ⟨d, rfl⟩ : ∃ d, dv = ptr d 0 := by obtain ⟨d, _, _, _, hp, _⟩ := hD; exact ⟨d, hp⟩
  repeat (first|refine zA ?_|refine zB fun _ _ _=>?_|refine zC fun _ _ _=>?_|refine zD fun _ _=>?_|refine zE ?_|refine zF ?_)
  refine Ev.b2 (xNew_spec h1 h2 hS1) ?_
  rintro _ H2 ⟨x, Lx, B2, rfl, hm2, hX, hS2⟩
  dsimp only at hS2
  clear hS1
  repeat (first|refine zA ?_|refine zB fun _ _ _=>?_|refine zC fun _ _ _=>?_|refine zD fun _ _=>?_|refine zE ?_|refine zF ?_)
  exact Ev.ret ⟨_, _, Ld, Lx, B2, rfl, ⟨hm1.mo.trans hm2.mo⟩, hD, hX, hS2.perm (by (refine perm_cnt ?_; intro _ a; simp only [List.count_append, List.count_cons, List.cons_append, List.nil_append, List.append_assoc]; try ac_rfl))⟩
theorem toldW_spec {w : Nat} {c0 c1 c2 c3 pv rv : Value} {e : Int} {b : Bool} [IsCell c0] [IsCell c1] [IsCell c2] [IsCell c3] [IsCell pv] [IsCell rv] (hp : bin Tryz.prog .eql 29 pv (.pointer none) = some (.bool b)) (hr : bin Tryz.prog .eql 30 rv (.pointer none) = some (.bool b))
    (hS : St H0 B0 B ((w, ⟨[c0, c1, c2, c3], 32, .fix⟩) :: L) H) :
    Ev (fun k _ => rn k 26 [ptr w 0, pv, .int .i64 e, rv, .int .i64 e] H) (fun r => r.1 = .bool true ∧ St H0 B0 B ((w, ⟨[c0, c1, pv, rv], 32, .fix⟩) :: L) r.2) := by
  refine Ev.fn (fun k => f26_eq k _ _ _ _ _ H) ?_
  repeat (first|refine zA ?_|refine zB fun _ _ _=>?_|refine zC fun _ _ _=>?_|refine zD fun _ _=>?_|refine zE ?_|refine zF ?_)
  refine Ev.prim hp ?_
  refine Ev.prim hr ?_
  have hb : bin Tryz.prog .eql 4 (.bool b) (.bool b) = some (.bool true) := by cases b <;> kernel_rfl
  refine Ev.prim hb ?_
  repeat (first|refine zA ?_|refine zB fun _ _ _=>?_|refine zC fun _ _ _=>?_|refine zD fun _ _=>?_|refine zE ?_|refine zF ?_)
  exact Ev.ret ⟨rfl, by assumption⟩
theorem begins_spec {n : Nat} (h1 : 1 ≤ n) (h2 : n ≤ 1024) (hS : St H0 B0 B L H) :
    Ev (fun k _ => rn k 5 [i64 n] H) (fun r => ∃ w B' Ls, r.1 = .tuple #[ptr w 0, .bool true] ∧ MoC B B' ∧ St H0 B0 B' (Ls ++ L) r.2 ∧
      (((Dsk.new n).format.1 ≠ 0 ∧ WD w (Dsk.new n).format.2 Ls) ∨ ((Dsk.new n).format.1 = 0 ∧ WP w ⟨1, 0, [0, 1], [], false⟩ (Dsk.new n).format.2 Ls))) := by
  refine Ev.fn (fun k => f5_eq k _ H) ?_
  have hO := Dsk.ok_new h1 h2
  have hc : (Dsk.new n).cache.length + 2 < 1000000000000 := by show (0 : Nat) + 2 < _; decide
  repeat (first|refine zA ?_|refine zB fun _ _ _=>?_|refine zC fun _ _ _=>?_|refine zD fun _ _=>?_|refine zE ?_|refine zF ?_)
  rename_i w H1 hS1
  clear hS
  refine Ev.b2 (disks_spec h1 h2 hS1) ?_
  rintro _ H2 ⟨dv, xv, Ld, Lx, B2, rfl, hm2, hD, hX, hS2⟩
  dsimp only at hS2
  clear hS1
  obtain ⟨d, rfl⟩ : ∃ d, dv = ptr d 0 := by obtain ⟨d, _, _, _, hp, _⟩ := hD; exact ⟨d, hp⟩
  obtain ⟨x, rfl⟩ := hX.ptr
  have hS3 := hS2.perm (L' := (w, ⟨[.pointer none, .pointer none, .pointer none, .pointer none], 32, .fix⟩) :: (Ld ++ (Lx ++ L))) (by (refine perm_cnt ?_; intro _ a; simp only [List.count_append, List.count_cons, List.cons_append, List.nil_append, List.append_assoc]; try ac_rfl))
  clear hS2
  repeat (first|refine zA ?_|refine zB fun _ _ _=>?_|refine zC fun _ _ _=>?_|refine zD fun _ _=>?_|refine zE ?_|refine zF ?_)
  rename_i H5 hS5 H4 hS4
  clear hS3
  first | clear hS5 | skip
  refine Ev.b2 (Format_spec (L := (w, ⟨[ptr d 0, ptr x 0, .pointer none, .pointer none], 32, .fix⟩) :: (Lx ++ L)) hD hO hc (hS4.perm (by (refine perm_cnt ?_; intro _ a; simp only [List.count_append, List.count_cons, List.cons_append, List.nil_append, List.append_assoc]; try ac_rfl)))) ?_
  clear hS4
  rintro _ H6 (⟨he, rfl, Ld6, B6, hm6, hD6, hS6⟩ | ⟨he, p, rfl, Lp, B6, hm6, hP6, hS6⟩)
  · dsimp only at hS6
    have hS6' := hS6.perm (L' := (w, ⟨[ptr d 0, ptr x 0, .pointer none, .pointer none], 32, .fix⟩) :: (Ld6 ++ (Lx ++ L))) (by (refine perm_cnt ?_; intro _ a; simp only [List.count_append, List.count_cons, List.cons_append, List.nil_append, List.append_assoc]; try ac_rfl))
    clear hS6
    repeat (first|refine zA ?_|refine zB fun _ _ _=>?_|refine zC fun _ _ _=>?_|refine zD fun _ _=>?_|refine zE ?_|refine zF ?_)
    refine Ev.b2 (rFormat_spec (L := (w, ⟨[ptr d 0, ptr x 0, .pointer none, .pointer none], 32, .fix⟩) :: (Ld6 ++ L)) hX hO hc (hS6'.perm (by (refine perm_cnt ?_; intro _ a; simp only [List.count_append, List.count_cons, List.cons_append, List.nil_append, List.append_assoc]; try ac_rfl)))) ?_
    clear hS6'
    rintro _ H7 (⟨he', rfl, Lx7, B7, hm7, hX7, hS7⟩ | ⟨he', _⟩)
    case inr => exact (he he').elim
    dsimp only at hS7
    repeat (first|refine zA ?_|refine zB fun _ _ _=>?_|refine zC fun _ _ _=>?_|refine zD fun _ _=>?_|refine zE ?_|refine zF ?_)
    refine Ev.b2 (toldW_spec (w := w) (c0 := ptr d 0) (c1 := ptr x 0) (c2 := .pointer none) (c3 := .pointer none) (b := true) (L := Ld6 ++ (Lx7 ++ L)) (pv := .pointer none) (rv := .pointer none) (by kernel_rfl) (by kernel_rfl) (hS7.perm (by (refine perm_cnt ?_; intro _ a; simp only [List.count_append, List.count_cons, List.cons_append, List.nil_append, List.append_assoc]; try ac_rfl)))) ?_
    clear hS7
    rintro _ H8 ⟨rfl, hS8⟩
    dsimp only at hS8
    exact Ev.ret ⟨w, B7, _, rfl, ⟨hm2.mo.trans (hm6.mo.trans hm7.mo)⟩, hS8.perm (L' := ((w, ⟨[ptr d 0, ptr x 0, .pointer none, .pointer none], 32, .fix⟩) :: (Ld6 ++ Lx7)) ++ L) (by (refine perm_cnt ?_; intro _ a; simp only [List.count_append, List.count_cons, List.cons_append, List.nil_append, List.append_assoc]; try ac_rfl)), .inl ⟨he, _, _, Ld6, Lx7, hD6, hX7, rfl⟩⟩
  · dsimp only at hS6
    obtain ⟨pb, rfl⟩ := hP6.pptr
    have hS6' := hS6.perm (L' := (w, ⟨[ptr d 0, ptr x 0, .pointer none, .pointer none], 32, .fix⟩) :: (Lp ++ (Lx ++ L))) (by (refine perm_cnt ?_; intro _ a; simp only [List.count_append, List.count_cons, List.cons_append, List.nil_append, List.append_assoc]; try ac_rfl))
    clear hS6
    repeat (first|refine zA ?_|refine zB fun _ _ _=>?_|refine zC fun _ _ _=>?_|refine zD fun _ _=>?_|refine zE ?_|refine zF ?_)
    refine Ev.b2 (rFormat_spec (L := (w, ⟨[ptr d 0, ptr x 0, .pointer none, .pointer none], 32, .fix⟩) :: (Lp ++ L)) hX hO hc (hS6'.perm (by (refine perm_cnt ?_; intro _ a; simp only [List.count_append, List.count_cons, List.cons_append, List.nil_append, List.append_assoc]; try ac_rfl)))) ?_
    clear hS6'
    rintro _ H7 (⟨he', _⟩ | ⟨he', r, rfl, Lr, B7, hm7, hR7, hS7⟩)
    case inl => exact (he' he).elim
    dsimp only at hS7
    obtain ⟨rb, rfl⟩ := hR7.ptr
    repeat (first|refine zA ?_|refine zB fun _ _ _=>?_|refine zC fun _ _ _=>?_|refine zD fun _ _=>?_|refine zE ?_|refine zF ?_)
    refine Ev.b2 (toldW_spec (w := w) (c0 := ptr d 0) (c1 := ptr x 0) (c2 := .pointer none) (c3 := .pointer none) (b := false) (L := Lp ++ (Lr ++ L)) (pv := ptr pb 0) (rv := ptr rb 0) (by kernel_rfl) (by kernel_rfl) (hS7.perm (by (refine perm_cnt ?_; intro _ a; simp only [List.count_append, List.count_cons, List.cons_append, List.nil_append, List.append_assoc]; try ac_rfl)))) ?_
    clear hS7
    rintro _ H8 ⟨rfl, hS8⟩
    dsimp only at hS8
    exact Ev.ret ⟨w, B7, _, rfl, ⟨hm2.mo.trans (hm6.mo.trans hm7.mo)⟩, hS8.perm (L' := ((w, ⟨[ptr d 0, ptr x 0, ptr pb 0, ptr rb 0], 32, .fix⟩) :: (Lp ++ Lr)) ++ L) (by (refine perm_cnt ?_; intro _ a; simp only [List.count_append, List.count_cons, List.cons_append, List.nil_append, List.append_assoc]; try ac_rfl)), .inr ⟨he, _, _, _, _, Lp, Lr, hP6, hR7, rfl⟩⟩
theorem like_loop {dv : Value} {x n : Nat} {D : Dsk} {sv cv fv : Value} {Ld Lx : List (Nat × Blk)} (hn : D.n = n) (hD : DK dv D Ld) (hX : XK (ptr x 0) D Lx) (hO : D.OK) (hc : D.cache.length < 1000000000000) [IsCell sv] [IsCell cv] [IsCell fv] (hi : InL x ⟨[sv, cv, fv, .bool D.down], 36, .fix⟩ (Ld ++ (Lx ++ L))) (hls : lenV Tryz.prog 22 sv = some (i64 n)) : ∀ (q i : Nat) (B H : AH), i + q = n → St H0 B0 B (Ld ++ (Lx ++ L)) H →
    Ev (fun k K => f9_L0 k dv (ptr x 0) (i64 i) K H) (fun o => ∃ B' H', o = (.exit 0, f9_X_L0 unk, H') ∧ MoC B B' ∧ St H0 B0 B' (Ld ++ (Lx ++ L)) H') := by
  have hn2 := hO.n2
  intro q
  induction q with
  | zero =>
    intro i B H hq hS
    refine Ev.succ (fun k K => f9_L0_succ k _ _ _ K H) ?_
    repeat (first|refine zA ?_|refine zB fun _ _ _=>?_|refine zC fun _ _ _=>?_|refine zD fun _ _=>?_|refine zE ?_|refine zF ?_)
    refine Ev.prim hls ?_
    repeat (first|refine zA ?_|refine zB fun _ _ _=>?_|refine zC fun _ _ _=>?_|refine zD fun _ _=>?_|refine zE ?_|refine zF ?_)
    rw [decide_eq_false (by omega)]
    repeat (first|refine zA ?_|refine zB fun _ _ _=>?_|refine zC fun _ _ _=>?_|refine zD fun _ _=>?_|refine zE ?_|refine zF ?_)
    exact Ev.ret ⟨B, H, rfl, ⟨Mo.refl B⟩, hS⟩
  | succ q ih =>
    intro i B H hq hS
    refine Ev.succ (fun k K => f9_L0_succ k _ _ _ K H) ?_
    repeat (first|refine zA ?_|refine zB fun _ _ _=>?_|refine zC fun _ _ _=>?_|refine zD fun _ _=>?_|refine zE ?_|refine zF ?_)
    refine Ev.prim hls ?_
    repeat (first|refine zA ?_|refine zB fun _ _ _=>?_|refine zC fun _ _ _=>?_|refine zD fun _ _=>?_|refine zE ?_|refine zF ?_)
    rw [decide_eq_true (by omega)]
    repeat (first|refine zA ?_|refine zB fun _ _ _=>?_|refine zC fun _ _ _=>?_|refine zD fun _ _=>?_|refine zE ?_|refine zF ?_)
    cases hdn : D.down with
    | true =>
      repeat (first|refine zA ?_|refine zB fun _ _ _=>?_|refine zC fun _ _ _=>?_|refine zD fun _ _=>?_|refine zE ?_|refine zF ?_)
      exact Ev.ret ⟨B, H, rfl, ⟨Mo.refl B⟩, hS⟩
    | false =>
      repeat (first|refine zA ?_|refine zB fun _ _ _=>?_|refine zC fun _ _ _=>?_|refine zD fun _ _=>?_|refine zE ?_|refine zF ?_)
      refine Ev.b2 (Read_spec (i := (i : Int)) hD hO hc hS) ?_
      rintro _ H1 ⟨rfl, B1, hm1, hS1⟩
      dsimp only at hS1
      clear hS
      repeat (first|refine zA ?_|refine zB fun _ _ _=>?_|refine zC fun _ _ _=>?_|refine zD fun _ _=>?_|refine zE ?_|refine zF ?_)
      refine Ev.b2 (xRead_spec (i := (i : Int)) hX hO hc hS1 fun p hp => List.mem_append_right _ (List.mem_append_left _ hp)) ?_
      rintro _ _ h
      cases h
      generalize D.read (i : Int) = w
      obtain ⟨w1, w2⟩ := w
      dsimp only
      repeat (first | (first|refine zA ?_|refine zB fun _ _ _=>?_|refine zC fun _ _ _=>?_|refine zD fun _ _=>?_|refine zE ?_|refine zF ?_) | rw [decide_eq_true (by omega)] | rw [decide_eq_false (by omega)])
      refine (ih (i + 1) B1 H1 (by omega) hS1).mono ?_
      rintro o ⟨B', H', e, hm', h'⟩
      exact ⟨B', H', e, ⟨hm1.mo.trans hm'.mo⟩, h'⟩
theorem like_spec {dv xv : Value} {D : Dsk} {Ld Lx : List (Nat × Blk)} (hD : DK dv D Ld) (hX : XK xv D Lx) (hO : D.OK) (hc : D.cache.length < 1000000000000) (hS : St H0 B0 B (Ld ++ (Lx ++ L)) H) :
    Ev (fun k _ => rn k 9 [dv, xv] H) (fun r => r.1 = .bool true ∧ ∃ B', MoC B B' ∧ St H0 B0 B' (Ld ++ (Lx ++ L)) r.2) := by
  refine Ev.fn (fun k => f9_eq k _ _ H) ?_
  have hn2 := hO.n2
  have hX0 := hX
  obtain ⟨x, sv, cv, fx, Ls1, Lc, rfl, hfx, hf1, hG1, hG2, hLx⟩ := hX
  have hcell1 := hG1.cell
  have hcell2 := hG2.cell
  have hls := hG1.len (Und.eq (P := Tryz.prog) (t := 22))
  rw [List.length_map, secsB_len] at hls
  have hlc := hG2.len (Und.eq (P := Tryz.prog) (t := 34))
  have hi : InL x ⟨[sv, cv, .int .i64 fx, .bool D.down], 36, .fix⟩ (Ld ++ (Lx ++ L)) := ⟨List.mem_append_right _ (List.mem_append_left _ (by rw [hLx]; exact .head _))⟩
  refine Ev.b2 (Down_spec hD hS fun p hp => List.mem_append_left _ hp) ?_
  rintro _ _ h
  cases h
  repeat (first|refine zA ?_|refine zB fun _ _ _=>?_|refine zC fun _ _ _=>?_|refine zD fun _ _=>?_|refine zE ?_|refine zF ?_)
  rw [show (D.down != D.down) = false from by cases D.down <;> rfl]
  repeat (first|refine zA ?_|refine zB fun _ _ _=>?_|refine zC fun _ _ _=>?_|refine zD fun _ _=>?_|refine zE ?_|refine zF ?_)
  refine Ev.b2 (Sectors_spec hD hO hS fun p hp => List.mem_append_left _ hp) ?_
  rintro _ _ h
  cases h
  repeat (first|refine zA ?_|refine zB fun _ _ _=>?_|refine zC fun _ _ _=>?_|refine zD fun _ _=>?_|refine zE ?_|refine zF ?_)
  rw [hls, Option.bind_some]
  repeat (first|refine zA ?_|refine zB fun _ _ _=>?_|refine zC fun _ _ _=>?_|refine zD fun _ _=>?_|refine zE ?_|refine zF ?_)
  refine Ev.b2 (Waiting_spec hD hS fun p hp => List.mem_append_left _ hp) ?_
  rintro _ _ h
  cases h
  repeat (first|refine zA ?_|refine zB fun _ _ _=>?_|refine zC fun _ _ _=>?_|refine zD fun _ _=>?_|refine zE ?_|refine zF ?_)
  rw [hlc, Option.bind_some]
  repeat (first|refine zA ?_|refine zB fun _ _ _=>?_|refine zC fun _ _ _=>?_|refine zD fun _ _=>?_|refine zE ?_|refine zF ?_)
  refine Ev.bind (Ev.loop (like_loop rfl hD hX0 hO hc hi hls D.n 0 B H (by omega) hS)) ?_
  rintro _ ⟨B', H', rfl, hm', hS'⟩
  refine Ev.eq (fun k _ => f9_A0_x0 k _ H') ?_
  exact Ev.ret ⟨rfl, B', hm', hS'⟩
end
end Go.AM.F
namespace Go.AM.F
open Go Go.AM Go.Proofs
attribute [local irreducible] run bin un ld st box newV mkS fldA fld ixA ix slc slc3 build buildS cv cvS ap cpy lenV gOp pickV b2 aIf aChk evalK resume iterD Option.bind

section
variable {B B0 H0 H : AH} {L : List (Nat × Blk)}
theorem list_step (G : Pgr) (i : Nat) : G.list (i + 1) = G.list i ++ (if (i : Int) ∈ G.used then [(i : Int)] else []) := by
  unfold Pgr.list
  rw [List.range_succ, List.map_append, List.filter_append]
  congr 1
  by_cases hu : (i : Int) ∈ G.used <;> simp [hu]
theorem list_len (G : Pgr) (i : Nat) : (G.list i).length ≤ i := by
  unfold Pgr.list
  exact Nat.le_trans (List.length_filter_le _ _) (by simp)
theorem rList_loop {rb m : Nat} {c0 c1 c2 uv fv c5 : Value} {G : Pgr} {Lu Lr : List (Nat × Blk)} [IsCell c0] [IsCell c1] [IsCell c2] [IsCell fv] [IsCell c5] (hK : UK 4 uv (boolC G.used m) Lu) (hm : m ≤ 512) : ∀ (q i : Nat) (B H : AH) (v : Value), i + q = m →
    GAcc 3 1 H0 B0 B ((rb, ⟨[c0, c1, c2, uv, fv, c5], 76, .fix⟩) :: (Lu ++ Lr)) H v (G.list i).length (intV (G.list i)) →
    Ev (fun k K => f37_L0 k (ptr rb 0) v (i64 i) K H) (fun o => ∃ v' B' H', o = (.exit 0, f37_X_L0 v', H') ∧ MoC B B' ∧ GAcc 3 1 H0 B0 B' ((rb, ⟨[c0, c1, c2, uv, fv, c5], 76, .fix⟩) :: (Lu ++ Lr)) H' v' (G.list m).length (intV (G.list m))) := by
  have hcu := hK.cell
  have hlu := hK.len (Und.eq (P := Tryz.prog) (t := 74))
  rw [boolC_len] at hlu
  intro q
  induction q with
  | zero =>
    intro i B H v hi hG
    have : i = m := by omega
    subst this
    obtain ⟨Lx, hS, back, hsub⟩ := hG.split
    have hx : InL rb ⟨[c0, c1, c2, uv, fv, c5], 76, .fix⟩ Lx := ⟨hsub _ (.head _)⟩
    refine Ev.succ (fun k K => f37_L0_succ k _ _ _ K H) ?_
    repeat (first|refine zA ?_|refine zB fun _ _ _=>?_|refine zC fun _ _ _=>?_|refine zD fun _ _=>?_|refine zE ?_|refine zF ?_)
    refine Ev.prim hlu ?_
    repeat (first | (first|refine zA ?_|refine zB fun _ _ _=>?_|refine zC fun _ _ _=>?_|refine zD fun _ _=>?_|refine zE ?_|refine zF ?_) | rw [decide_eq_true (by omega)] | rw [decide_eq_false (by omega)])
    exact Ev.ret ⟨v, B, H, rfl, ⟨Mo.refl B⟩, hG⟩
  | succ q ih =>
    intro i B H v hi hG
    have hstep := list_step G i
    have hlen := list_len G i
    have hnext : ∀ (hu : (i : Int) ∉ G.used), Ev (fun k K => f37_L0 k (ptr rb 0) v (i64 (i + 1)) K H) (fun o => ∃ v' B' H', o = (.exit 0, f37_X_L0 v', H') ∧ MoC B B' ∧ GAcc 3 1 H0 B0 B' ((rb, ⟨[c0, c1, c2, uv, fv, c5], 76, .fix⟩) :: (Lu ++ Lr)) H' v' (G.list m).length (intV (G.list m))) := fun hu => by
      rw [if_neg hu, List.append_nil] at hstep
      exact ih (i + 1) B H v (by omega) (by rw [hstep]; exact hG)
    obtain ⟨Lx, hS, back, hsub⟩ := hG.split
    have hx : InL rb ⟨[c0, c1, c2, uv, fv, c5], 76, .fix⟩ Lx := ⟨hsub _ (.head _)⟩
    have hcv := hG.cell
    refine Ev.succ (fun k K => f37_L0_succ k _ _ _ K H) ?_
    repeat (first|refine zA ?_|refine zB fun _ _ _=>?_|refine zC fun _ _ _=>?_|refine zD fun _ _=>?_|refine zE ?_|refine zF ?_)
    refine Ev.prim hlu ?_
    repeat (first | (first|refine zA ?_|refine zB fun _ _ _=>?_|refine zC fun _ _ _=>?_|refine zD fun _ _=>?_|refine zE ?_|refine zF ?_) | rw [decide_eq_true (by omega)] | rw [decide_eq_false (by omega)])
    have hN := hK.now hS (fun x hx => hsub _ (.tail _ (List.mem_append_left _ hx)))
    rw [boolC_len] at hN
    refine Ev.ixN (t := 74) hN i rfl (by omega) (boolC_at (by omega)) fun pp hp => ?_
    refine Ev.prim (hp.eq H (Mo.refl H)) ?_
    by_cases hu : (i : Int) ∈ G.used
    case neg =>
      rw [decide_eq_false hu]
      repeat (first | (first|refine zA ?_|refine zB fun _ _ _=>?_|refine zC fun _ _ _=>?_|refine zD fun _ _=>?_|refine zE ?_|refine zF ?_) | rw [decide_eq_true (by omega)] | rw [decide_eq_false (by omega)])
      exact hnext hu
    rw [decide_eq_true hu]
    rw [if_pos hu] at hstep
    clear hS hx hN hp
    repeat (first|refine zA ?_|refine zB fun _ _ _=>?_|refine zC fun _ _ _=>?_|refine zD fun _ _=>?_|refine zE ?_|refine zF ?_)
    refine GAcc.push (t := 51) (x := i64 i) (ds := [i64 i]) hG rfl rfl rfl rfl (by decide) (by omega) fun v' B' H' hm' hG' => ?_
    repeat (first | (first|refine zA ?_|refine zB fun _ _ _=>?_|refine zC fun _ _ _=>?_|refine zD fun _ _=>?_|refine zE ?_|refine zF ?_) | rw [decide_eq_true (by omega)] | rw [decide_eq_false (by omega)])
    refine (ih (i + 1) B' H' v' (by omega) (by rw [hstep, intV_snoc, List.length_append]; exact hG')).mono ?_
    rintro o ⟨v2, B2, H2, h1, h2, h3⟩
    exact ⟨v2, B2, H2, h1, ⟨hm'.mo.trans h2.mo⟩, h3⟩
theorem rList_spec {p xv : Value} {G : Pgr} {D : Dsk} {Ls : List (Nat × Blk)} (hP : RK p xv G D Ls) (hO : D.OK) (hS : St H0 B0 B (Ls ++ L) H) :
    Ev (fun k _ => rn k 37 [p] H) (fun r => ∃ B', MoC B B' ∧ ScN B' r.1 (G.list (D.n / 2)).length 1 (intV (G.list (D.n / 2))) ∧ St H0 B0 B' (Ls ++ L) r.2) := by
  obtain ⟨rb, uv, fv, Lu, Lf, Ld, rfl, hD, hK, hF, rfl⟩ := hP
  obtain ⟨x, rfl⟩ := hD.ptr
  have hcell := hF.cell
  have hn := hO.n2
  refine Ev.fn (fun k => f37_eq k _ H) ?_
  refine Ev.bind (Ev.loop (rList_loop (Lr := Lf ++ (Ld ++ L)) hK (by omega) (D.n / 2) 0 B H (.slice none 0 0) (by omega) (GAcc.nil (hS.perm (by (refine perm_cnt ?_; intro _ a; simp only [List.count_append, List.count_cons, List.cons_append, List.nil_append, List.append_assoc]; try ac_rfl)))))) ?_
  rintro _ ⟨v', B', H', rfl, hm', hG'⟩
  refine Ev.eq (fun k _ => f37_A0_x0 k _ H') ?_
  obtain ⟨B2, hm2, hsc, hS2⟩ := hG'.freeze
  exact Ev.ret ⟨B2, ⟨hm'.mo.trans hm2.mo⟩, hsc, hS2.perm (by (refine perm_cnt ?_; intro _ a; simp only [List.count_append, List.count_cons, List.cons_append, List.nil_append, List.append_assoc]; try ac_rfl))⟩
theorem nums_spec {va vb : Value} {l : List Int} {n : Nat} (hl : l.length = n) (hn : n < 1000000) (ha : ScN H va n 1 (intV l)) (hb : ScN H vb n 1 (intV l)) :
    Ev (fun k _ => rn k 19 [va, vb] H) (fun r => r = (.bool true, H)) := by
  refine Ev.fn (fun k => f19_eq k _ _ H) ?_
  have la := ha.len (Und.eq (P := Tryz.prog) (t := 51))
  have lb := hb.len (Und.eq (P := Tryz.prog) (t := 51))
  refine Ev.prim la ?_
  refine Ev.prim lb ?_
  repeat (first|refine zA ?_|refine zB fun _ _ _=>?_|refine zC fun _ _ _=>?_|refine zD fun _ _=>?_|refine zE ?_|refine zF ?_)
  have key : ∀ (q i : Nat), i + q = n → Ev (fun k K => f19_L0 k va vb (i64 i) K H) (fun o => o = (.exit 0, f19_X_L0 unk, H)) := by
    intro q
    induction q with
    | zero =>
      intro i hi
      refine Ev.succ (fun k K => f19_L0_succ k _ _ _ K H) ?_
      refine Ev.prim la ?_
      repeat (first | (first|refine zA ?_|refine zB fun _ _ _=>?_|refine zC fun _ _ _=>?_|refine zD fun _ _=>?_|refine zE ?_|refine zF ?_) | rw [decide_eq_true (by omega)] | rw [decide_eq_false (by omega)])
      exact Ev.ret rfl
    | succ q ih =>
      intro i hi
      refine Ev.succ (fun k K => f19_L0_succ k _ _ _ K H) ?_
      refine Ev.prim la ?_
      repeat (first | (first|refine zA ?_|refine zB fun _ _ _=>?_|refine zC fun _ _ _=>?_|refine zD fun _ _=>?_|refine zE ?_|refine zF ?_) | rw [decide_eq_true (by omega)] | rw [decide_eq_false (by omega)])
      have hx : (intV l)[i]? = some (.int .i64 l[i]) := by unfold intV; rw [List.getElem?_map, List.getElem?_eq_getElem (by omega)]; rfl
      refine Ev.ixN (t := 51) ha i rfl (by omega) hx fun p hp => ?_
      refine Ev.prim (hp.eq H (Mo.refl H)) ?_
      refine Ev.ixN (t := 51) hb i rfl (by omega) hx fun p' hp' => ?_
      refine Ev.prim (hp'.eq H (Mo.refl H)) ?_
      repeat (first | (first|refine zA ?_|refine zB fun _ _ _=>?_|refine zC fun _ _ _=>?_|refine zD fun _ _=>?_|refine zE ?_|refine zF ?_) | rw [decide_eq_true (by omega)] | rw [decide_eq_false (by omega)])
      exact ih (i + 1) (by omega)
  refine Ev.bind (Ev.loop (key n 0 (by omega))) ?_
  rintro _ rfl
  refine Ev.eq (fun k _ => f19_A0_x0 k _ H) ?_
  exact Ev.ret rfl
end
end Go.AM.F
namespace Go.AM.F
open Go Go.AM Go.Proofs
attribute [local irreducible] run bin un ld st box newV mkS fldA fld ixA ix slc slc3 build buildS cv cvS ap cpy lenV gOp pickV b2 aIf aChk evalK resume iterD Option.bind

section
variable {B B0 H0 H : AH} {L : List (Nat × Blk)}
abbrev WldB (d x pb rb : Nat) : Blk := ⟨[ptr d 0, ptr x 0, ptr pb 0, ptr rb 0], 32, .fix⟩
theorem downP_spec {p dv : Value} {G : Pgr} {D : Dsk} {Ls Lx : List (Nat × Blk)} (hP : PK p dv G D Ls) (hS : St H0 B0 B Lx H) (hsub : ∀ x ∈ Ls, x ∈ Lx) :
    Ev (fun k _ => rn k 40 [p] H) (fun r => r = (.bool G.down, H)) := by
  obtain ⟨pb, mb, fv, Lf, Ld', rfl, hD', hF, rfl⟩ := hP
  have hi : InL pb _ Lx := ⟨hsub _ (.head _)⟩
  refine Ev.fn (fun k => f40_eq k _ H) ?_
  repeat (first|refine zA ?_|refine zB fun _ _ _=>?_|refine zC fun _ _ _=>?_|refine zD fun _ _=>?_|refine zE ?_|refine zF ?_)
  exact Ev.ret rfl
theorem pagesW_spec {w d x pb rb : Nat} {G : Pgr} {D : Dsk} {Lp Lr : List (Nat × Blk)} (hP : PK (ptr pb 0) (ptr d 0) G D Lp) (hR : RK (ptr rb 0) (ptr x 0) G D Lr) (hO : D.OK) (hfl : G.fresh.length < 100000) (hS : St H0 B0 B ((w, WldB d x pb rb) :: (Lp ++ (Lr ++ L))) H) :
    Ev (fun k _ => rn k 10 [ptr w 0] H) (fun r => r.1 = .bool true ∧ ∃ B', MoC B B' ∧ St H0 B0 B' ((w, WldB d x pb rb) :: (Lp ++ (Lr ++ L))) r.2) := by
  have hn2 := hO.n2
  have hll := list_len G (D.n / 2)
  refine Ev.fn (fun k => f10_eq k _ H) ?_
  have hR0 := hR
  obtain ⟨rb', uv, fv, Lu, Lf, Ld, hrb, hD, hK, hF, hLr⟩ := hR
  cases hrb
  have hcu := hK.cell
  have hcf := hF.cell
  have hlu := hK.len (Und.eq (P := Tryz.prog) (t := 74))
  rw [boolC_len] at hlu
  have hi : InL rb ⟨[ptr x 0, i64 G.turn, .int .i64 G.root, uv, fv, .bool G.down], 76, .fix⟩ ((w, WldB d x pb rb) :: (Lp ++ (Lr ++ L))) := ⟨.tail _ (List.mem_append_right _ (List.mem_append_left _ (by rw [hLr]; exact .head _)))⟩
  have sub : ∀ q ∈ Lp, q ∈ (w, WldB d x pb rb) :: (Lp ++ (Lr ++ L)) := fun q hq => .tail _ (List.mem_append_left _ hq)
  repeat (first|refine zA ?_|refine zB fun _ _ _=>?_|refine zC fun _ _ _=>?_|refine zD fun _ _=>?_|refine zE ?_|refine zF ?_)
  try rw [show ((false : Bool) != false) = false from rfl]
  repeat (first|refine zA ?_|refine zB fun _ _ _=>?_|refine zC fun _ _ _=>?_|refine zD fun _ _=>?_|refine zE ?_|refine zF ?_)
  refine Ev.b2 (Used_spec (L := (w, WldB d x pb rb) :: (Lr ++ L)) hP hO (hS.perm (by (refine perm_cnt ?_; intro _ a; simp only [List.count_append, List.count_cons, List.cons_append, List.nil_append, List.append_assoc]; try ac_rfl)))) ?_
  rintro v1 H1 ⟨B1, hm1, hN1, hS1'⟩
  dsimp only at hS1' hN1
  have hS1 : St H0 B0 B1 ((w, WldB d x pb rb) :: (Lp ++ (Lr ++ L))) H1 := hS1'.perm (by (refine perm_cnt ?_; intro _ a; simp only [List.count_append, List.count_cons, List.cons_append, List.nil_append, List.append_assoc]; try ac_rfl))
  clear hS1'
  repeat (first|refine zA ?_|refine zB fun _ _ _=>?_|refine zC fun _ _ _=>?_|refine zD fun _ _=>?_|refine zE ?_|refine zF ?_)
  refine Ev.b2 (rList_spec (L := (w, WldB d x pb rb) :: (Lp ++ L)) hR0 hO (hS1.perm (by (refine perm_cnt ?_; intro _ a; simp only [List.count_append, List.count_cons, List.cons_append, List.nil_append, List.append_assoc]; try ac_rfl)))) ?_
  rintro v2 H2 ⟨B2, hm2, hN2, hS2'⟩
  dsimp only at hS2' hN2
  have hS2 : St H0 B0 B2 ((w, WldB d x pb rb) :: (Lp ++ (Lr ++ L))) H2 := hS2'.perm (by (refine perm_cnt ?_; intro _ a; simp only [List.count_append, List.count_cons, List.cons_append, List.nil_append, List.append_assoc]; try ac_rfl))
  clear hS2'
  refine Ev.b2 (nums_spec rfl (by omega) (ScN.mono (hm2.mo.trans hS2.le) hN1) (ScN.mono hS2.le hN2)) ?_
  rintro _ _ h
  cases h
  repeat (first|refine zA ?_|refine zB fun _ _ _=>?_|refine zC fun _ _ _=>?_|refine zD fun _ _=>?_|refine zE ?_|refine zF ?_)
  refine Ev.b2 (Fresh_spec (L := (w, WldB d x pb rb) :: (Lr ++ L)) hP (by omega) (hS2.perm (by (refine perm_cnt ?_; intro _ a; simp only [List.count_append, List.count_cons, List.cons_append, List.nil_append, List.append_assoc]; try ac_rfl)))) ?_
  rintro v3 H3 ⟨B3, hm3, hN3, hS3'⟩
  dsimp only at hS3' hN3
  have hS3 : St H0 B0 B3 ((w, WldB d x pb rb) :: (Lp ++ (Lr ++ L))) H3 := hS3'.perm (by (refine perm_cnt ?_; intro _ a; simp only [List.count_append, List.count_cons, List.cons_append, List.nil_append, List.append_assoc]; try ac_rfl))
  clear hS3'
  repeat (first|refine zA ?_|refine zB fun _ _ _=>?_|refine zC fun _ _ _=>?_|refine zD fun _ _=>?_|refine zE ?_|refine zF ?_)
  have hNf := hF.now hS3 (fun q hq => .tail _ (List.mem_append_right _ (List.mem_append_left _ (by rw [hLr]; exact .tail _ (List.mem_append_right _ (List.mem_append_left _ hq))))))
  refine Ev.b2 (nums_spec rfl (by omega) (ScN.mono hS3.le hN3) hNf) ?_
  rintro _ _ h
  cases h
  repeat (first|refine zA ?_|refine zB fun _ _ _=>?_|refine zC fun _ _ _=>?_|refine zD fun _ _=>?_|refine zE ?_|refine zF ?_)
  refine Ev.b2 (Root_spec hP hS3 sub) ?_
  rintro _ _ h
  cases h
  repeat (first|refine zA ?_|refine zB fun _ _ _=>?_|refine zC fun _ _ _=>?_|refine zD fun _ _=>?_|refine zE ?_|refine zF ?_)
  refine Ev.b2 (Turn_spec hP hS3 sub) ?_
  rintro _ _ h
  cases h
  repeat (first|refine zA ?_|refine zB fun _ _ _=>?_|refine zC fun _ _ _=>?_|refine zD fun _ _=>?_|refine zE ?_|refine zF ?_)
  refine Ev.b2 (downP_spec hP hS3 sub) ?_
  rintro _ _ h
  cases h
  repeat (first|refine zA ?_|refine zB fun _ _ _=>?_|refine zC fun _ _ _=>?_|refine zD fun _ _=>?_|refine zE ?_|refine zF ?_)
  rw [show (G.down == G.down) = true from by cases G.down <;> rfl]
  repeat (first|refine zA ?_|refine zB fun _ _ _=>?_|refine zC fun _ _ _=>?_|refine zD fun _ _=>?_|refine zE ?_|refine zF ?_)
  refine Ev.b2 (Pages_spec hP hO hS3 sub) ?_
  rintro _ _ h
  cases h
  repeat (first|refine zA ?_|refine zB fun _ _ _=>?_|refine zC fun _ _ _=>?_|refine zD fun _ _=>?_|refine zE ?_|refine zF ?_)
  rw [hlu, Option.bind_some]
  repeat (first|refine zA ?_|refine zB fun _ _ _=>?_|refine zC fun _ _ _=>?_|refine zD fun _ _=>?_|refine zE ?_|refine zF ?_)
  exact Ev.ret ⟨rfl, B3, ⟨hm1.mo.trans (hm2.mo.trans hm3.mo)⟩, hS3⟩
end
end Go.AM.F
namespace Go.AM.F
open Go Go.AM Go.Proofs
attribute [local irreducible] run bin un ld st box newV mkS fldA fld ixA ix slc slc3 build buildS cv cvS ap cpy lenV gOp pickV b2 aIf aChk evalK resume iterD Option.bind

section
variable {B B0 H0 H : AH} {L : List (Nat × Blk)}
theorem fuse_ok {D : Dsk} {n : Int} (hO : D.OK) (hn : n < 9223372036854775808) : ({ D with fuse := max n (-1) } : Dsk).OK := ⟨hO.n1, hO.n2, hO.len, hO.ca, by show -1 ≤ max n (-1) ∧ max n (-1) < _; omega⟩
theorem FuseP_spec {p dv : Value} {G : Pgr} {D : Dsk} {Ls : List (Nat × Blk)} {n : Int} (hP : PK p dv G D Ls) (hS : St H0 B0 B (Ls ++ L) H) :
    Ev (fun k _ => rn k 6 [dv, .int .i64 n] H) (PgP H0 B0 B L p dv (.tuple #[]) G { D with fuse := max n (-1) }) := by
  obtain ⟨pb, mb, fv, Lf, Ld, rfl, hD, hF, rfl⟩ := hP
  obtain ⟨d, bb, cv, Lc, rfl, hG, rfl⟩ := hD
  have hcell := hF.cell
  have hcell2 := hG.cell
  refine Ev.fn (fun k => f6_eq k _ _ H) ?_
  refine Ev.prim (show fold1 maxV [.int .i64 n, .int .i64 (-1)] = some (.int .i64 (max n (-1))) from max_int) ?_
  have hS1 := hS.perm (L' := (d, ⟨[sl bb 0 (64 * D.n) (64 * D.n), cv, .int .i64 D.fuse, .bool D.down], 71, .fix⟩) :: (pb, ⟨[i64 G.turn, .int .i64 G.root, .map (some mb), ptr d 0, fv, .bool G.down], 85, .fix⟩) :: (mb, ⟨entI G.used, 81, .map⟩) :: (bb, ⟨byts D.bytes, 5, .fix⟩) :: (Lf ++ (Lc ++ L))) (by (refine perm_cnt ?_; intro _ a; simp only [List.count_append, List.count_cons, List.cons_append, List.nil_append, List.append_assoc]; try ac_rfl))
  clear hS
  repeat (first|refine zA ?_|refine zB fun _ _ _=>?_|refine zC fun _ _ _=>?_|refine zD fun _ _=>?_|refine zE ?_|refine zF ?_)
  rename_i H2 hS2
  exact Ev.ret ⟨rfl, _, B, ⟨Mo.refl B⟩, ⟨pb, mb, fv, Lf, _, rfl, ⟨d, bb, cv, Lc, rfl, hG, rfl⟩, hF, rfl⟩, hS2.perm (by (refine perm_cnt ?_; intro _ a; simp only [List.count_append, List.count_cons, List.cons_append, List.nil_append, List.append_assoc]; try ac_rfl))⟩
theorem rFuse_step {R : Type} {p : Value} {x : Nat} {G : Pgr} {D : Dsk} {Ls : List (Nat × Blk)} {n : Int} {f : Nat → Nat → AH → Option R} {Q : R → Prop} (hn : -9223372036854775808 ≤ n) (hP : RK p (ptr x 0) G D Ls) (hS : St H0 B0 B (Ls ++ L) H)
    (h : ∀ Ls' H', RK p (ptr x 0) G { D with fuse := max n (-1) } Ls' → St H0 B0 B (Ls' ++ L) H' → Ev (fun k i => f k i H') Q) :
    Ev (fun k i => (st Tryz.prog 3 H (ptr x 2) (.int .i64 n)).bind fun H' => f k i H') Q := by
  obtain ⟨rb, uv, fv, Lu, Lf, Ld, rfl, hD, hK, hF, rfl⟩ := hP
  obtain ⟨x', sv, cv, fx, Ls1, Lc, hx, hfx, hf1, hG1, hG2, rfl⟩ := hD
  cases hx
  have hcu := hK.cell
  have hcell := hF.cell
  have hcell1 := hG1.cell
  have hcell2 := hG2.cell
  have hS1 := hS.perm (L' := (x, ⟨[sv, cv, .int .i64 fx, .bool D.down], 36, .fix⟩) :: (rb, ⟨[ptr x 0, i64 G.turn, .int .i64 G.root, uv, fv, .bool G.down], 76, .fix⟩) :: (Lu ++ (Lf ++ (Ls1 ++ (Lc ++ L))))) (by (refine perm_cnt ?_; intro _ a; simp only [List.count_append, List.count_cons, List.cons_append, List.nil_append, List.append_assoc]; try ac_rfl))
  clear hS
  repeat (first|refine zA ?_|refine zB fun _ _ _=>?_|refine zC fun _ _ _=>?_|refine zD fun _ _=>?_|refine zE ?_|refine zF ?_)
  rename_i H2 hS2
  exact h _ H2 ⟨rb, uv, fv, Lu, Lf, _, rfl, ⟨x, sv, cv, n, Ls1, Lc, rfl, rfl, hn, hG1, hG2, rfl⟩, hK, hF, rfl⟩ (hS2.perm (by (refine perm_cnt ?_; intro _ a; simp only [List.count_append, List.count_cons, List.cons_append, List.nil_append, List.append_assoc]; try ac_rfl)))
theorem likeP_spec {p dv r xv : Value} {G : Pgr} {D : Dsk} {Lp Lr : List (Nat × Blk)} (hP : PK p dv G D Lp) (hR : RK r xv G D Lr) (hO : D.OK) (hc : D.cache.length < 1000000000000) (hS : St H0 B0 B (Lp ++ (Lr ++ L)) H) :
    Ev (fun k _ => rn k 9 [dv, xv] H) (fun o => o.1 = .bool true ∧ ∃ B', MoC B B' ∧ St H0 B0 B' (Lp ++ (Lr ++ L)) o.2) := by
  obtain ⟨pb, mb, fv, Lf, Ld, rfl, hD, hF, rfl⟩ := hP
  obtain ⟨rb, uv, fv2, Lu, Lf2, Ld2, rfl, hX, hK, hF2, rfl⟩ := hR
  refine (like_spec (L := (pb, ⟨[i64 G.turn, .int .i64 G.root, .map (some mb), dv, fv, .bool G.down], 85, .fix⟩) :: (mb, ⟨entI G.used, 81, .map⟩) :: (rb, ⟨[xv, i64 G.turn, .int .i64 G.root, uv, fv2, .bool G.down], 76, .fix⟩) :: (Lf ++ (Lu ++ (Lf2 ++ L)))) hD hX hO hc (hS.perm (by (refine perm_cnt ?_; intro _ a; simp only [List.count_append, List.count_cons, List.cons_append, List.nil_append, List.append_assoc]; try ac_rfl)))).mono ?_
  rintro o ⟨h, B', hm', hS'⟩
  exact ⟨h, B', hm', hS'.perm (by (refine perm_cnt ?_; intro _ a; simp only [List.count_append, List.count_cons, List.cons_append, List.nil_append, List.append_assoc]; try ac_rfl))⟩
end
end Go.AM.F
namespace Go.AM.F
open Go Go.AM Go.Proofs
attribute [local irreducible] run bin un ld st box newV mkS fldA fld ixA ix slc slc3 build buildS cv cvS ap cpy lenV gOp pickV b2 aIf aChk evalK resume iterD Option.bind

section
variable {B B0 H0 H : AH} {L : List (Nat × Blk)}
theorem Need_spec {n : Nat} (h : n < 4611686018427387904) : Ev (fun k _ => rn k 20 [i64 n] H) (fun r => r = (i64 (need n), H)) := by
  refine Ev.fn (fun k => f20_eq k _ H) ?_
  refine Ev.prim (show fold1 maxV [i64 n, .int .i64 0] = some (i64 n) from by rw [max_int]; congr 2; omega) ?_
  refine Ev.prim (show fold1 minV [i64 n, .int .i64 1048576] = some (i64 (min n 1048576)) from by rw [min_int]; congr 2; omega) ?_
  unfold need
  generalize hz : min n 1048576 = z
  repeat (first|refine zA ?_|refine zB fun _ _ _=>?_|refine zC fun _ _ _=>?_|refine zD fun _ _=>?_|refine zE ?_|refine zF ?_)
  by_cases h0 : z = 0
  · rw [if_pos h0, decide_eq_true h0]
    repeat (first|refine zA ?_|refine zB fun _ _ _=>?_|refine zC fun _ _ _=>?_|refine zD fun _ _=>?_|refine zE ?_|refine zF ?_)
    exact Ev.ret rfl
  · rw [if_neg h0, decide_eq_false h0]
    repeat (first | (first|refine zA ?_|refine zB fun _ _ _=>?_|refine zC fun _ _ _=>?_|refine zD fun _ _=>?_|refine zE ?_|refine zF ?_) | rw [decide_eq_true (by omega)] | rw [decide_eq_false (by omega)])
    exact Ev.ret (by rw [show z + 118 - 1 = z + 117 by omega])
theorem lay_alloc {p dv : Value} {D : Dsk} {m j k : Nat} {s1 : Value} (hU : D.Up (2 * m)) (hm2 : m ≤ 512) (hk : k < 100000) (hjm : j + 2 ≤ m) : ∀ (q i : Nat) (B H : AH) (Ls Lv : List (Nat × Blk)) (v : Value), i + q = k → j + i + 2 ≤ m → PK p dv ⟨1, 0, [0, 1], frs (j + i), false⟩ D Ls → FR v (pagesL j i) Lv → St H0 B0 B (Lv ++ (Ls ++ L)) H →
    Ev (fun K K2 => f28_L0 K p s1 v (i64 k) (i64 i) K2 H) (fun o =>
      (j + k + 2 ≤ m ∧ ∃ B' H' Ls' Lv' v', o = (.exit 0, f28_X_L0 p s1 unk unk v', H') ∧ MoC B B' ∧ PK p dv ⟨1, 0, [0, 1], frs (j + k), false⟩ D Ls' ∧ FR v' (pagesL j k) Lv' ∧ St H0 B0 B' (Lv' ++ (Ls' ++ L)) H') ∨
      (m < j + k + 2 ∧ ∃ B' H' Ls' w, o = (.ret, f28_X_L0 p s1 (.slice none 0 0) (.int .i64 6) w, H') ∧ MoC B B' ∧ PK p dv ⟨1, 0, [0, 1], frs (m - 2), false⟩ D Ls' ∧ St H0 B0 B' (Ls' ++ L) H')) := by
  have hdn : D.n / 2 = m := by have := hU.n; omega
  intro q
  induction q with
  | zero =>
    intro i B H Ls Lv v hi hj hP hF hS
    refine Ev.succ (fun K K2 => f28_L0_succ K _ _ _ _ _ K2 H) ?_
    have : i = k := by omega
    subst this
    repeat (first | (first|refine zA ?_|refine zB fun _ _ _=>?_|refine zC fun _ _ _=>?_|refine zD fun _ _=>?_|refine zE ?_|refine zF ?_) | rw [decide_eq_true (by omega)] | rw [decide_eq_false (by omega)])
    exact Ev.ret (.inl ⟨hj, B, H, Ls, Lv, v, rfl, ⟨Mo.refl B⟩, hP, hF, hS⟩)
  | succ q ih =>
    intro i B H Ls Lv v hi hj hP hF hS
    refine Ev.succ (fun K K2 => f28_L0_succ K _ _ _ _ _ K2 H) ?_
    repeat (first | (first|refine zA ?_|refine zB fun _ _ _=>?_|refine zC fun _ _ _=>?_|refine zD fun _ _=>?_|refine zE ?_|refine zF ?_) | rw [decide_eq_true (by omega)] | rw [decide_eq_false (by omega)])
    have hS2 : St H0 B0 B (Ls ++ (Lv ++ L)) H := hS.perm (permA Lv Ls L)
    refine Ev.b2 (Alloc_spec hP hU.ok (by rw [frs_len]; omega) hS2) ?_
    clear hS hS2
    rw [hdn]
    by_cases hr : j + i + 2 < m
    · rw [alloc_frs (j := j + i) rfl rfl rfl hr]
      rintro _ H1 ⟨rfl, Ls1, B1, hm1, hP1, hS1⟩
      dsimp only at hS1 hP1
      repeat (first|refine zA ?_|refine zB fun _ _ _=>?_|refine zC fun _ _ _=>?_|refine zD fun _ _=>?_|refine zE ?_|refine zF ?_)
      have hS3 : St H0 B0 B1 (Lv ++ (Ls1 ++ L)) H1 := hS1.perm (permA Ls1 Lv L)
      refine FRS.push (x := ((j + i + 2 : Nat) : Int)) eltI hF hS3 (by rw [pagesL_len]; omega) fun v' Lv' H' hF' hS' => ?_
      have e : pagesL j i ++ [((j + i + 2 : Nat) : Int)] = pagesL j (i + 1) := by rw [pagesL_succ, show j + i + 2 = j + 2 + i by omega]
      rw [e] at hF'
      clear hS1 hS3
      repeat (first | (first|refine zA ?_|refine zB fun _ _ _=>?_|refine zC fun _ _ _=>?_|refine zD fun _ _=>?_|refine zE ?_|refine zF ?_) | rw [decide_eq_true (by omega)] | rw [decide_eq_false (by omega)])
      refine (ih (i + 1) B1 H' Ls1 Lv' v' (by omega) (by omega) hP1 hF' hS').mono ?_
      rintro o (⟨h1, B', H2, Ls', Lv2, v2, rfl, hm', h2, h3, h4⟩ | ⟨h1, B', H2, Ls', w, rfl, hm', h2, h3⟩)
      · exact .inl ⟨h1, B', H2, Ls', Lv2, v2, rfl, ⟨hm1.mo.trans hm'.mo⟩, h2, h3, h4⟩
      · exact .inr ⟨h1, B', H2, Ls', w, rfl, ⟨hm1.mo.trans hm'.mo⟩, h2, h3⟩
    · rw [alloc_full (j := j + i) rfl rfl rfl (by omega)]
      rintro _ H1 ⟨rfl, Ls1, B1, hm1, hP1, hS1⟩
      dsimp only at hS1 hP1
      repeat (first|refine zA ?_|refine zB fun _ _ _=>?_|refine zC fun _ _ _=>?_|refine zD fun _ _=>?_|refine zE ?_|refine zF ?_)
      dsimp only
      rw [show decide ((6 : Int) ≠ 0) = true from rfl]
      repeat (first|refine zA ?_|refine zB fun _ _ _=>?_|refine zC fun _ _ _=>?_|refine zD fun _ _=>?_|refine zE ?_|refine zF ?_)
      rw [show j + i = m - 2 by omega] at hP1
      exact Ev.ret (.inr ⟨by omega, B1, H1, Ls1, v, rfl, hm1, hP1, hS1.drop (List.Sublist.append_left (List.sublist_append_right _ _) _)⟩)
theorem u8s (a b : Nat) : [u8 (a % 256), u8 (b % 256)] = byts [UInt8.ofNat a, UInt8.ofNat b] := by
  simp only [byts, List.map_cons, List.map_nil]
  rfl
theorem lay_write {p dv : Value} {m j k : Nat} {v : Value} {s : List UInt8} (hm2 : m ≤ 512) (hjm : j + k + 2 ≤ m) (hs : s.length ≤ 60000) : ∀ (q i : Nat) (B H : AH) (Ls Lv : List (Nat × Blk)) (D : Dsk), i + q = k → D.Up (2 * m) → D.cache.length < 100000 + 2 * i → PK p dv ⟨1, 0, [0, 1], frs (j + k), false⟩ D Ls → FR v (pagesL j k) Lv → St H0 B0 B (Lv ++ (Ls ++ L)) H →
    Ev (fun K K2 => f28_L1 K p (str (s.drop (118 * i))) v v (i64 k) (i64 i) K2 H) (fun o => ∃ B' H' Ls' D', o = (.exit 2, f28_X_L1 unk unk v, H') ∧ MoC B B' ∧ D'.Up (2 * m) ∧ D'.cache.length = D.cache.length + 2 * q ∧ PK p dv ⟨1, 0, [0, 1], frs (j + k), false⟩ D' Ls' ∧
      (∀ n, D'.pg n = if j + 2 + i ≤ n ∧ n < j + 2 + k then sealL 2 (bpage s j k (n - (j + 2))) else D.pg n) ∧ St H0 B0 B' (Lv ++ (Ls' ++ L)) H') := by
  intro q
  induction q with
  | zero =>
    intro i B H Ls Lv D hi hU hc hP hF hS
    refine Ev.succ (fun K K2 => f28_L1_succ K _ _ _ _ _ _ K2 H) ?_
    have : i = k := by omega
    subst this
    repeat (first | (first|refine zA ?_|refine zB fun _ _ _=>?_|refine zC fun _ _ _=>?_|refine zD fun _ _=>?_|refine zE ?_|refine zF ?_) | rw [decide_eq_true (by omega)] | rw [decide_eq_false (by omega)])
    exact Ev.ret ⟨B, H, Ls, D, rfl, ⟨Mo.refl B⟩, hU, rfl, hP, (fun n => by rw [if_neg (by omega)]), hS⟩
  | succ q ih =>
    intro i B H Ls Lv D hi hU hc hP hF hS
    refine Ev.succ (fun K K2 => f28_L1_succ K _ _ _ _ _ _ K2 H) ?_
    repeat (first | (first|refine zA ?_|refine zB fun _ _ _=>?_|refine zC fun _ _ _=>?_|refine zD fun _ _=>?_|refine zE ?_|refine zF ?_) | rw [decide_eq_true (by omega)] | rw [decide_eq_false (by omega)])
    have hN := hF.now hS fun x hx => List.mem_append_left _ hx
    rw [pagesL_len] at hN
    have hx : ∀ a, a < k → (intV (pagesL j k))[a]? = some (.int .i64 ((j + 2 + a : Nat) : Int)) := fun a ha => by unfold intV; rw [List.getElem?_map, pagesL_at ha]; rfl
    refine Ev.ixN (t := 51) hN i rfl (by omega) (hx i (by omega)) fun pp hp => ?_
    refine Ev.prim (hp.eq H (Mo.refl H)) ?_
    have hlv := hF.len (Und.eq (P := Tryz.prog) (t := 51))
    rw [pagesL_len] at hlv
    refine Ev.prim hlv ?_
    repeat (first | (first|refine zA ?_|refine zB fun _ _ _=>?_|refine zC fun _ _ _=>?_|refine zD fun _ _=>?_|refine zE ?_|refine zF ?_) | rw [decide_eq_true (by omega)] | rw [decide_eq_false (by omega)])
    have hlen : (s.drop (118 * i)).length < 9223372036854775808 := by rw [List.length_drop]; omega
    -- what is behind the next page's number
    have go : ∀ nx : Nat, nx = nextB j k i → Ev (fun K K2 => f28_J0 K K2 p (str (s.drop (118 * i))) v (i64 (j + 2 + i)) (i64 nx) v (i64 k) (i64 i) H) (fun o => ∃ B' H' Ls' D', o = (.exit 2, f28_X_L1 unk unk v, H') ∧ MoC B B' ∧ D'.Up (2 * m) ∧ D'.cache.length = D.cache.length + 2 * (q + 1) ∧ PK p dv ⟨1, 0, [0, 1], frs (j + k), false⟩ D' Ls' ∧
      (∀ n, D'.pg n = if j + 2 + i ≤ n ∧ n < j + 2 + k then sealL 2 (bpage s j k (n - (j + 2))) else D.pg n) ∧ St H0 B0 B' (Lv ++ (Ls' ++ L)) H') := by
      intro nx hnx
      refine Ev.eq (fun K K2 => f28_J0_eq K K2 _ _ _ _ _ _ _ _ H) ?_
      repeat (first|refine zA ?_|refine zB fun _ _ _=>?_|refine zC fun _ _ _=>?_|refine zD fun _ _=>?_|refine zE ?_|refine zF ?_)
      rw [show (if (118 : Int) < ((s.drop (118 * i)).length : Int) then (118 : Int) else ((s.drop (118 * i)).length : Int)) = ((min (s.drop (118 * i)).length 118 : Nat) : Int) by split <;> omega]
      refine Ev.prim (shrL (by decide)) ?_
      refine Ev.prim (toU8 (Und.eq (P := Tryz.prog) (t := 3)) (Und.eq (P := Tryz.prog) (t := 5))) ?_
      refine Ev.prim (toU8 (Und.eq (P := Tryz.prog) (t := 3)) (Und.eq (P := Tryz.prog) (t := 5))) ?_
      refine Ev.bsC (by decide) fun bb H1 hS1 => ?_
      rw [show nx / 2 ^ 8 = nx / 256 from rfl, u8s (nx / 256) nx] at hS1
      refine Ev.prim (cvS_part (d := 9) (bs := hdr nx) hS1 (.head _) (Nat.le_refl _) (by show 0 + 2 ≤ 2; decide)) ?_
      rw [show ((hdr nx).drop 0).take 2 = hdr nx from rfl]
      refine Ev.prim (slc_strT (l := s.drop (118 * i)) (i := min (s.drop (118 * i)).length 118) (Nat.min_le_left _ _)) ?_
      rw [take_piece]
      refine Ev.prim (add_str (a := hdr nx) (b := pieceT s i) (by unfold pieceT hdr; simp; omega)) ?_
      have eb : hdr nx ++ pieceT s i = bpage s j k i := by rw [hnx]; rfl
      rw [eb]
      obtain ⟨D2, e2, u2, c2, pg2⟩ := hU.gwrite (G := ⟨1, 0, [0, 1], frs (j + k), false⟩) (n := j + 2 + i) (k := 2) (t := bpage s j k i) rfl (by omega) (frs_mem.2 (by omega)) hm2 (by decide) (by decide) (bpage_len s j k i)
      have hS2 : St H0 B0 B (Ls ++ (Lv ++ L)) H1 := hS1.drop1.perm (permA Lv Ls L)
      have hbl := bpage_len s j k i
      refine Ev.b2 (Write_specP (n := ((j + 2 + i : Nat) : Int)) (kind := ((2 : Nat) : Int)) (t := bpage s j k i) hP hU.ok (by omega) (by show (frs (j + k)).length < 100000; rw [frs_len]; omega) (by omega) (by decide) hS2) ?_
      rw [e2]
      clear hS1 hS2
      rintro _ H2 ⟨rfl, Ls2, B2, hm2', hP2, hS2⟩
      dsimp only at hS2 hP2
      repeat (first | (first|refine zA ?_|refine zB fun _ _ _=>?_|refine zC fun _ _ _=>?_|refine zD fun _ _=>?_|refine zE ?_|refine zF ?_) | rw [decide_eq_true (by omega)] | rw [decide_eq_false (by omega)])
      refine Ev.prim (slc_str (l := s.drop (118 * i)) (min (s.drop (118 * i)).length 118) rfl (Nat.min_le_left _ _)) ?_
      rw [drop_piece]
      repeat (first | (first|refine zA ?_|refine zB fun _ _ _=>?_|refine zC fun _ _ _=>?_|refine zD fun _ _=>?_|refine zE ?_|refine zF ?_) | rw [decide_eq_true (by omega)] | rw [decide_eq_false (by omega)])
      have hS3 : St H0 B0 B2 (Lv ++ (Ls2 ++ L)) H2 := hS2.perm (permA Ls2 Lv L)
      refine (ih (i + 1) B2 H2 Ls2 Lv D2 (by omega) u2 (by omega) hP2 hF hS3).mono ?_
      rintro o ⟨B', H', Ls', D', rfl, hm', u', c', hP', hpg, hS'⟩
      refine ⟨B', H', Ls', D', rfl, ⟨hm2'.mo.trans hm'.mo⟩, u', by omega, hP', fun n => ?_, hS'⟩
      rw [hpg n, pg2 n]
      by_cases h1 : n = j + 2 + i
      · rw [if_neg (by omega), if_pos h1, if_pos (by omega), h1, show j + 2 + i - (j + 2) = i by omega]
      · by_cases h2 : j + 2 + (i + 1) ≤ n ∧ n < j + 2 + k
        · rw [if_pos h2, if_pos (by omega)]
        · rw [if_neg h2, if_neg h1, if_neg (by omega)]
    by_cases hlast : i + 1 < k
    · rw [decide_eq_true (by omega)]
      repeat (first | (first|refine zA ?_|refine zB fun _ _ _=>?_|refine zC fun _ _ _=>?_|refine zD fun _ _=>?_|refine zE ?_|refine zF ?_) | rw [decide_eq_true (by omega)] | rw [decide_eq_false (by omega)])
      refine Ev.ixN (t := 51) hN (i + 1) rfl (by omega) (hx (i + 1) (by omega)) fun pp2 hp2 => ?_
      refine Ev.prim (hp2.eq H (Mo.refl H)) ?_
      exact go (j + 2 + (i + 1)) (by unfold nextB; rw [if_pos hlast])
    · rw [decide_eq_false (by omega)]
      repeat (first | (first|refine zA ?_|refine zB fun _ _ _=>?_|refine zC fun _ _ _=>?_|refine zD fun _ _=>?_|refine zE ?_|refine zF ?_) | rw [decide_eq_true (by omega)] | rw [decide_eq_false (by omega)])
      exact go 0 (by unfold nextB; rw [if_neg hlast])
end
end Go.AM.F
namespace Go.AM.F
open Go Go.AM Go.Proofs
attribute [local irreducible] run bin un ld st box newV mkS fldA fld ixA ix slc slc3 build buildS cv cvS ap cpy lenV gOp pickV b2 aIf aChk evalK resume iterD Option.bind

section
variable {B B0 H0 H : AH} {L : List (Nat × Blk)}
def Laid (s : List UInt8) (j k : Nat) (D D' : Dsk) : Prop := ∀ n, D'.pg n = if j + 2 ≤ n ∧ n < j + 2 + k then sealL 2 (bpage s j k (n - (j + 2))) else D.pg n
theorem blay_spec {p dv : Value} {D : Dsk} {m j : Nat} {s : List UInt8} {Ls : List (Nat × Blk)} (hU : D.Up (2 * m)) (hm2 : m ≤ 512) (hc : D.cache.length < 100000) (hjm : j + 2 ≤ m) (hs : s.length ≤ 60000) (hP : PK p dv ⟨1, 0, [0, 1], frs j, false⟩ D Ls) (hS : St H0 B0 B (Ls ++ L) H) :
    Ev (fun K _ => rn K 28 [p, str s] H) (fun r =>
      (j + need s.length + 2 ≤ m ∧ ∃ B' Ls' Lv' v' D', r.1 = .tuple #[v', .int .i64 0] ∧ MoC B B' ∧ D'.Up (2 * m) ∧ D'.cache.length = D.cache.length + 2 * need s.length ∧ Laid s j (need s.length) D D' ∧ PK p dv ⟨1, 0, [0, 1], frs (j + need s.length), false⟩ D' Ls' ∧ FR v' (pagesL j (need s.length)) Lv' ∧ St H0 B0 B' (Lv' ++ (Ls' ++ L)) r.2) ∨
      (m < j + need s.length + 2 ∧ ∃ B' Ls', r.1 = .tuple #[.slice none 0 0, .int .i64 6] ∧ MoC B B' ∧ PK p dv ⟨1, 0, [0, 1], frs (m - 2), false⟩ D Ls' ∧ St H0 B0 B' (Ls' ++ L) r.2)) := by
  refine Ev.fn (fun K => f28_eq K _ _ H) ?_
  have hneed : need s.length ≤ 10000 := by unfold need; split <;> omega
  repeat (first|refine zA ?_|refine zB fun _ _ _=>?_|refine zC fun _ _ _=>?_|refine zD fun _ _=>?_|refine zE ?_|refine zF ?_)
  refine Ev.b2 (Need_spec (n := s.length) (by omega)) ?_
  rintro v H1 h
  cases h
  generalize hk : need s.length = k at hneed ⊢
  refine Ev.bind (Ev.loop (lay_alloc (s1 := str s) hU hm2 (k := k) (by omega) hjm k 0 B H Ls [] (.slice none 0 0) (by omega) (by omega) hP FRS.nil hS)) ?_
  rintro _ (⟨h1, B1, H1, Ls1, Lv1, v1, rfl, hm1, hP1, hF1, hS1⟩ | ⟨h1, B1, H1, Ls1, w, rfl, hm1, hP1, hS1⟩)
  · refine Ev.eq (fun K _ => f28_A0_x0 K _ _ _ _ _ H1) ?_
    have hlv := hF1.len (Und.eq (P := Tryz.prog) (t := 51))
    rw [pagesL_len] at hlv
    refine Ev.prim hlv ?_
    refine Ev.bind (Ev.loop (lay_write (s := s) hm2 h1 hs k 0 B1 H1 Ls1 Lv1 D (by omega) hU (by omega) hP1 hF1 hS1)) ?_
    rintro _ ⟨B2, H2, Ls2, D2, rfl, hm2', u2, c2, hP2, hpg, hS2⟩
    refine Ev.eq (fun K _ => f28_A1_x2 K _ _ _ H2) ?_
    exact Ev.ret (.inl ⟨h1, B2, Ls2, Lv1, v1, D2, rfl, ⟨hm1.mo.trans hm2'.mo⟩, u2, c2, hpg, hP2, hF1, hS2⟩)
  · refine Ev.eq (fun K _ => f28_A0_ret K _ _ _ _ _ H1) ?_
    exact Ev.ret (.inr ⟨h1, B1, Ls1, rfl, hm1, hP1, hS1⟩)
theorem bWrite_spec {p dv : Value} {D : Dsk} {m j : Nat} {s : List UInt8} {Ls : List (Nat × Blk)} (hU : D.Up (2 * m)) (hm2 : m ≤ 512) (hc : D.cache.length < 100000) (hjm : j + 2 ≤ m) (hs : s.length ≤ 60000) (hP : PK p dv ⟨1, 0, [0, 1], frs j, false⟩ D Ls) (hS : St H0 B0 B (Ls ++ L) H) :
    Ev (fun K _ => rn K 7 [p, str s] H) (fun r =>
      (j + need s.length + 2 ≤ m ∧ ∃ B' Ls' D', r.1 = .tuple #[i64 (j + 2), .int .i64 0] ∧ MoC B B' ∧ D'.Up (2 * m) ∧ D'.cache.length = D.cache.length + 2 * need s.length ∧ Laid s j (need s.length) D D' ∧ PK p dv ⟨1, 0, [0, 1], frs (j + need s.length), false⟩ D' Ls' ∧ St H0 B0 B' (Ls' ++ L) r.2) ∨
      (m < j + need s.length + 2 ∧ ∃ B' Ls', r.1 = .tuple #[.int .i64 0, .int .i64 6] ∧ MoC B B' ∧ PK p dv ⟨1, 0, [0, 1], frs j, false⟩ D Ls' ∧ St H0 B0 B' (Ls' ++ L) r.2)) := by
  refine Ev.fn (fun K => f7_eq K _ _ H) ?_
  have hnp := need_pos s.length
  repeat (first | (first|refine zA ?_|refine zB fun _ _ _=>?_|refine zC fun _ _ _=>?_|refine zD fun _ _=>?_|refine zE ?_|refine zF ?_) | rw [decide_eq_true (by omega)] | rw [decide_eq_false (by omega)])
  refine Ev.b2 (Fresh_spec hP (by show (frs j).length < 100000; rw [frs_len]; omega) hS) ?_
  clear hS
  rintro v1 H1 ⟨B1, hm1, hsc1, hS1⟩
  dsimp only at hS1 hsc1
  rw [frs_len] at hsc1
  refine Ev.prim (hsc1.len (Und.eq (P := Tryz.prog) (t := 51))) ?_
  refine Ev.b2 (blay_spec hU hm2 hc hjm hs hP hS1) ?_
  clear hS1
  rintro _ H2 (⟨h1, B2, Ls2, Lv2, v2, D2, rfl, hm2', u2, c2, hL2, hP2, hF2, hS2⟩ | ⟨h1, B2, Ls2, rfl, hm2', hP2, hS2⟩)
  · dsimp only at hS2
    repeat (first | (first|refine zA ?_|refine zB fun _ _ _=>?_|refine zC fun _ _ _=>?_|refine zD fun _ _=>?_|refine zE ?_|refine zF ?_) | rw [decide_eq_true (by omega)] | rw [decide_eq_false (by omega)])
    have hN := hF2.now hS2 fun x hx => List.mem_append_left _ hx
    rw [pagesL_len] at hN
    refine Ev.ixN (t := 51) (x := i64 (j + 2)) hN 0 rfl (by omega) (by unfold intV; rw [List.getElem?_map, pagesL_at (by omega)]; rfl) fun pp hp => ?_
    refine Ev.prim (hp.eq H2 (Mo.refl H2)) ?_
    exact Ev.ret (.inl ⟨h1, B2, Ls2, D2, rfl, ⟨hm1.mo.trans hm2'.mo⟩, u2, c2, hL2, hP2, hS2.drop (List.sublist_append_right _ _)⟩)
  · dsimp only at hS2
    repeat (first | (first|refine zA ?_|refine zB fun _ _ _=>?_|refine zC fun _ _ _=>?_|refine zD fun _ _=>?_|refine zE ?_|refine zF ?_) | rw [decide_eq_true (by omega)] | rw [decide_eq_false (by omega)])
    refine Ev.b2 (Back_spec (many := (j : Int)) hP2 (by show (frs (m - 2)).length < 100000; rw [frs_len]; omega) hS2) ?_
    rw [show Pgr.back ⟨1, 0, [0, 1], frs (m - 2), false⟩ (j : Int) = ⟨1, 0, [0, 1], frs j, false⟩ by unfold Pgr.back; rw [Int.toNat_natCast, frs_take (by omega)]]
    rintro _ H3 ⟨rfl, Ls3, B3, hm3, hP3, hS3⟩
    dsimp only at hS3
    exact Ev.ret (.inr ⟨h1, B3, Ls3, rfl, ⟨hm1.mo.trans (hm2'.mo.trans hm3.mo)⟩, hP3, hS3⟩)
end
end Go.AM.F
namespace Go.AM.F
open Go Go.AM Go.Proofs
attribute [local irreducible] run bin un ld st box newV mkS fldA fld ixA ix slc slc3 build buildS cv cvS ap cpy lenV gOp pickV b2 aIf aChk evalK resume iterD Option.bind

section
variable {B B0 H0 H : AH} {L : List (Nat × Blk)}
theorem parts_one {p dv x2 b m j k a t : Nat} {D : Dsk} {s : List UInt8} {G : Pgr} {J : Nat → List (Nat × Blk) → Prop} {B H : AH} {Ls Lm Lj : List (Nat × Blk)} {mv : Value} (hU : D.Up (2 * m)) (hm2 : m ≤ 512) (hc : D.cache.length < 1000000) (hd : G.down = false) (hH : D.Has s j k) (hjm : j + 2 + k ≤ m)
    (yl : ∀ i, i < k → ∀ (B H : AH) (Lj Lx : List (Nat × Blk)), J i Lj → St H0 B0 B (Lj ++ Lx) H → Ev (fun K _ => rn K (yOff + b) [.agg #[i64 (j + 2 + i), str (pieceT s i), .int .i64 0]] H) (fun r => r.1 = .bool true ∧ ∃ B' Lj', MoC B B' ∧ J (i + 1) Lj' ∧ St H0 B0 B' (Lj' ++ Lx) r.2))
    (htk : a + t < k) (hP : PK (ptr p 0) (ptr dv 0) G D Ls) (hF : FR mv (pagesL (j + a) t) Lm) (hJ : J (a + t) Lj) (hS : St H0 B0 B (Ls ++ ((x2, ⟨[ptr p 0], 29, .fix⟩) :: (Lm ++ (Lj ++ L)))) H)
    (next : a + t + 1 < k → ∀ (B1 H1 : AH) (Ls1 Lm1 Lj1 : List (Nat × Blk)) (mv1 : Value), MoC B B1 → PK (ptr p 0) (ptr dv 0) G D Ls1 → FR mv1 (pagesL (j + a) (t + 1)) Lm1 → J (a + (t + 1)) Lj1 → St H0 B0 B1 (Ls1 ++ ((x2, ⟨[ptr p 0], 29, .fix⟩) :: (Lm1 ++ (Lj1 ++ L)))) H1 →
      Ev (fun K K2 => f66_L0 K (.func (.yield b) #[] #[]) (ptr x2 0) mv1 (i64 (j + 2 + (a + (t + 1)))) K2 H1) (fun o => ∃ B' Ls' Lj' H', o = (.ret, f66_X_L0, H') ∧ MoC B B' ∧ PK (ptr p 0) (ptr dv 0) G D Ls' ∧ J k Lj' ∧ St H0 B0 B' (Ls' ++ (Lj' ++ L)) H')) :
    Ev (fun K K2 => f66_L0 K (.func (.yield b) #[] #[]) (ptr x2 0) mv (i64 (j + 2 + (a + t))) K2 H) (fun o => ∃ B' Ls' Lj' H', o = (.ret, f66_X_L0, H') ∧ MoC B B' ∧ PK (ptr p 0) (ptr dv 0) G D Ls' ∧ J k Lj' ∧ St H0 B0 B' (Ls' ++ (Lj' ++ L)) H') := by
  have hdn : D.n / 2 = m := by have := hU.n; omega
  refine Ev.succ (fun K K2 => f66_L0_succ K _ _ _ _ K2 H) ?_
  have ix2 : InL x2 ⟨[ptr p 0], 29, .fix⟩ (Ls ++ ((x2, ⟨[ptr p 0], 29, .fix⟩) :: (Lm ++ (Lj ++ L)))) := ⟨List.mem_append_right _ (.head _)⟩
  repeat (first|refine zA ?_|refine zB fun _ _ _=>?_|refine zC fun _ _ _=>?_|refine zD fun _ _=>?_|refine zE ?_|refine zF ?_)
  have er : G.read D ((j + 2 + (a + t) : Nat) : Int) = ((2, bpage s j k (a + t), 0), G) := hU.gread hd (by omega) hm2 (by decide) (by decide) (bpage_len s j k (a + t)) (hH (a + t) htk)
  refine Ev.b2 (Read_specP (n := ((j + 2 + (a + t) : Nat) : Int)) hP hU.ok (by omega) hS) ?_
  rw [er]
  clear hS ix2
  rintro _ H1 ⟨rfl, Ls1, B1, hm1, hP1, hS1⟩
  dsimp only at hS1 hP1
  unfold OpenV
  dsimp only
  have hl2 : (bpage s j k (a + t)).length = 2 + (pieceT s (a + t)).length := by unfold bpage hdr; simp; omega
  have hbl := bpage_len s j k (a + t)
  have hnlt : nextB j k (a + t) < m := by unfold nextB; split <;> omega
  have hn1 : nextB j k (a + t) ≠ 1 := by unfold nextB; split <;> omega
  have g0 : (bpage s j k (a + t)).getD 0 0 = UInt8.ofNat (nextB j k (a + t) / 256) := rfl
  have g1 : (bpage s j k (a + t)).getD 1 0 = UInt8.ofNat (nextB j k (a + t)) := rfl
  have gd : (bpage s j k (a + t)).drop 2 = pieceT s (a + t) := rfl
  have hnv := hdr_val (nextB j k (a + t)) (by omega)
  have hu0 := (UInt8.ofNat (nextB j k (a + t) / 256)).toNat_lt
  have hu1 := (UInt8.ofNat (nextB j k (a + t))).toNat_lt
  repeat (first | (first|refine zA ?_|refine zB fun _ _ _=>?_|refine zC fun _ _ _=>?_|refine zD fun _ _=>?_|refine zE ?_|refine zF ?_) | rw [decide_eq_true (by omega)] | rw [decide_eq_false (by omega)])
  have hlv := hF.len (Und.eq (P := Tryz.prog) (t := 51))
  rw [pagesL_len] at hlv
  refine Ev.gPrim hlv rfl ?_
  repeat (first | (first|refine zA ?_|refine zB fun _ _ _=>?_|refine zC fun _ _ _=>?_|refine zD fun _ _=>?_|refine zE ?_|refine zF ?_) | rw [decide_eq_true (by omega)] | rw [decide_eq_false (by omega)])
  have hS2 : St H0 B0 B1 (Lm ++ ((x2, ⟨[ptr p 0], 29, .fix⟩) :: (Ls1 ++ (Lj ++ L)))) H1 := hS1.perm (perm1 Lm _ Ls1 (Lj ++ L))
  refine FRS.push (x := ((j + 2 + (a + t) : Nat) : Int)) eltI hF hS2 (by rw [pagesL_len]; omega) fun mv' Lm' H2 hF' hS3 => ?_
  clear hS1 hS2
  have ep : pagesL (j + a) t ++ [((j + 2 + (a + t) : Nat) : Int)] = pagesL (j + a) (t + 1) := by rw [pagesL_succ, show j + a + 2 + t = j + 2 + (a + t) by omega]
  rw [ep] at hF'
  have hS4 : St H0 B0 B1 (Ls1 ++ ((x2, ⟨[ptr p 0], 29, .fix⟩) :: (Lm' ++ (Lj ++ L)))) H2 := hS3.perm (perm1 Ls1 _ Lm' (Lj ++ L))
  clear hS3
  refine Ev.prim (ix_str 0 rfl (by omega)) ?_
  rw [g0]
  repeat (first|refine zA ?_|refine zB fun _ _ _=>?_|refine zC fun _ _ _=>?_|refine zD fun _ _=>?_|refine zE ?_|refine zF ?_)
  refine Ev.prim (shl8 (by omega)) ?_
  refine Ev.prim (ix_str 1 rfl (by omega)) ?_
  rw [g1]
  repeat (first|refine zA ?_|refine zB fun _ _ _=>?_|refine zC fun _ _ _=>?_|refine zD fun _ _=>?_|refine zE ?_|refine zF ?_)
  refine Ev.prim (or8 (by omega) hu1) ?_
  rw [hnv]
  have ix2 : InL x2 ⟨[ptr p 0], 29, .fix⟩ (Ls1 ++ ((x2, ⟨[ptr p 0], 29, .fix⟩) :: (Lm' ++ (Lj ++ L)))) := ⟨List.mem_append_right _ (.head _)⟩
  repeat (first|refine zA ?_|refine zB fun _ _ _=>?_|refine zC fun _ _ _=>?_|refine zD fun _ _=>?_|refine zE ?_|refine zF ?_)
  rw [decide_eq_false hn1]
  repeat (first|refine zA ?_|refine zB fun _ _ _=>?_|refine zC fun _ _ _=>?_|refine zD fun _ _=>?_|refine zE ?_|refine zF ?_)
  refine Ev.b2 (Pages_spec hP1 hU.ok hS4 fun x hx => List.mem_append_left _ hx) ?_
  rintro v H3 h
  cases h
  rw [hdn]
  repeat (first | (first|refine zA ?_|refine zB fun _ _ _=>?_|refine zC fun _ _ _=>?_|refine zD fun _ _=>?_|refine zE ?_|refine zF ?_) | rw [decide_eq_true (by omega)] | rw [decide_eq_false (by omega)])
  -- the round of what is ranged
  have round : ∀ (H3 : AH), St H0 B0 B1 (Ls1 ++ ((x2, ⟨[ptr p 0], 29, .fix⟩) :: (Lm' ++ (Lj ++ L)))) H3 → Ev (fun K _ => rn K (yOff + b) [.agg #[i64 (j + 2 + (a + t)), str (pieceT s (a + t)), .int .i64 0]] H3) (fun r => r.1 = .bool true ∧ ∃ B' Lj', MoC B1 B' ∧ J (a + t + 1) Lj' ∧ St H0 B0 B' (Ls1 ++ ((x2, ⟨[ptr p 0], 29, .fix⟩) :: (Lm' ++ (Lj' ++ L)))) r.2) := by
    intro H3 hS5
    refine (yl (a + t) htk B1 H3 Lj (Ls1 ++ ((x2, ⟨[ptr p 0], 29, .fix⟩) :: (Lm' ++ L))) hJ (hS5.perm (perm2 Ls1 _ Lm' Lj L).symm)).mono ?_
    rintro r ⟨h1, B', Lj', hm', hJ', hS'⟩
    exact ⟨h1, B', Lj', hm', hJ', hS'.perm (perm2 Ls1 _ Lm' Lj' L)⟩
  by_cases hlast : a + t + 1 < k
  · have hnx : nextB j k (a + t) = j + 2 + (a + (t + 1)) := by unfold nextB; rw [if_pos hlast]; omega
    rw [hnx]
    repeat (first | (first|refine zA ?_|refine zB fun _ _ _=>?_|refine zC fun _ _ _=>?_|refine zD fun _ _=>?_|refine zE ?_|refine zF ?_) | rw [decide_eq_true (by omega)] | rw [decide_eq_false (by omega)])
    refine Ev.b2 (Contains_spec ((j + 2 + (a + (t + 1)) : Nat) : Int) hF' (by rw [pagesL_len]; omega) hS4 fun x hx => List.mem_append_right _ (.tail _ (List.mem_append_left _ hx))) ?_
    rintro v H4 h
    cases h
    rw [decide_eq_false (fun h => by have := (pagesL_mem.1 h).2; omega)]
    repeat (first|refine zA ?_|refine zB fun _ _ _=>?_|refine zC fun _ _ _=>?_|refine zD fun _ _=>?_|refine zE ?_|refine zF ?_)
    refine Ev.prim (slc_str (l := bpage s j k (a + t)) 2 rfl (by omega)) ?_
    rw [gd]
    repeat (first|refine zA ?_|refine zB fun _ _ _=>?_|refine zC fun _ _ _=>?_|refine zD fun _ _=>?_|refine zE ?_|refine zF ?_)
    refine Ev.b2 (round _ hS4) ?_
    rintro _ H5 ⟨rfl, B5, Lj5, hm5, hJ5, hS5⟩
    dsimp only at hS5
    repeat (first | (first|refine zA ?_|refine zB fun _ _ _=>?_|refine zC fun _ _ _=>?_|refine zD fun _ _=>?_|refine zE ?_|refine zF ?_) | rw [decide_eq_true (by omega)] | rw [decide_eq_false (by omega)])
    exact next hlast B5 H5 Ls1 Lm' Lj5 mv' ⟨hm1.mo.trans hm5.mo⟩ hP1 hF' hJ5 hS5
  · have hnx : nextB j k (a + t) = 0 := by unfold nextB; rw [if_neg hlast]
    rw [hnx]
    repeat (first | (first|refine zA ?_|refine zB fun _ _ _=>?_|refine zC fun _ _ _=>?_|refine zD fun _ _=>?_|refine zE ?_|refine zF ?_) | rw [decide_eq_true (by omega)] | rw [decide_eq_false (by omega)])
    refine Ev.prim (slc_str (l := bpage s j k (a + t)) 2 rfl (by omega)) ?_
    rw [gd]
    repeat (first|refine zA ?_|refine zB fun _ _ _=>?_|refine zC fun _ _ _=>?_|refine zD fun _ _=>?_|refine zE ?_|refine zF ?_)
    refine Ev.b2 (round _ hS4) ?_
    rintro _ H5 ⟨rfl, B5, Lj5, hm5, hJ5, hS5⟩
    dsimp only at hS5
    repeat (first | (first|refine zA ?_|refine zB fun _ _ _=>?_|refine zC fun _ _ _=>?_|refine zD fun _ _=>?_|refine zE ?_|refine zF ?_) | rw [decide_eq_true (by omega)] | rw [decide_eq_false (by omega)])
    rw [show a + t + 1 = k by omega] at hJ5
    refine Ev.ret ⟨B5, Ls1, Lj5, H5, rfl, ⟨hm1.mo.trans hm5.mo⟩, hP1, hJ5, ?_⟩
    exact hS5.drop (List.Sublist.append_left (.cons _ (List.sublist_append_right _ _)) _)
theorem parts_loop {p dv x2 b m j k a : Nat} {D : Dsk} {s : List UInt8} {G : Pgr} {J : Nat → List (Nat × Blk) → Prop} (hU : D.Up (2 * m)) (hm2 : m ≤ 512) (hc : D.cache.length < 1000000) (hd : G.down = false) (hH : D.Has s j k) (hjm : j + 2 + k ≤ m)
    (yl : ∀ i, i < k → ∀ (B H : AH) (Lj Lx : List (Nat × Blk)), J i Lj → St H0 B0 B (Lj ++ Lx) H → Ev (fun K _ => rn K (yOff + b) [.agg #[i64 (j + 2 + i), str (pieceT s i), .int .i64 0]] H) (fun r => r.1 = .bool true ∧ ∃ B' Lj', MoC B B' ∧ J (i + 1) Lj' ∧ St H0 B0 B' (Lj' ++ Lx) r.2)) :
    ∀ (q t : Nat) (B H : AH) (Ls Lm Lj : List (Nat × Blk)) (mv : Value), a + t + q + 1 = k → PK (ptr p 0) (ptr dv 0) G D Ls → FR mv (pagesL (j + a) t) Lm → J (a + t) Lj → St H0 B0 B (Ls ++ ((x2, ⟨[ptr p 0], 29, .fix⟩) :: (Lm ++ (Lj ++ L)))) H →
    Ev (fun K K2 => f66_L0 K (.func (.yield b) #[] #[]) (ptr x2 0) mv (i64 (j + 2 + (a + t))) K2 H) (fun o => ∃ B' Ls' Lj' H', o = (.ret, f66_X_L0, H') ∧ MoC B B' ∧ PK (ptr p 0) (ptr dv 0) G D Ls' ∧ J k Lj' ∧ St H0 B0 B' (Ls' ++ (Lj' ++ L)) H') := by
  intro q
  have hdn : D.n / 2 = m := by have := hU.n; omega
  induction q with
  | zero =>
    intro t B H Ls Lm Lj mv hq hP hF hJ hS
    exact parts_one hU hm2 hc hd hH hjm yl (by omega) hP hF hJ hS (fun h => by omega)
  | succ q ih =>
    intro t B H Ls Lm Lj mv hq hP hF hJ hS
    refine parts_one hU hm2 hc hd hH hjm yl (by omega) hP hF hJ hS (fun h B1 H1 Ls1 Lm1 Lj1 mv1 hm1 hP1 hF1 hJ1 hS1 => ?_)
    refine (ih (t + 1) B1 H1 Ls1 Lm1 Lj1 mv1 (by omega) hP1 hF1 hJ1 hS1).mono ?_
    rintro o ⟨B', Ls', Lj', H', rfl, hm', h1, h2, h3⟩
    exact ⟨B', Ls', Lj', H', rfl, ⟨hm1.mo.trans hm'.mo⟩, h1, h2, h3⟩
end
end Go.AM.F
namespace Go.AM.F
open Go Go.AM Go.Proofs
attribute [local irreducible] run bin un ld st box newV mkS fldA fld ixA ix slc slc3 build buildS cv cvS ap cpy lenV gOp pickV b2 aIf aChk evalK resume iterD Option.bind

section
variable {B B0 H0 H : AH} {L : List (Nat × Blk)}
abbrev pgT (b4 b5 b6 : Nat) : List Value := f17_T_R0 (ptr b4 0) (ptr b5 0) (ptr b6 0)
def JP (b b4 b5 b6 j a i : Nat) (Lj : List (Nat × Blk)) : Prop := ∃ ov Lo, a ≤ i ∧ FR ov (pagesL (j + a) (i - a)) Lo ∧ Lj = (b, ⟨.int .i64 (0 : Nat) :: pgT b4 b5 b6, 4, .loop 17 4⟩) :: (b6, ⟨[ov], 51, .fix⟩) :: Lo
theorem pages_round {b b4 b5 b6 j a i : Nat} {s : List UInt8} (hi : i < 100000) {B H : AH} {Lj Lx : List (Nat × Blk)} (hJ : JP b b4 b5 b6 j a i Lj) (hS : St H0 B0 B (Lj ++ Lx) H) :
    Ev (fun K _ => rn K (yOff + b) [.agg #[i64 (j + 2 + i), str s, .int .i64 0]] H) (fun r => r.1 = .bool true ∧ ∃ B' Lj', MoC B B' ∧ JP b b4 b5 b6 j a (i + 1) Lj' ∧ St H0 B0 B' (Lj' ++ Lx) r.2) := by
  obtain ⟨ov, Lo, hai, hF, rfl⟩ := hJ
  have hcell := hF.cell
  simp only [List.cons_append] at hS
  refine Ev.fn (fun K => f17_Y0_eq K _ _ _ _ b H (hS.get (.head _))) ?_
  repeat (first|refine zA ?_|refine zB fun _ _ _=>?_|refine zC fun _ _ _=>?_|refine zD fun _ _=>?_|refine zE ?_|refine zF ?_)
  rename_i bp H1 hS1 H2 hS2
  clear hS hS1
  refine Ev.setSt (c := 0) (d := 1) hS2 (.tail _ (.head _)) (.tail _ (.head _)) fun H3 hS3 => ?_
  clear hS2
  repeat (first|refine zA ?_|refine zB fun _ _ _=>?_|refine zC fun _ _ _=>?_|refine zD fun _ _=>?_|refine zE ?_|refine zF ?_)
  have hS4 : St H0 B0 B (Lo ++ ((bp, _) :: (b, _) :: (b6, _) :: Lx)) H3 := hS3.perm (permA [_, _, _] Lo Lx)
  refine FRS.push (x := ((j + 2 + i : Nat) : Int)) eltI hF hS4 (by rw [pagesL_len]; omega) fun ov' Lo' H4 hF' hS5 => ?_
  have hcell' := hF'.cell
  have hS6 : St H0 B0 B ((bp, _) :: (b, _) :: (b6, _) :: (Lo' ++ Lx)) H4 := hS5.perm (permA Lo' [_, _, _] Lx)
  clear hS3 hS4 hS5
  repeat (first|refine zA ?_|refine zB fun _ _ _=>?_|refine zC fun _ _ _=>?_|refine zD fun _ _=>?_|refine zE ?_|refine zF ?_)
  rename_i H7 hS7
  refine Ev.setSt (c := 1) (d := 0) hS7 (.tail _ (.head _)) (.tail _ (.head _)) fun H8 hS8 => ?_
  refine Ev.ret ⟨rfl, B, _, ⟨Mo.refl B⟩, ⟨ov', Lo', by omega, ?_, rfl⟩, hS8.drop1⟩
  have e : pagesL (j + a) (i - a) ++ [((j + 2 + i : Nat) : Int)] = pagesL (j + a) (i + 1 - a) := by rw [show i + 1 - a = (i - a) + 1 by omega, pagesL_succ, show j + a + 2 + (i - a) = j + 2 + i by omega]
  rw [e] at hF'
  exact hF'
theorem bPages_spec {p dv m j k a : Nat} {D : Dsk} {s : List UInt8} {G : Pgr} {Ls : List (Nat × Blk)} (hU : D.Up (2 * m)) (hm2 : m ≤ 512) (hc : D.cache.length < 1000000) (hd : G.down = false) (hH : D.Has s j k) (hjm : j + 2 + k ≤ m) (ha : a < k) (hP : PK (ptr p 0) (ptr dv 0) G D Ls) (hS : St H0 B0 B (Ls ++ L) H) :
    Ev (fun K _ => rn K 17 [ptr p 0, i64 (j + 2 + a)] H) (fun r => ∃ v B' Ls', r.1 = .tuple #[v, .int .i64 0] ∧ MoC B B' ∧ ScN B' v (k - a) 1 (intV (pagesL (j + a) (k - a))) ∧ PK (ptr p 0) (ptr dv 0) G D Ls' ∧ St H0 B0 B' (Ls' ++ L) r.2) := by
  refine Ev.fn (fun K => f17_eq K _ _ H) ?_
  repeat (first|refine zA ?_|refine zB fun _ _ _=>?_|refine zC fun _ _ _=>?_|refine zD fun _ _=>?_|refine zE ?_|refine zF ?_)
  rename_i b4 H1 hS1 b5 H2 hS2 b6 H3 hS3
  clear hS hS1 hS2
  refine Ev.b2 (Q1 := fun r => ∃ x1 x2, r.1 = .func (.func 66) #[] #[ptr x1 0, ptr x2 0] ∧ St H0 B0 B ((x1, ⟨[i64 (j + 2 + a)], 3, .fix⟩) :: (x2, ⟨[ptr p 0], 29, .fix⟩) :: (b6, ⟨[.slice none 0 0], 51, .fix⟩) :: (b5, ⟨[.int .i64 0], 37, .fix⟩) :: (b4, ⟨[.slice none 0 0], 51, .fix⟩) :: (Ls ++ L)) r.2)
    (Ev.fn (fun K => f48_eq K _ _ H3) ?_) ?_
  · repeat (first|refine zA ?_|refine zB fun _ _ _=>?_|refine zC fun _ _ _=>?_|refine zD fun _ _=>?_|refine zE ?_|refine zF ?_)
    rename_i x2 H4 hS4 x1 H5 hS5
    exact Ev.ret ⟨x1, x2, rfl, hS5⟩
  rintro _ H4 ⟨x1, x2, rfl, hS4⟩
  clear hS3
  dsimp only at hS4
  simp only [callV_fn (show 66 < yOff by unfold yOff; omega), List.nil_append, List.cons_append]
  have hS5 := hS4.mkB' (.int .i64 (0 : Nat) :: pgT b4 b5 b6) 4 (.loop 17 4)
  clear hS4
  generalize hbb : H4.length = b at hS5 ⊢
  generalize hHH : mkB H4 (.int .i64 (0 : Nat) :: pgT b4 b5 b6) 4 (.loop 17 4) = H5 at hS5 ⊢
  have e5 : mkB H4 (.int .i64 0 :: f17_T_R0 (ptr b4 0) (ptr b5 0) (ptr b6 0)) 4 (.loop 17 4) = H5 := hHH
  try rw [e5]
  refine Ev.b2 (Q1 := fun r => ∃ B' Ls' Lj', MoC B B' ∧ PK (ptr p 0) (ptr dv 0) G D Ls' ∧ JP b b4 b5 b6 j a k Lj' ∧ St H0 B0 B' (Ls' ++ (Lj' ++ ((b5, ⟨[.int .i64 0], 37, .fix⟩) :: (b4, ⟨[.slice none 0 0], 51, .fix⟩) :: L))) r.2)
    (Ev.fn (fun K => f66_eq K _ _ _ H5) ?_) ?_
  · repeat (first|refine zA ?_|refine zB fun _ _ _=>?_|refine zC fun _ _ _=>?_|refine zD fun _ _=>?_|refine zE ?_|refine zF ?_)
    have hS6 : St H0 B0 B (Ls ++ ((x2, ⟨[ptr p 0], 29, .fix⟩) :: ([] ++ (([(b, ⟨.int .i64 (0 : Nat) :: pgT b4 b5 b6, 4, .loop 17 4⟩), (b6, ⟨[.slice none 0 0], 51, .fix⟩)] ++ ((b5, ⟨[.int .i64 0], 37, .fix⟩) :: (b4, ⟨[.slice none 0 0], 51, .fix⟩) :: L)))))) H5 := by
      have h6 : St H0 B0 B ((b, ⟨.int .i64 (0 : Nat) :: pgT b4 b5 b6, 4, .loop 17 4⟩) :: (x2, ⟨[ptr p 0], 29, .fix⟩) :: (b6, ⟨[.slice none 0 0], 51, .fix⟩) :: (b5, ⟨[.int .i64 0], 37, .fix⟩) :: (b4, ⟨[.slice none 0 0], 51, .fix⟩) :: (Ls ++ L)) H5 := hS5.drop (.cons_cons _ (.cons _ (List.Sublist.refl _)))
      have h7 : St H0 B0 B ((x2, ⟨[ptr p 0], 29, .fix⟩) :: (b, ⟨.int .i64 (0 : Nat) :: pgT b4 b5 b6, 4, .loop 17 4⟩) :: (b6, ⟨[.slice none 0 0], 51, .fix⟩) :: (b5, ⟨[.int .i64 0], 37, .fix⟩) :: (b4, ⟨[.slice none 0 0], 51, .fix⟩) :: (Ls ++ L)) H5 := h6.perm (List.Perm.swap _ _ _)
      exact h7.perm (permA [_, _, _, _, _] Ls L)
    refine Ev.bind (Ev.loop (parts_loop (J := JP b b4 b5 b6 j a) hU hm2 hc hd hH hjm (fun i hi B H Lj Lx hJ hS => pages_round (by omega) hJ hS) (k - a - 1) 0 B H5 Ls [] _ (.slice none 0 0) (by omega) hP FRS.nil ⟨_, [], by omega, by rw [Nat.add_zero, Nat.sub_self]; exact FRS.nil, rfl⟩ hS6)) ?_
    rintro _ ⟨B', Ls', Lj', H', rfl, hm', hP', hJ', hS'⟩
    refine Ev.eq (fun K _ => f66_A0_ret K H') ?_
    exact Ev.ret ⟨B', Ls', Lj', hm', hP', hJ', hS'⟩
  rintro v H6 ⟨B6, Ls6, Lj6, hm6, hP6, ⟨ov, Lo, hai, hF, rfl⟩, hS6⟩
  dsimp only at hS6
  clear hS5
  have hcell := hF.cell
  have hS7 : St H0 B0 B6 ((b, ⟨.int .i64 (xSt .normal : Nat) :: pgT b4 b5 b6, 4, .loop 17 4⟩) :: (b6, ⟨[ov], 51, .fix⟩) :: (b5, ⟨[.int .i64 0], 37, .fix⟩) :: (b4, ⟨[.slice none 0 0], 51, .fix⟩) :: (Lo ++ (Ls6 ++ L))) H6 := by
    have h7 : St H0 B0 B6 ((b, ⟨.int .i64 (xSt .normal : Nat) :: pgT b4 b5 b6, 4, .loop 17 4⟩) :: (b6, ⟨[ov], 51, .fix⟩) :: (Lo ++ (Ls6 ++ ((b5, ⟨[.int .i64 0], 37, .fix⟩) :: (b4, ⟨[.slice none 0 0], 51, .fix⟩) :: L)))) H6 := hS6.perm (permA Ls6 ((b, _) :: (b6, _) :: Lo) ((b5, _) :: (b4, _) :: L))
    refine h7.perm (List.Perm.cons _ (List.Perm.cons _ ?_))
    have e1 : ((b5, ⟨[.int .i64 0], 37, .fix⟩) :: (b4, ⟨[.slice none 0 0], 51, .fix⟩) :: (Lo ++ (Ls6 ++ L)) : List (Nat × Blk)) = [(b5, ⟨[.int .i64 0], 37, .fix⟩), (b4, ⟨[.slice none 0 0], 51, .fix⟩)] ++ ((Lo ++ Ls6) ++ L) := by simp
    have e2 : (Lo ++ (Ls6 ++ ((b5, ⟨[.int .i64 0], 37, .fix⟩) :: (b4, ⟨[.slice none 0 0], 51, .fix⟩) :: L)) : List (Nat × Blk)) = (Lo ++ Ls6) ++ ([(b5, ⟨[.int .i64 0], 37, .fix⟩), (b4, ⟨[.slice none 0 0], 51, .fix⟩)] ++ L) := by simp
    rw [e1, e2]
    exact permA (Lo ++ Ls6) [_, _] L
  clear hS6
  refine Ev.rgBack (e := .normal) hS7 fun H8 hS8 => ?_
  clear hS7
  refine Ev.eq (fun K _ => f17_B0_normal K _ _ _ H8) ?_
  repeat (first|refine zA ?_|refine zB fun _ _ _=>?_|refine zC fun _ _ _=>?_|refine zD fun _ _=>?_|refine zE ?_|refine zF ?_)
  rename_i H9 hS9 H10 hS10
  have hS11 : St H0 B0 B6 (Lo ++ (Ls6 ++ L)) H10 := hS10.drop1.drop1.drop1
  obtain ⟨B7, hm7, hsc, hS12⟩ : ∃ B7, MoC B6 B7 ∧ ScN B7 ov (k - a) 1 (intV (pagesL (j + a) (k - a))) ∧ St H0 B0 B7 (Ls6 ++ L) H10 := FRS.freeze (l := pagesL (j + a) (k - a)) (by rw [pagesL_len]) hF hS11
  exact Ev.ret ⟨ov, B7, Ls6, rfl, ⟨hm6.mo.trans hm7.mo⟩, hsc, hP6, hS12⟩
end
end Go.AM.F
namespace Go.AM.F
open Go Go.AM Go.Proofs
attribute [local irreducible] run bin un ld st box newV mkS fldA fld ixA ix slc slc3 build buildS cv cvS ap cpy lenV gOp pickV b2 aIf aChk evalK resume iterD Option.bind

section
variable {B B0 H0 H : AH} {L : List (Nat × Blk)}
def BR (v : Value) (x : List UInt8) (Lb : List (Nat × Blk)) : Prop := (x = [] ∧ v = .slice none 0 0 ∧ Lb = []) ∨ (x ≠ [] ∧ ∃ b2, v = sl b2 0 x.length (x.length + 1) ∧ Lb = [(b2, ⟨(x.map UInt8.toNat).map u8, 5, .buf⟩)])
theorem BR.cell {v : Value} {x : List UInt8} {Lb : List (Nat × Blk)} (h : BR v x Lb) : IsCell v := by
  rcases h with ⟨_, rfl, _⟩ | ⟨_, b2, rfl, _⟩ <;> exact inferInstance
theorem BR.acc {v : Value} {x : List UInt8} {Lb : List (Nat × Blk)} (h : BR v x Lb) (hS : St H0 B0 B (Lb ++ L) H) : BAcc 5 H0 B0 B L H v (x.map UInt8.toNat) := by
  rcases h with ⟨rfl, rfl, rfl⟩ | ⟨_, b2, rfl, rfl⟩
  · exact .inl ⟨rfl, rfl, hS⟩
  · exact .inr ⟨b2, by rw [List.length_map], hS⟩
theorem BAcc.br {v : Value} {x : List UInt8} (hx : x ≠ []) (h : BAcc 5 H0 B0 B L H v (x.map UInt8.toNat)) : ∃ Lb, BR v x Lb ∧ St H0 B0 B (Lb ++ L) H := by
  rcases h with ⟨h, _⟩ | ⟨b2, rfl, hS⟩
  · exact (hx (List.map_eq_nil_iff.1 h)).elim
  · exact ⟨_, .inr ⟨hx, b2, by rw [List.length_map], rfl⟩, hS⟩
theorem WriteNil_spec {p : Nat} {c0 : Value} (hc : c0 = .pointer none ∨ c0 = ptr p 0) (hS : St H0 B0 B ((p, ⟨[c0, .slice none 0 0], 92, .fix⟩) :: L) H) :
    Ev (fun k _ => rn k 49 [ptr p 0, str []] H) (fun r => r.1 = .tuple #[i64 0, .nilIface] ∧ St H0 B0 B ((p, ⟨[ptr p 0, .slice none 0 0], 92, .fix⟩) :: L) r.2) := by
  refine Ev.fn (fun k => f49_eq k _ _ H) ?_
  refine Ev.b2 (copy_spec (rest := []) (ds := []) bldT_mem bld_sz hc (BAcc.nil hS)) fun v1 H1 h1 => ?_
  obtain ⟨h1, hA1⟩ := h1
  simp only at h1 hA1
  have hSt := hA1.st
  clear hS
  repeat (first|refine zA ?_|refine zB fun _ _ _=>?_|refine zC fun _ _ _=>?_|refine zD fun _ _=>?_|refine zE ?_|refine zF ?_)
  refine Ev.prim2 (v := .slice none 0 0) (H := H1) (by kernel_rfl) ?_
  repeat (first|refine zA ?_|refine zB fun _ _ _=>?_|refine zC fun _ _ _=>?_|refine zD fun _ _=>?_|refine zE ?_|refine zF ?_)
  refine Ev.ret ⟨rfl, ?_⟩
  assumption
abbrev rdT (b4 b5 b6 : Nat) : List Value := f15_T_R0 (ptr b4 0) (ptr b5 0) (ptr b6 0)
def textA (s : List UInt8) (a i : Nat) : List UInt8 := (s.drop (118 * a)).take (118 * (i - a))
def JR (s : List UInt8) (b b4 b5 b6 a i : Nat) (Lj : List (Nat × Blk)) : Prop := ∃ c0 v Lb, a ≤ i ∧ (c0 = .pointer none ∨ c0 = ptr b6 0) ∧ BR v (textA s a i) Lb ∧ Lj = (b, ⟨.int .i64 (0 : Nat) :: rdT b4 b5 b6, 4, .loop 15 4⟩) :: (b6, ⟨[c0, v], 92, .fix⟩) :: Lb
theorem textA_len (s : List UInt8) (a i : Nat) : (textA s a i).length ≤ s.length := by
  unfold textA
  rw [List.length_take, List.length_drop]; omega
theorem read_round {b b4 b5 b6 j a i : Nat} {s : List UInt8} (hs : s.length ≤ 60000) {B H : AH} {Lj Lx : List (Nat × Blk)} (hJ : JR s b b4 b5 b6 a i Lj) (hS : St H0 B0 B (Lj ++ Lx) H) :
    Ev (fun K _ => rn K (yOff + b) [.agg #[i64 (j + 2 + i), str (pieceT s i), .int .i64 0]] H) (fun r => r.1 = .bool true ∧ ∃ B' Lj', MoC B B' ∧ JR s b b4 b5 b6 a (i + 1) Lj' ∧ St H0 B0 B' (Lj' ++ Lx) r.2) := by
  obtain ⟨c0, v, Lb, hai, hc0, hR, rfl⟩ := hJ
  have hcell := hR.cell
  have hc0c : IsCell c0 := by rcases hc0 with rfl | rfl <;> exact inferInstance
  simp only [List.cons_append] at hS
  refine Ev.fn (fun K => f15_Y0_eq K _ _ _ _ b H (hS.get (.head _))) ?_
  repeat (first|refine zA ?_|refine zB fun _ _ _=>?_|refine zC fun _ _ _=>?_|refine zD fun _ _=>?_|refine zE ?_|refine zF ?_)
  rename_i bp H1 hS1 H2 hS2
  clear hS hS1
  refine Ev.setSt (c := 0) (d := 1) hS2 (.tail _ (.head _)) (.tail _ (.head _)) fun H3 hS3 => ?_
  clear hS2
  repeat (first|refine zA ?_|refine zB fun _ _ _=>?_|refine zC fun _ _ _=>?_|refine zD fun _ _=>?_|refine zE ?_|refine zF ?_)
  have hjoin : textA s a i ++ pieceT s i = textA s a (i + 1) := by
    unfold textA
    have := piece_join s a (i - a)
    rw [show a + (i - a) = i by omega] at this
    rw [this, show i + 1 - a = i - a + 1 by omega]
  have hl1 := textA_len s a i
  have hl2 : (pieceT s i).length ≤ 118 := by unfold pieceT; rw [List.length_take]; omega
  by_cases he : textA s a (i + 1) = []
  · have hx : textA s a i = [] := (List.append_eq_nil_iff.1 (hjoin.trans he)).1
    have hp : pieceT s i = [] := (List.append_eq_nil_iff.1 (hjoin.trans he)).2
    rcases hR with ⟨_, rfl, rfl⟩ | ⟨h, _⟩
    case inr => exact (h hx).elim
    rw [hp]
    have hS4 : St H0 B0 B ((b6, ⟨[c0, .slice none 0 0], 92, .fix⟩) :: (bp, _) :: (b, _) :: Lx) H3 := hS3.perm (by
      refine List.Perm.symm ?_
      exact (List.Perm.cons _ (List.Perm.swap _ _ _)).trans (List.Perm.swap _ _ _))
    refine Ev.b2 (WriteNil_spec hc0 hS4) ?_
    rintro _ H5 ⟨rfl, hS5⟩
    dsimp only at hS5
    refine Ev.setSt (c := 1) (d := 0) hS5 (.tail _ (.tail _ (.head _))) (.tail _ (.tail _ (.head _))) fun H8 hS8 => ?_
    refine Ev.ret ⟨rfl, B, _, ⟨Mo.refl B⟩, ⟨ptr b6 0, .slice none 0 0, [], by omega, .inr rfl, .inl ⟨he, rfl, rfl⟩, rfl⟩, ?_⟩
    have h9 := hS8.perm (List.Perm.swap _ _ _)
    exact h9.drop1.perm (List.Perm.swap _ _ _)
  · have hS4 := hS3.perm (perm3 _ _ _ Lb Lx)
    have hA := hR.acc hS4
    refine Ev.b2 (WriteString_spec (l := pieceT s i) (rest := []) bldT_mem bld_sz hc0 (by rw [List.length_map]; omega) hA) ?_
    rintro v5 H5 ⟨_, v', B5, hm5, hA5⟩
    dsimp only at hA5
    rw [← List.map_append, hjoin] at hA5
    obtain ⟨Lb', hR', hS5⟩ := BAcc.br he hA5
    have hS6 := St.perm hS5 (permB4 _ _ _ Lb' Lx)
    refine Ev.setSt (c := 1) (d := 0) hS6 (.head _) (.head _) fun H8 hS8 => ?_
    refine Ev.ret ⟨rfl, B5, _, hm5, ⟨ptr b6 0, v', Lb', by omega, .inr rfl, hR', rfl⟩, ?_⟩
    exact hS8.drop (.cons_cons _ (.cons_cons _ (.cons _ (List.Sublist.refl _))))
theorem bRead_spec {p dv m j k a : Nat} {D : Dsk} {s : List UInt8} {G : Pgr} {Ls : List (Nat × Blk)} (hU : D.Up (2 * m)) (hm2 : m ≤ 512) (hc : D.cache.length < 1000000) (hd : G.down = false) (hH : D.Has s j k) (hjm : j + 2 + k ≤ m) (ha : a < k) (hs : s.length ≤ 60000) (hsk : s.length ≤ 118 * k) (hP : PK (ptr p 0) (ptr dv 0) G D Ls) (hS : St H0 B0 B (Ls ++ L) H) :
    Ev (fun K _ => rn K 15 [ptr p 0, i64 (j + 2 + a)] H) (fun r => ∃ B' Ls', r.1 = .tuple #[str (s.drop (118 * a)), .int .i64 0] ∧ MoC B B' ∧ PK (ptr p 0) (ptr dv 0) G D Ls' ∧ St H0 B0 B' (Ls' ++ L) r.2) := by
  refine Ev.fn (fun K => f15_eq K _ _ H) ?_
  repeat (first|refine zA ?_|refine zB fun _ _ _=>?_|refine zC fun _ _ _=>?_|refine zD fun _ _=>?_|refine zE ?_|refine zF ?_)
  rename_i b4 H1 hS1 b5 H2 hS2 b6 H3 hS3
  clear hS hS1 hS2
  refine Ev.b2 (Q1 := fun r => ∃ x1 x2, r.1 = .func (.func 66) #[] #[ptr x1 0, ptr x2 0] ∧ St H0 B0 B ((x1, ⟨[i64 (j + 2 + a)], 3, .fix⟩) :: (x2, ⟨[ptr p 0], 29, .fix⟩) :: (b6, ⟨[.pointer none, .slice none 0 0], 92, .fix⟩) :: (b5, ⟨[.int .i64 0], 37, .fix⟩) :: (b4, ⟨[.string ByteArray.empty], 9, .fix⟩) :: (Ls ++ L)) r.2)
    (Ev.fn (fun K => f48_eq K _ _ H3) ?_) ?_
  · repeat (first|refine zA ?_|refine zB fun _ _ _=>?_|refine zC fun _ _ _=>?_|refine zD fun _ _=>?_|refine zE ?_|refine zF ?_)
    rename_i x2 H4 hS4 x1 H5 hS5
    exact Ev.ret ⟨x1, x2, rfl, hS5⟩
  rintro _ H4 ⟨x1, x2, rfl, hS4⟩
  clear hS3
  dsimp only at hS4
  simp only [callV_fn (show 66 < yOff by unfold yOff; omega), List.nil_append, List.cons_append]
  have hS5 := hS4.mkB' (.int .i64 (0 : Nat) :: rdT b4 b5 b6) 4 (.loop 15 4)
  clear hS4
  generalize hbb : H4.length = b at hS5 ⊢
  generalize hHH : mkB H4 (.int .i64 (0 : Nat) :: rdT b4 b5 b6) 4 (.loop 15 4) = H5 at hS5 ⊢
  have e5 : mkB H4 (.int .i64 0 :: f15_T_R0 (ptr b4 0) (ptr b5 0) (ptr b6 0)) 4 (.loop 15 4) = H5 := hHH
  try rw [e5]
  refine Ev.b2 (Q1 := fun r => ∃ B' Ls' Lj', MoC B B' ∧ PK (ptr p 0) (ptr dv 0) G D Ls' ∧ JR s b b4 b5 b6 a k Lj' ∧ St H0 B0 B' (Ls' ++ (Lj' ++ ((b5, ⟨[.int .i64 0], 37, .fix⟩) :: (b4, ⟨[.string ByteArray.empty], 9, .fix⟩) :: L))) r.2)
    (Ev.fn (fun K => f66_eq K _ _ _ H5) ?_) ?_
  · repeat (first|refine zA ?_|refine zB fun _ _ _=>?_|refine zC fun _ _ _=>?_|refine zD fun _ _=>?_|refine zE ?_|refine zF ?_)
    have hS6 : St H0 B0 B (Ls ++ ((x2, ⟨[ptr p 0], 29, .fix⟩) :: ([] ++ (([(b, ⟨.int .i64 (0 : Nat) :: rdT b4 b5 b6, 4, .loop 15 4⟩), (b6, ⟨[.pointer none, .slice none 0 0], 92, .fix⟩)] ++ ((b5, ⟨[.int .i64 0], 37, .fix⟩) :: (b4, ⟨[.string ByteArray.empty], 9, .fix⟩) :: L)))))) H5 := by
      have h6 : St H0 B0 B ((b, ⟨.int .i64 (0 : Nat) :: rdT b4 b5 b6, 4, .loop 15 4⟩) :: (x2, ⟨[ptr p 0], 29, .fix⟩) :: (b6, ⟨[.pointer none, .slice none 0 0], 92, .fix⟩) :: (b5, ⟨[.int .i64 0], 37, .fix⟩) :: (b4, ⟨[.string ByteArray.empty], 9, .fix⟩) :: (Ls ++ L)) H5 := hS5.drop (.cons_cons _ (.cons _ (List.Sublist.refl _)))
      have h7 : St H0 B0 B ((x2, ⟨[ptr p 0], 29, .fix⟩) :: (b, ⟨.int .i64 (0 : Nat) :: rdT b4 b5 b6, 4, .loop 15 4⟩) :: (b6, ⟨[.pointer none, .slice none 0 0], 92, .fix⟩) :: (b5, ⟨[.int .i64 0], 37, .fix⟩) :: (b4, ⟨[.string ByteArray.empty], 9, .fix⟩) :: (Ls ++ L)) H5 := h6.perm (List.Perm.swap _ _ _)
      exact h7.perm (permA [_, _, _, _, _] Ls L)
    have h0 : textA s a a = [] := by unfold textA; simp
    refine Ev.bind (Ev.loop (parts_loop (J := JR s b b4 b5 b6 a) hU hm2 hc hd hH hjm (fun i hi B H Lj Lx hJ hS => read_round hs hJ hS) (k - a - 1) 0 B H5 Ls [] _ (.slice none 0 0) (by omega) hP FRS.nil ⟨.pointer none, .slice none 0 0, [], by omega, .inl rfl, .inl ⟨h0, rfl, rfl⟩, rfl⟩ hS6)) ?_
    rintro _ ⟨B', Ls', Lj', H', rfl, hm', hP', hJ', hS'⟩
    refine Ev.eq (fun K _ => f66_A0_ret K H') ?_
    exact Ev.ret ⟨B', Ls', Lj', hm', hP', hJ', hS'⟩
  rintro v H6 ⟨B6, Ls6, Lj6, hm6, hP6, ⟨c0, ov, Lb, hai, hc0, hR, rfl⟩, hS6⟩
  dsimp only at hS6
  clear hS5
  have htx : textA s a k = s.drop (118 * a) := by
    unfold textA
    rw [List.take_of_length_le (by rw [List.length_drop]; omega)]
  rw [htx] at hR
  have hcell := hR.cell
  have hc0c : IsCell c0 := by rcases hc0 with rfl | rfl <;> exact inferInstance
  have hS7 : St H0 B0 B6 ((b, ⟨.int .i64 (xSt .normal : Nat) :: rdT b4 b5 b6, 4, .loop 15 4⟩) :: (b6, ⟨[c0, ov], 92, .fix⟩) :: (b5, ⟨[.int .i64 0], 37, .fix⟩) :: (b4, ⟨[.string ByteArray.empty], 9, .fix⟩) :: (Lb ++ (Ls6 ++ L))) H6 := by
    have h7 : St H0 B0 B6 ((b, ⟨.int .i64 (xSt .normal : Nat) :: rdT b4 b5 b6, 4, .loop 15 4⟩) :: (b6, ⟨[c0, ov], 92, .fix⟩) :: (Lb ++ (Ls6 ++ ((b5, ⟨[.int .i64 0], 37, .fix⟩) :: (b4, ⟨[.string ByteArray.empty], 9, .fix⟩) :: L)))) H6 := hS6.perm (permA Ls6 ((b, _) :: (b6, _) :: Lb) ((b5, _) :: (b4, _) :: L))
    refine h7.perm (List.Perm.cons _ (List.Perm.cons _ ?_))
    have e1 : ((b5, ⟨[.int .i64 0], 37, .fix⟩) :: (b4, ⟨[.string ByteArray.empty], 9, .fix⟩) :: (Lb ++ (Ls6 ++ L)) : List (Nat × Blk)) = [(b5, ⟨[.int .i64 0], 37, .fix⟩), (b4, ⟨[.string ByteArray.empty], 9, .fix⟩)] ++ ((Lb ++ Ls6) ++ L) := by simp
    have e2 : (Lb ++ (Ls6 ++ ((b5, ⟨[.int .i64 0], 37, .fix⟩) :: (b4, ⟨[.string ByteArray.empty], 9, .fix⟩) :: L)) : List (Nat × Blk)) = (Lb ++ Ls6) ++ ([(b5, ⟨[.int .i64 0], 37, .fix⟩), (b4, ⟨[.string ByteArray.empty], 9, .fix⟩)] ++ L) := by simp
    rw [e1, e2]
    exact permA (Lb ++ Ls6) [_, _] L
  clear hS6
  refine Ev.rgBack (e := .normal) hS7 fun H8 hS8 => ?_
  clear hS7
  refine Ev.eq (fun K _ => f15_B0_normal K _ _ _ H8) ?_
  refine Ev.b2 (Q1 := fun r => r.1 = str (s.drop (118 * a)) ∧ St H0 B0 B6 ((b6, ⟨[c0, ov], 92, .fix⟩) :: (b5, ⟨[.int .i64 0], 37, .fix⟩) :: (b4, ⟨[.string ByteArray.empty], 9, .fix⟩) :: (Ls6 ++ L)) r.2) ?_ ?_
  · rcases hR with ⟨h0, rfl, rfl⟩ | ⟨h0, b2, rfl, rfl⟩
    · rw [h0]
      refine Ev.fn (fun k => f50_eq k _ H8) ?_
      repeat (first|refine zA ?_|refine zB fun _ _ _=>?_|refine zC fun _ _ _=>?_|refine zD fun _ _=>?_|refine zE ?_|refine zF ?_)
      refine Ev.prim (show sdV (.slice none 0 0) = some (.pointer none) from rfl) ?_
      repeat (first|refine zA ?_|refine zB fun _ _ _=>?_|refine zC fun _ _ _=>?_|refine zD fun _ _=>?_|refine zE ?_|refine zF ?_)
      refine Ev.prim2 (v := str []) (H := H8) (by kernel_rfl) ?_
      exact Ev.ret ⟨rfl, hS8⟩
    · have hS9 : St H0 B0 B6 ((b2, ⟨((s.drop (118 * a)).map UInt8.toNat).map u8, 5, .buf⟩) :: (b6, ⟨[c0, sl b2 0 (s.drop (118 * a)).length ((s.drop (118 * a)).length + 1)], 92, .fix⟩) :: (b5, ⟨[.int .i64 0], 37, .fix⟩) :: (b4, ⟨[.string ByteArray.empty], 9, .fix⟩) :: (Ls6 ++ L)) H8 := hS8.perm (permA [_, _, _] [_] (Ls6 ++ L))
      have hA : BAcc 5 H0 B0 B6 ((b6, ⟨[c0, sl b2 0 (s.drop (118 * a)).length ((s.drop (118 * a)).length + 1)], 92, .fix⟩) :: (b5, ⟨[.int .i64 0], 37, .fix⟩) :: (b4, ⟨[.string ByteArray.empty], 9, .fix⟩) :: (Ls6 ++ L)) H8 (sl b2 0 (s.drop (118 * a)).length ((s.drop (118 * a)).length + 1)) ((s.drop (118 * a)).map UInt8.toNat) := .inr ⟨b2, by rw [List.length_map], hS9⟩
      refine (String_spec (rest := []) (by rw [List.length_map, List.length_drop]; omega) (by simpa using h0) hA).mono ?_
      rintro r ⟨h1, h2⟩
      refine ⟨?_, h2⟩
      rw [h1, List.map_map]
      congr 2
      exact List.map_id'' (fun x => by simp) _
  rintro _ H9 ⟨rfl, hS9⟩
  dsimp only at hS9
  clear hS8
  repeat (first|refine zA ?_|refine zB fun _ _ _=>?_|refine zC fun _ _ _=>?_|refine zD fun _ _=>?_|refine zE ?_|refine zF ?_)
  rename_i H10 hS10 H11 hS11
  exact Ev.ret ⟨B6, Ls6, rfl, hm6, hP6, hS11.drop1.drop1.drop1⟩
end
end Go.AM.F
namespace Go.AM.F
open Go Go.AM Go.Proofs
attribute [local irreducible] run bin un ld st box newV mkS fldA fld ixA ix slc slc3 build buildS cv cvS ap cpy lenV gOp pickV b2 aIf aChk evalK resume iterD Option.bind

section
variable {B B0 H0 H : AH} {L : List (Nat × Blk)}
theorem PK.ptr {p dv : Value} {G : Pgr} {D : Dsk} {Ls : List (Nat × Blk)} (h : PK p dv G D Ls) : ∃ b, p = ptr b 0 := by obtain ⟨pb, mb, fv, Lf, Ld, hp, _⟩ := h; exact ⟨pb, hp⟩
theorem Format_up {dv : Value} {D : Dsk} {Ls : List (Nat × Blk)} {m : Nat} (hD : DK dv D Ls) (hU : D.Up (2 * m)) (hm : 4 ≤ m) (hm2 : m ≤ 512) (hc : D.cache.length < 100000) (hS : St H0 B0 B (Ls ++ L) H) :
    Ev (fun k _ => rn k 23 [dv] H) (fun r => ∃ b D', PgP H0 B0 B L (ptr b 0) dv (.tuple #[ptr b 0, .int .i64 0]) ⟨1, 0, [0, 1], [], false⟩ D' r ∧ D'.Up (2 * m) ∧ D'.cache = [] ∧ ∀ n, n < m → D'.pg n = if n = 1 then sealL 1 (textH 1 0 [0, 1]) else D.pg n) := by
  obtain ⟨D', e, u, c, pg⟩ := hU.format hm hm2
  refine (Format_spec hD hU.ok (by omega) hS).mono ?_
  rintro r (⟨h, _⟩ | ⟨_, p, hp⟩)
  · rw [e] at h; exact (h rfl).elim
  · rw [e] at hp
    obtain ⟨hv, Ls', B', hm', hP, hS'⟩ := hp
    obtain ⟨b, rfl⟩ := hP.ptr
    exact ⟨b, D', ⟨hv, Ls', B', hm', hP, hS'⟩, u, c, pg⟩
theorem numbers_spec {va vb : Value} {l : List Int} {n : Nat} (hl : l.length = n) (hn : n < 1000000) (ha : ScN H va n 1 (intV l)) (hb : ScN H vb n 1 (intV l)) :
    Ev (fun k _ => rn k 19 [va, vb] H) (fun r => r = (.bool true, H)) := by
  refine Ev.fn (fun k => f19_eq k _ _ H) ?_
  have la := ha.len (Und.eq (P := Tryz.prog) (t := 51))
  have lb := hb.len (Und.eq (P := Tryz.prog) (t := 51))
  refine Ev.prim la ?_
  refine Ev.prim lb ?_
  repeat (first|refine zA ?_|refine zB fun _ _ _=>?_|refine zC fun _ _ _=>?_|refine zD fun _ _=>?_|refine zE ?_|refine zF ?_)
  have key : ∀ (q i : Nat), i + q = n → Ev (fun k K => f19_L0 k va vb (i64 i) K H) (fun o => o = (.exit 0, f19_X_L0 unk, H)) := by
    intro q
    induction q with
    | zero =>
      intro i hi
      refine Ev.succ (fun k K => f19_L0_succ k _ _ _ K H) ?_
      refine Ev.prim la ?_
      repeat (first|refine zA ?_|refine zB fun _ _ _=>?_|refine zC fun _ _ _=>?_|refine zD fun _ _=>?_|refine zE ?_|refine zF ?_)
      rw [decide_eq_false (by omega)]
      repeat (first|refine zA ?_|refine zB fun _ _ _=>?_|refine zC fun _ _ _=>?_|refine zD fun _ _=>?_|refine zE ?_|refine zF ?_)
      exact Ev.ret rfl
    | succ q ih =>
      intro i hi
      refine Ev.succ (fun k K => f19_L0_succ k _ _ _ K H) ?_
      refine Ev.prim la ?_
      repeat (first|refine zA ?_|refine zB fun _ _ _=>?_|refine zC fun _ _ _=>?_|refine zD fun _ _=>?_|refine zE ?_|refine zF ?_)
      rw [decide_eq_true (by omega)]
      repeat (first|refine zA ?_|refine zB fun _ _ _=>?_|refine zC fun _ _ _=>?_|refine zD fun _ _=>?_|refine zE ?_|refine zF ?_)
      have hx : (intV l)[i]? = some (.int .i64 l[i]) := by unfold intV; rw [List.getElem?_map, List.getElem?_eq_getElem (by omega)]; rfl
      refine Ev.ixN (t := 51) ha i rfl (by omega) hx fun p hp => ?_
      refine Ev.prim (hp.eq H (Mo.refl H)) ?_
      refine Ev.ixN (t := 51) hb i rfl (by omega) hx fun p2 hp2 => ?_
      refine Ev.prim (hp2.eq H (Mo.refl H)) ?_
      repeat (first | (first|refine zA ?_|refine zB fun _ _ _=>?_|refine zC fun _ _ _=>?_|refine zD fun _ _=>?_|refine zE ?_|refine zF ?_) | rw [decide_eq_true (by omega)] | rw [decide_eq_false (by omega)])
      exact ih (i + 1) (by omega)
  refine Ev.bind (Ev.loop (key n 0 (by omega))) ?_
  rintro _ rfl
  refine Ev.eq (fun k _ => f19_A0_x0 k _ H) ?_
  exact Ev.ret rfl
theorem Laid.has {s : List UInt8} {j k : Nat} {D D' : Dsk} (h : Laid s j k D D') : D'.Has s j k := fun i hi => by
  rw [h (j + 2 + i), if_pos (by omega), show j + 2 + i - (j + 2) = i by omega]
theorem examples_spec (hS : St H0 B0 B L H) : Ev (fun k _ => rn k 4 [] H) (fun r => r.1 = .bool true ∧ ∃ B', MoC B B' ∧ St H0 B0 B' L r.2) := by
  refine Ev.fn (fun k => f4_eq k H) ?_
  refine Ev.b2 (New_spec (n := 20) (by decide) (by decide) hS) ?_
  rintro _ H1 ⟨p1, Ls1, B1, rfl, hm1, hD1, hS1⟩
  obtain ⟨d1, rfl⟩ := hD1.ptr
  dsimp only at hS1
  clear hS
  repeat (first|refine zA ?_|refine zB fun _ _ _=>?_|refine zC fun _ _ _=>?_|refine zD fun _ _=>?_|refine zE ?_|refine zF ?_)
  refine Ev.b2 (Format_up (m := 10) hD1 (Dsk.up_new (by decide) (by decide)) (by decide) (by decide) (by decide) hS1) ?_
  clear hS1
  rintro _ H2 ⟨b, D2, ⟨rfl, Ls2, B2, hm2, hP2, hS2⟩, u2, c2, pg2⟩
  dsimp only at hS2
  repeat (first|refine zA ?_|refine zB fun _ _ _=>?_|refine zC fun _ _ _=>?_|refine zD fun _ _=>?_|refine zE ?_|refine zF ?_)
  refine Ev.mkS (t := 63) (m := 119) inferInstance hS2 (by omega) (by omega) fun bb B3 H3 hm3 hS3 => ?_
  clear hS2
  refine Ev.prim (cvS_part (d := 9) (bs := List.replicate 119 0) (by rw [byts_rep]; exact hS3) (.head _) (Nat.le_refl _) (by simp)) ?_
  rw [show ((List.replicate 119 (0 : UInt8)).drop 0).take 119 = List.replicate 119 0 from rfl]
  refine Ev.prim (show bin Tryz.prog .add 9 (str (List.replicate 119 0)) (.string ⟨#[120]⟩) = some (str (List.replicate 119 0 ++ [120])) from add_str (a := List.replicate 119 0) (b := [120]) (by simp)) ?_
  have hsl : (List.replicate 119 (0 : UInt8) ++ [120]).length = 120 := rfl
  generalize hs : List.replicate 119 (0 : UInt8) ++ [120] = s at hsl ⊢
  have hneed : need s.length = 2 := by rw [hsl]; rfl
  have hS4 := hS3.drop1
  clear hS3
  refine Ev.b2 (bWrite_spec (j := 0) (s := s) u2 (by decide) (by rw [c2]; decide) (by decide) (by omega) hP2 hS4) ?_
  rw [hneed]
  clear hS4
  rintro _ H4 (⟨h1, B4, Ls4, D4, rfl, hm4, u4, c4, hL4, hP4, hS4⟩ | ⟨h1, _⟩)
  case inr => omega
  dsimp only at hS4
  repeat (first|refine zA ?_|refine zB fun _ _ _=>?_|refine zC fun _ _ _=>?_|refine zD fun _ _=>?_|refine zE ?_|refine zF ?_)
  refine Ev.b2 (bRead_spec (j := 0) (k := 2) (a := 0) (s := s) u4 (by decide) (by rw [c4, c2]; decide) rfl hL4.has (by decide) (by decide) (by omega) (by omega) hP4 hS4) ?_
  clear hS4
  rintro _ H5 ⟨B5, Ls5, rfl, hm5, hP5, hS5⟩
  dsimp only at hS5
  repeat (first|refine zA ?_|refine zB fun _ _ _=>?_|refine zC fun _ _ _=>?_|refine zD fun _ _=>?_|refine zE ?_|refine zF ?_)
  refine Ev.b2 (bPages_spec (j := 0) (k := 2) (a := 0) (s := s) u4 (by decide) (by rw [c4, c2]; decide) rfl hL4.has (by decide) (by decide) hP5 hS5) ?_
  clear hS5
  rintro _ H6 ⟨v6, B6, Ls6, rfl, hm6, hsc6, hP6, hS6⟩
  dsimp only at hS6
  repeat (first|refine zA ?_|refine zB fun _ _ _=>?_|refine zC fun _ _ _=>?_|refine zD fun _ _=>?_|refine zE ?_|refine zF ?_)
  refine Ev.bsC (by decide) fun b7 H7 hS7 => ?_
  have hsc7 : ScN H7 v6 2 1 (intV [2, 3]) := ScN.mono hS7.le hsc6
  have hsc8 : ScN H7 (sl b7 0 2 2) 2 1 (intV [2, 3]) := .inr ⟨b7, 0, 2, rfl, Nat.le_refl _, rfl, .inr ⟨_, hS7.get (.head _), rfl⟩⟩
  refine Ev.b2 (numbers_spec (l := [2, 3]) rfl (by decide) hsc7 hsc8) ?_
  rintro _ _ h
  cases h
  refine Ev.b2 (Need_spec (n := 0) (by decide)) ?_
  rintro _ _ h
  cases h
  rw [show need 0 = 1 from rfl]
  repeat (first | (first|refine zA ?_|refine zB fun _ _ _=>?_|refine zC fun _ _ _=>?_|refine zD fun _ _=>?_|refine zE ?_|refine zF ?_) | rw [decide_eq_true (by omega)] | rw [decide_eq_false (by omega)])
  refine Ev.b2 (Need_spec (n := 119) (by decide)) ?_
  rintro _ _ h
  cases h
  rw [show need 119 = 2 from rfl]
  repeat (first | (first|refine zA ?_|refine zB fun _ _ _=>?_|refine zC fun _ _ _=>?_|refine zD fun _ _=>?_|refine zE ?_|refine zF ?_) | rw [decide_eq_true (by omega)] | rw [decide_eq_false (by omega)])
  rw [show s.drop (118 * 0) = s by simp]
  repeat (first | (first|refine zA ?_|refine zB fun _ _ _=>?_|refine zC fun _ _ _=>?_|refine zD fun _ _=>?_|refine zE ?_|refine zF ?_) | rw [decide_eq_true (by omega)] | rw [decide_eq_false (by omega)])
  rw [show decide (s = s) = true from decide_eq_true rfl]
  repeat (first | (first|refine zA ?_|refine zB fun _ _ _=>?_|refine zC fun _ _ _=>?_|refine zD fun _ _=>?_|refine zE ?_|refine zF ?_) | rw [decide_eq_true (by omega)] | rw [decide_eq_false (by omega)])
  exact Ev.ret ⟨rfl, B6, ⟨hm1.mo.trans (hm2.mo.trans (hm3.trans (hm4.mo.trans (hm5.mo.trans hm6.mo))))⟩, hS7.drop1.drop (List.sublist_append_right _ _)⟩
end
end Go.AM.F
namespace Go.AM.F
open Go Go.AM Go.Proofs
attribute [local irreducible] run bin un ld st box newV mkS fldA fld ixA ix slc slc3 build buildS cv cvS ap cpy lenV gOp pickV b2 aIf aChk evalK resume iterD Option.bind

section
variable {B B0 H0 H : AH} {L : List (Nat × Blk)}
theorem Need2_spec {n : Nat} : Ev (fun k _ => rn k 20 [i64 n] H) (fun r => r = (i64 (need n), H)) := by
  refine Ev.fn (fun k => f20_eq k _ H) ?_
  refine Ev.prim (show fold1 maxV [i64 n, .int .i64 0] = some (i64 n) from by rw [max_int]; congr 2; omega) ?_
  refine Ev.prim (show fold1 minV [i64 n, .int .i64 1048576] = some (i64 (min n 1048576)) from by rw [min_int]; congr 2; omega) ?_
  unfold need
  generalize hz : min n 1048576 = z
  repeat (first|refine zA ?_|refine zB fun _ _ _=>?_|refine zC fun _ _ _=>?_|refine zD fun _ _=>?_|refine zE ?_|refine zF ?_)
  by_cases h0 : z = 0
  · rw [if_pos h0, decide_eq_true h0]
    repeat (first|refine zA ?_|refine zB fun _ _ _=>?_|refine zC fun _ _ _=>?_|refine zD fun _ _=>?_|refine zE ?_|refine zF ?_)
    exact Ev.ret rfl
  · rw [if_neg h0, decide_eq_false h0]
    repeat (first | (first|refine zA ?_|refine zB fun _ _ _=>?_|refine zC fun _ _ _=>?_|refine zD fun _ _=>?_|refine zE ?_|refine zF ?_) | rw [decide_eq_true (by omega)] | rw [decide_eq_false (by omega)])
    exact Ev.ret (by rw [show z + 118 - 1 = z + 117 by omega])
theorem bw_alloc {p dv : Value} {D : Dsk} {m n : Nat} {s1 : Value} (hO : D.OK) (hm : D.n / 2 = m) (hn : n ≤ 10000) : ∀ (q i : Nat) (B H : AH) (G : Pgr) (Ls Lv : List (Nat × Blk)) (l : List Int) (v : Value), i + q = n → G.In m → PK p dv G D Ls → FR v l Lv → l.length = i → St H0 B0 B (Lv ++ (Ls ++ L)) H →
    Ev (fun K K2 => f28_L0 K p s1 v (i64 n) (i64 i) K2 H) (fun o =>
      ((allocN m q G l).2.1 = 0 ∧ ∃ B' H' Ls' Lv' v', o = (.exit 0, f28_X_L0 p s1 unk unk v', H') ∧ MoC B B' ∧ PK p dv (allocN m q G l).2.2 D Ls' ∧ FR v' (allocN m q G l).1 Lv' ∧ St H0 B0 B' (Lv' ++ (Ls' ++ L)) H') ∨
      ((allocN m q G l).2.1 ≠ 0 ∧ ∃ B' H' Ls' w, o = (.ret, f28_X_L0 p s1 (.slice none 0 0) (.int .i64 (allocN m q G l).2.1) w, H') ∧ MoC B B' ∧ PK p dv (allocN m q G l).2.2 D Ls' ∧ St H0 B0 B' (Ls' ++ L) H')) := by
  have hm5 : m ≤ 512 := by have := hO.n2; omega
  intro q
  induction q with
  | zero =>
    intro i B H G Ls Lv l v hi hG hP hF hll hS
    refine Ev.succ (fun K K2 => f28_L0_succ K _ _ _ _ _ K2 H) ?_
    repeat (first | (first|refine zA ?_|refine zB fun _ _ _=>?_|refine zC fun _ _ _=>?_|refine zD fun _ _=>?_|refine zE ?_|refine zF ?_) | rw [decide_eq_true (by omega)] | rw [decide_eq_false (by omega)])
    exact Ev.ret (.inl ⟨rfl, B, H, Ls, Lv, v, rfl, ⟨Mo.refl B⟩, hP, hF, hS⟩)
  | succ q ih =>
    intro i B H G Ls Lv l v hi hG hP hF hll hS
    refine Ev.succ (fun K K2 => f28_L0_succ K _ _ _ _ _ K2 H) ?_
    repeat (first | (first|refine zA ?_|refine zB fun _ _ _=>?_|refine zC fun _ _ _=>?_|refine zD fun _ _=>?_|refine zE ?_|refine zF ?_) | rw [decide_eq_true (by omega)] | rw [decide_eq_false (by omega)])
    have hgl := hG.len
    refine Ev.b2 (Alloc_spec hP hO (by omega) (hS.perm (L' := Ls ++ (Lv ++ L)) (by (refine perm_cnt ?_; intro _ a; simp only [List.count_append, List.count_cons, List.cons_append, List.nil_append, List.append_assoc]; try ac_rfl)))) ?_
    rw [hm]
    have hGa := hG.alloc
    unfold allocN
    generalize G.alloc m = a at hGa
    obtain ⟨a1, a2, G1⟩ := a
    dsimp only at hGa ⊢
    rintro _ H1 ⟨rfl, Ls1, B1, hm1, hP1, hS1⟩
    dsimp only at hS1
    clear hS
    repeat (first|refine zA ?_|refine zB fun _ _ _=>?_|refine zC fun _ _ _=>?_|refine zD fun _ _=>?_|refine zE ?_|refine zF ?_)
    by_cases he : a2 = 0
    case neg =>
      rw [if_pos he, decide_eq_true he]
      repeat (first|refine zA ?_|refine zB fun _ _ _=>?_|refine zC fun _ _ _=>?_|refine zD fun _ _=>?_|refine zE ?_|refine zF ?_)
      exact Ev.ret (.inr ⟨he, B1, H1, Ls1, v, rfl, hm1, hP1, hS1.drop (List.Sublist.append_left (List.sublist_append_right _ _) _)⟩)
    rw [if_neg (by simpa using he), decide_eq_false (by simpa using he)]
    repeat (first|refine zA ?_|refine zB fun _ _ _=>?_|refine zC fun _ _ _=>?_|refine zD fun _ _=>?_|refine zE ?_|refine zF ?_)
    refine FRS.push (x := a1) eltI hF (hS1.perm (L' := Lv ++ (Ls1 ++ L)) (by (refine perm_cnt ?_; intro _ a; simp only [List.count_append, List.count_cons, List.cons_append, List.nil_append, List.append_assoc]; try ac_rfl))) (by omega) fun v' Lv' H2 hF2 hS2 => ?_
    clear hS1
    repeat (first | (first|refine zA ?_|refine zB fun _ _ _=>?_|refine zC fun _ _ _=>?_|refine zD fun _ _=>?_|refine zE ?_|refine zF ?_) | rw [decide_eq_true (by omega)] | rw [decide_eq_false (by omega)])
    refine (ih (i + 1) B1 H2 G1 Ls1 Lv' _ v' (by omega) hGa hP1 hF2 (by rw [List.length_append, List.length_singleton, hll]) hS2).mono ?_
    rintro o (⟨h1, B', H', Ls', Lv2, v2, e, hm', h2⟩ | ⟨h1, B', H', Ls', w, e, hm', h2⟩)
    · exact .inl ⟨h1, B', H', Ls', Lv2, v2, e, ⟨hm1.mo.trans hm'.mo⟩, h2⟩
    · exact .inr ⟨h1, B', H', Ls', w, e, ⟨hm1.mo.trans hm'.mo⟩, h2⟩
theorem bw_lay {p dv : Value} {m : Nat} {v : Value} {s : List UInt8} {l : List Int} {Lv : List (Nat × Blk)} (hm5 : m ≤ 512) (hs : s.length ≤ 60000) (hl : ∀ x ∈ l, 0 ≤ x ∧ x < m) (hln : l.length = need s.length) (hF : FR v l Lv) : ∀ (q i : Nat) (B H : AH) (G : Pgr) (D : Dsk) (Ls : List (Nat × Blk)), i + q = l.length → G.In m → D.OK → D.n / 2 = m → D.cache.length + 2 * q < 100000000 → PK p dv G D Ls → St H0 B0 B (Lv ++ (Ls ++ L)) H →
    Ev (fun K K2 => f28_L1 K p (str (s.drop (118 * i))) v v (i64 l.length) (i64 i) K2 H) (fun o =>
      ((layN s l q i G D).1 = 0 ∧ ∃ B' H' Ls', o = (.exit 2, f28_X_L1 unk unk v, H') ∧ MoC B B' ∧ PK p dv (layN s l q i G D).2.1 (layN s l q i G D).2.2 Ls' ∧ St H0 B0 B' (Lv ++ (Ls' ++ L)) H') ∨
      ((layN s l q i G D).1 ≠ 0 ∧ ∃ B' H' Ls', o = (.ret, f28_X_L1 (.slice none 0 0) (.int .i64 (layN s l q i G D).1) v, H') ∧ MoC B B' ∧ PK p dv (layN s l q i G D).2.1 (layN s l q i G D).2.2 Ls' ∧ St H0 B0 B' (Lv ++ (Ls' ++ L)) H')) := by
  have hneed : need s.length ≤ 10000 := by unfold need; split <;> omega
  have hlv := hF.len (Und.eq (P := Tryz.prog) (t := 51))
  intro q
  induction q with
  | zero =>
    intro i B H G D Ls hi hG hO hm hc hP hS
    refine Ev.succ (fun K K2 => f28_L1_succ K _ _ _ _ _ _ K2 H) ?_
    repeat (first | (first|refine zA ?_|refine zB fun _ _ _=>?_|refine zC fun _ _ _=>?_|refine zD fun _ _=>?_|refine zE ?_|refine zF ?_) | rw [decide_eq_true (by omega)] | rw [decide_eq_false (by omega)])
    exact Ev.ret (.inl ⟨rfl, B, H, Ls, rfl, ⟨Mo.refl B⟩, hP, hS⟩)
  | succ q ih =>
    intro i B H G D Ls hi hG hO hm hc hP hS
    refine Ev.succ (fun K K2 => f28_L1_succ K _ _ _ _ _ _ K2 H) ?_
    repeat (first | (first|refine zA ?_|refine zB fun _ _ _=>?_|refine zC fun _ _ _=>?_|refine zD fun _ _=>?_|refine zE ?_|refine zF ?_) | rw [decide_eq_true (by omega)] | rw [decide_eq_false (by omega)])
    have hN := hF.now hS fun x hx => List.mem_append_left _ hx
    have hat : ∀ a, a < l.length → (intV l)[a]? = some (.int .i64 (l.getD a 0)) := fun a ha => by
      unfold intV
      rw [List.getElem?_map, List.getElem?_eq_getElem ha, List.getD, List.getElem?_eq_getElem ha]; rfl
    refine Ev.ixN (t := 51) hN i rfl (by omega) (hat i (by omega)) fun pp hp => ?_
    refine Ev.prim (hp.eq H (Mo.refl H)) ?_
    refine Ev.prim hlv ?_
    repeat (first | (first|refine zA ?_|refine zB fun _ _ _=>?_|refine zC fun _ _ _=>?_|refine zD fun _ _=>?_|refine zE ?_|refine zF ?_) | rw [decide_eq_true (by omega)] | rw [decide_eq_false (by omega)])
    have hlen : (s.drop (118 * i)).length < 9223372036854775808 := by rw [List.length_drop]; omega
    have go : ∀ nx : Nat, (nx : Int) = nextL l i → Ev (fun K K2 => f28_J0 K K2 p (str (s.drop (118 * i))) v (.int .i64 (l.getD i 0)) (i64 nx) v (i64 l.length) (i64 i) H) (fun o =>
      ((layN s l (q + 1) i G D).1 = 0 ∧ ∃ B' H' Ls', o = (.exit 2, f28_X_L1 unk unk v, H') ∧ MoC B B' ∧ PK p dv (layN s l (q + 1) i G D).2.1 (layN s l (q + 1) i G D).2.2 Ls' ∧ St H0 B0 B' (Lv ++ (Ls' ++ L)) H') ∨
      ((layN s l (q + 1) i G D).1 ≠ 0 ∧ ∃ B' H' Ls', o = (.ret, f28_X_L1 (.slice none 0 0) (.int .i64 (layN s l (q + 1) i G D).1) v, H') ∧ MoC B B' ∧ PK p dv (layN s l (q + 1) i G D).2.1 (layN s l (q + 1) i G D).2.2 Ls' ∧ St H0 B0 B' (Lv ++ (Ls' ++ L)) H')) := by
      intro nx hnx
      refine Ev.eq (fun K K2 => f28_J0_eq K K2 _ _ _ _ _ _ _ _ H) ?_
      repeat (first|refine zA ?_|refine zB fun _ _ _=>?_|refine zC fun _ _ _=>?_|refine zD fun _ _=>?_|refine zE ?_|refine zF ?_)
      rw [show (if (118 : Int) < ((s.drop (118 * i)).length : Int) then (118 : Int) else ((s.drop (118 * i)).length : Int)) = ((min (s.drop (118 * i)).length 118 : Nat) : Int) by split <;> omega]
      refine Ev.prim (shrL (by decide)) ?_
      refine Ev.prim (toU8 (Und.eq (P := Tryz.prog) (t := 3)) (Und.eq (P := Tryz.prog) (t := 5))) ?_
      refine Ev.prim (toU8 (Und.eq (P := Tryz.prog) (t := 3)) (Und.eq (P := Tryz.prog) (t := 5))) ?_
      refine Ev.bsC (by decide) fun bb H1 hS1 => ?_
      rw [show nx / 2 ^ 8 = nx / 256 from rfl, show [u8 (nx / 256 % 256), u8 (nx % 256)] = byts [UInt8.ofNat (nx / 256), UInt8.ofNat nx] from rfl] at hS1
      refine Ev.prim (cvS_part (d := 9) (bs := hdr nx) hS1 (.head _) (Nat.le_refl _) (by show 0 + 2 ≤ 2; decide)) ?_
      rw [show ((hdr nx).drop 0).take 2 = hdr nx from rfl]
      refine Ev.prim (slc_strT (l := s.drop (118 * i)) (i := min (s.drop (118 * i)).length 118) (Nat.min_le_left _ _)) ?_
      rw [take_piece]
      have hpl : (pieceT s i).length ≤ 118 := by unfold pieceT; rw [List.length_take]; omega
      refine Ev.prim (add_str (a := hdr nx) (b := pieceT s i) (by unfold hdr; simp; omega)) ?_
      have eb : hdr nx ++ pieceT s i = pageL s l i := by unfold pageL; rw [← hnx, Int.toNat_natCast]
      rw [eb]
      have hgl := hG.len
      have hlen : (pageL s l i).length < 9223372036854775808 := by rw [← eb]; unfold hdr; simp; omega
      refine Ev.b2 (Write_specP (n := l.getD i 0) (kind := 2) (t := pageL s l i) (L := Lv ++ L) hP hO (by omega) (by omega) hlen (by decide) (hS1.drop1.perm (by (refine perm_cnt ?_; intro _ a; simp only [List.count_append, List.count_cons, List.cons_append, List.nil_append, List.append_assoc]; try ac_rfl)))) ?_
      obtain ⟨w1, w2, w3⟩ := G.write_ok hO (l.getD i 0) 2 (pageL s l i)
      have w4 := hG.write D (l.getD i 0) 2 (pageL s l i)
      unfold layN
      generalize G.write D (l.getD i 0) 2 (pageL s l i) = w at w1 w2 w3 w4
      obtain ⟨e, G1, D1⟩ := w
      dsimp only at w1 w2 w3 w4 ⊢
      rintro _ H2 ⟨rfl, Ls2, B2, hm2, hP2, hS2⟩
      dsimp only at hS2
      clear hS1
      repeat (first|refine zA ?_|refine zB fun _ _ _=>?_|refine zC fun _ _ _=>?_|refine zD fun _ _=>?_|refine zE ?_|refine zF ?_)
      by_cases he : e = 0
      case neg =>
        rw [if_pos he, decide_eq_true he]
        repeat (first|refine zA ?_|refine zB fun _ _ _=>?_|refine zC fun _ _ _=>?_|refine zD fun _ _=>?_|refine zE ?_|refine zF ?_)
        exact Ev.ret (.inr ⟨he, B2, H2, Ls2, rfl, hm2, hP2, hS2.perm (by (refine perm_cnt ?_; intro _ a; simp only [List.count_append, List.count_cons, List.cons_append, List.nil_append, List.append_assoc]; try ac_rfl))⟩)
      rw [if_neg (by simpa using he), decide_eq_false (by simpa using he)]
      repeat (first|refine zA ?_|refine zB fun _ _ _=>?_|refine zC fun _ _ _=>?_|refine zD fun _ _=>?_|refine zE ?_|refine zF ?_)
      refine Ev.prim (slc_str (l := s.drop (118 * i)) (min (s.drop (118 * i)).length 118) rfl (Nat.min_le_left _ _)) ?_
      rw [drop_piece]
      repeat (first | (first|refine zA ?_|refine zB fun _ _ _=>?_|refine zC fun _ _ _=>?_|refine zD fun _ _=>?_|refine zE ?_|refine zF ?_) | rw [decide_eq_true (by omega)] | rw [decide_eq_false (by omega)])
      refine (ih (i + 1) B2 H2 G1 D1 Ls2 (by omega) w4 w1 (by rw [w2]; exact hm) (by omega) hP2 (hS2.perm (by (refine perm_cnt ?_; intro _ a; simp only [List.count_append, List.count_cons, List.cons_append, List.nil_append, List.append_assoc]; try ac_rfl)))).mono ?_
      rintro o (⟨h1, B', H', Ls', e', hm', h2⟩ | ⟨h1, B', H', Ls', e', hm', h2⟩)
      · exact .inl ⟨h1, B', H', Ls', e', ⟨hm2.mo.trans hm'.mo⟩, h2⟩
      · exact .inr ⟨h1, B', H', Ls', e', ⟨hm2.mo.trans hm'.mo⟩, h2⟩
    by_cases hlast : i + 1 < l.length
    · rw [decide_eq_true (by omega)]
      repeat (first | (first|refine zA ?_|refine zB fun _ _ _=>?_|refine zC fun _ _ _=>?_|refine zD fun _ _=>?_|refine zE ?_|refine zF ?_) | rw [decide_eq_true (by omega)] | rw [decide_eq_false (by omega)])
      refine Ev.ixN (t := 51) hN (i + 1) rfl (by omega) (hat (i + 1) hlast) fun pp2 hp2 => ?_
      refine Ev.prim (hp2.eq H (Mo.refl H)) ?_
      have hx := hl (l.getD (i + 1) 0) (by rw [List.getD, List.getElem?_eq_getElem hlast]; exact List.getElem_mem hlast)
      have := go (l.getD (i + 1) 0).toNat (by unfold nextL; omega)
      have e9 : i64 (l.getD (i + 1) 0).toNat = Value.int .i64 (l.getD (i + 1) 0) := by
        show Value.int .i64 ((l.getD (i + 1) 0).toNat : Int) = _
        rw [Int.toNat_of_nonneg hx.1]
      rw [e9] at this
      exact this
    · rw [decide_eq_false (by omega)]
      repeat (first | (first|refine zA ?_|refine zB fun _ _ _=>?_|refine zC fun _ _ _=>?_|refine zD fun _ _=>?_|refine zE ?_|refine zF ?_) | rw [decide_eq_true (by omega)] | rw [decide_eq_false (by omega)])
      exact go 0 (by unfold nextL; rw [List.getD, List.getElem?_eq_none (by omega)]; rfl)
theorem bw_spec {p dv : Value} {G : Pgr} {D : Dsk} {Ls : List (Nat × Blk)} {s : List UInt8} (hO : D.OK) (hG : G.In (D.n / 2)) (hc : D.cache.length < 10000000) (hsl : s.length < 9223372036854775808) (hP : PK p dv G D Ls) (hS : St H0 B0 B (Ls ++ L) H) :
    Ev (fun K _ => rn K 7 [p, str s] H) (PgP H0 B0 B L p dv (.tuple #[.int .i64 (G.bwrite D s).1, .int .i64 (G.bwrite D s).2.1]) (G.bwrite D s).2.2.1 (G.bwrite D s).2.2.2) := by
  have hm5 := hO.n2
  refine Ev.fn (fun K => f7_eq K _ _ H) ?_
  have hnp := need_pos s.length
  unfold Pgr.bwrite
  repeat (first|refine zA ?_|refine zB fun _ _ _=>?_|refine zC fun _ _ _=>?_|refine zD fun _ _=>?_|refine zE ?_|refine zF ?_)
  by_cases h6 : 60000 < s.length
  · rw [if_pos h6, decide_eq_true h6]
    repeat (first|refine zA ?_|refine zB fun _ _ _=>?_|refine zC fun _ _ _=>?_|refine zD fun _ _=>?_|refine zE ?_|refine zF ?_)
    exact Ev.ret ⟨rfl, Ls, B, ⟨Mo.refl B⟩, hP, hS⟩
  rw [if_neg h6, decide_eq_false h6]
  repeat (first|refine zA ?_|refine zB fun _ _ _=>?_|refine zC fun _ _ _=>?_|refine zD fun _ _=>?_|refine zE ?_|refine zF ?_)
  have hgl := hG.len
  have hneed : need s.length ≤ 10000 := by unfold need; split <;> omega
  refine Ev.b2 (Fresh_spec hP (by omega) hS) ?_
  clear hS
  rintro v1 H1 ⟨B1, hm1, hsc1, hS1⟩
  dsimp only at hS1 hsc1
  refine Ev.prim (hsc1.len (Und.eq (P := Tryz.prog) (t := 51))) ?_
  -- lay
  refine Ev.b2 (Q1 := fun r => ((allocN (D.n / 2) (need s.length) G []).2.1 ≠ 0 ∧ PgP H0 B0 B1 L p dv (.tuple #[.slice none 0 0, .int .i64 (allocN (D.n / 2) (need s.length) G []).2.1]) (allocN (D.n / 2) (need s.length) G []).2.2 D r) ∨
      ((allocN (D.n / 2) (need s.length) G []).2.1 = 0 ∧ (layN s (allocN (D.n / 2) (need s.length) G []).1 (need s.length) 0 (allocN (D.n / 2) (need s.length) G []).2.2 D).1 ≠ 0 ∧ PgP H0 B0 B1 L p dv (.tuple #[.slice none 0 0, .int .i64 (layN s (allocN (D.n / 2) (need s.length) G []).1 (need s.length) 0 (allocN (D.n / 2) (need s.length) G []).2.2 D).1]) (layN s (allocN (D.n / 2) (need s.length) G []).1 (need s.length) 0 (allocN (D.n / 2) (need s.length) G []).2.2 D).2.1 (layN s (allocN (D.n / 2) (need s.length) G []).1 (need s.length) 0 (allocN (D.n / 2) (need s.length) G []).2.2 D).2.2 r) ∨
      ((allocN (D.n / 2) (need s.length) G []).2.1 = 0 ∧ (layN s (allocN (D.n / 2) (need s.length) G []).1 (need s.length) 0 (allocN (D.n / 2) (need s.length) G []).2.2 D).1 = 0 ∧ ∃ v Lv Ls' B', r.1 = .tuple #[v, .int .i64 0] ∧ MoC B1 B' ∧ FR v (allocN (D.n / 2) (need s.length) G []).1 Lv ∧ PK p dv (layN s (allocN (D.n / 2) (need s.length) G []).1 (need s.length) 0 (allocN (D.n / 2) (need s.length) G []).2.2 D).2.1 (layN s (allocN (D.n / 2) (need s.length) G []).1 (need s.length) 0 (allocN (D.n / 2) (need s.length) G []).2.2 D).2.2 Ls' ∧ St H0 B0 B' (Lv ++ (Ls' ++ L)) r.2))
    (Ev.fn (fun K => f28_eq K _ _ H1) ?_) ?_
  · repeat (first|refine zA ?_|refine zB fun _ _ _=>?_|refine zC fun _ _ _=>?_|refine zD fun _ _=>?_|refine zE ?_|refine zF ?_)
    refine Ev.b2 (Need2_spec (n := s.length)) ?_
    rintro _ _ h
    cases h
    refine Ev.bind (Ev.loop (bw_alloc (m := D.n / 2) (n := need s.length) (s1 := str s) hO rfl hneed (need s.length) 0 B1 H1 G Ls [] [] (.slice none 0 0) (by omega) hG hP FRS.nil rfl hS1)) ?_
    obtain ⟨a1, a2, a3⟩ := allocN_in (m := D.n / 2) (need s.length) G [] hG (fun x hx => by cases hx)
    generalize allocN (D.n / 2) (need s.length) G [] = a at a1 a2 a3
    obtain ⟨l, e, G1⟩ := a
    dsimp only at a1 a2 a3 ⊢
    rintro _ (⟨h1, B2, H2, Ls2, Lv2, v2, rfl, hm2, hP2, hF2, hS2⟩ | ⟨h1, B2, H2, Ls2, w, rfl, hm2, hP2, hS2⟩)
    case inr =>
      refine Ev.eq (fun K _ => f28_A0_ret K _ _ _ _ _ H2) ?_
      exact Ev.ret (.inl ⟨h1, rfl, Ls2, B2, hm2, hP2, hS2⟩)
    have hln : l.length = need s.length := by have := a3 h1; simpa using this
    refine Ev.eq (fun K _ => f28_A0_x0 K _ _ _ _ _ H2) ?_
    refine Ev.prim (hF2.len (Und.eq (P := Tryz.prog) (t := 51))) ?_
    refine Ev.bind (Ev.loop (bw_lay (m := D.n / 2) (s := s) (l := l) (by omega) (by omega) a2 hln hF2 l.length 0 B2 H2 G1 D Ls2 (by omega) a1 hO rfl (by omega) hP2 hS2)) ?_
    rw [hln]
    generalize layN s l (need s.length) 0 G1 D = w
    obtain ⟨e2, G2, D2⟩ := w
    try dsimp only
    rintro _ (⟨h2, B3, H3, Ls3, rfl, hm3, hP3, hS3⟩ | ⟨h2, B3, H3, Ls3, rfl, hm3, hP3, hS3⟩)
    case inr =>
      refine Ev.eq (fun K _ => f28_A1_ret K _ _ _ H3) ?_
      exact Ev.ret (.inr (.inl ⟨h1, h2, rfl, Ls3, B3, ⟨hm2.mo.trans hm3.mo⟩, hP3, hS3.drop (List.sublist_append_right _ _)⟩))
    refine Ev.eq (fun K _ => f28_A1_x2 K _ _ _ H3) ?_
    exact Ev.ret (.inr (.inr ⟨h1, h2, v2, Lv2, Ls3, B3, rfl, ⟨hm2.mo.trans hm3.mo⟩, hF2, hP3, hS3⟩))
  clear hS1
  obtain ⟨a1, a2, a3⟩ := allocN_in (m := D.n / 2) (need s.length) G [] hG (fun x hx => by cases hx)
  obtain ⟨b1, b2, b3, b4⟩ := layN_in s (allocN (D.n / 2) (need s.length) G []).1 (need s.length) 0 (allocN (D.n / 2) (need s.length) G []).2.2 D a1 hO
  have hal := a1.len
  have hbl := b1.len
  generalize layN s (allocN (D.n / 2) (need s.length) G []).1 (need s.length) 0 (allocN (D.n / 2) (need s.length) G []).2.2 D = w at b1 b2 b3 b4 hbl
  generalize allocN (D.n / 2) (need s.length) G [] = a at a1 a2 a3 hal
  obtain ⟨e2, G2, D2⟩ := w
  obtain ⟨l, e, G1⟩ := a
  dsimp only at a1 a2 a3 hal b1 b2 b3 b4 hbl ⊢
  rintro _ H2 (⟨h1, rfl, Ls2, B2, hm2, hP2, hS2⟩ | ⟨h1, h2, rfl, Ls2, B2, hm2, hP2, hS2⟩ | ⟨h1, h2, v, Lv, Ls2, B2, rfl, hm2, hF2, hP2, hS2⟩)
  · try dsimp only at hS2
    rw [if_pos h1]
    repeat (first|refine zA ?_|refine zB fun _ _ _=>?_|refine zC fun _ _ _=>?_|refine zD fun _ _=>?_|refine zE ?_|refine zF ?_)
    rw [decide_eq_true h1]
    repeat (first|refine zA ?_|refine zB fun _ _ _=>?_|refine zC fun _ _ _=>?_|refine zD fun _ _=>?_|refine zE ?_|refine zF ?_)
    refine Ev.b2 (Back_spec (many := (G.fresh.length : Int)) hP2 (by omega) hS2) ?_
    rintro _ H3 ⟨rfl, Ls3, B3, hm3, hP3, hS3⟩
    dsimp only at hS3
    exact Ev.ret ⟨rfl, Ls3, B3, ⟨hm1.mo.trans (hm2.mo.trans hm3.mo)⟩, hP3, hS3⟩
  · try dsimp only at hS2
    rw [if_neg (by simpa using h1), if_pos h2]
    repeat (first|refine zA ?_|refine zB fun _ _ _=>?_|refine zC fun _ _ _=>?_|refine zD fun _ _=>?_|refine zE ?_|refine zF ?_)
    rw [decide_eq_true h2]
    repeat (first|refine zA ?_|refine zB fun _ _ _=>?_|refine zC fun _ _ _=>?_|refine zD fun _ _=>?_|refine zE ?_|refine zF ?_)
    refine Ev.b2 (Back_spec (many := (G.fresh.length : Int)) hP2 (by omega) hS2) ?_
    rintro _ H3 ⟨rfl, Ls3, B3, hm3, hP3, hS3⟩
    dsimp only at hS3
    exact Ev.ret ⟨rfl, Ls3, B3, ⟨hm1.mo.trans (hm2.mo.trans hm3.mo)⟩, hP3, hS3⟩
  · try dsimp only at hS2
    rw [if_neg (by simpa using h1), if_neg (by simpa using h2)]
    have hln : l.length = need s.length := by have := a3 h1; simpa using this
    repeat (first | (first|refine zA ?_|refine zB fun _ _ _=>?_|refine zC fun _ _ _=>?_|refine zD fun _ _=>?_|refine zE ?_|refine zF ?_) | rw [decide_eq_true (by omega)] | rw [decide_eq_false (by omega)])
    have hN := hF2.now hS2 fun x hx => List.mem_append_left _ hx
    refine Ev.ixN (t := 51) (x := .int .i64 (l.getD 0 0)) hN 0 rfl (by omega) (by unfold intV; rw [List.getElem?_map, List.getD, List.getElem?_eq_getElem (show 0 < l.length by omega)]; rfl) fun pp hp => ?_
    refine Ev.prim (hp.eq H2 (Mo.refl H2)) ?_
    exact Ev.ret ⟨rfl, Ls2, B2, ⟨hm1.mo.trans hm2.mo⟩, hP2, hS2.drop (List.sublist_append_right _ _)⟩
end
end Go.AM.F
namespace Go.AM.F
open Go Go.AM Go.Proofs
attribute [local irreducible] run bin un ld st box newV mkS fldA fld ixA ix slc slc3 build buildS cv cvS ap cpy lenV gOp pickV b2 aIf aChk evalK resume iterD Option.bind

section
variable {B B0 H0 H : AH} {L : List (Nat × Blk)}
theorem parts_all {p x2 b m : Nat} {dv : Value} {D : Dsk} {J : List Int → List UInt8 → List (Nat × Blk) → Prop} {JE : Int → List (Nat × Blk) → Prop} (hO : D.OK) (hm : D.n / 2 = m) (hm1 : m ≠ 0) (hc : D.cache.length < 1000000000000)
    (yl : ∀ (l : List Int) (s : List UInt8) (a : Int) (t : List UInt8), l.length ≤ 512 → s.length ≤ 128 * l.length → t.length ≤ 128 → ∀ (B H : AH) (Lj Lx : List (Nat × Blk)), J l s Lj → St H0 B0 B (Lj ++ Lx) H → Ev (fun K _ => rn K (yOff + b) [.agg #[.int .i64 a, str t, .int .i64 0]] H) (fun r => r.1 = .bool true ∧ ∃ B' Lj', MoC B B' ∧ J (l ++ [a]) (s ++ t) Lj' ∧ St H0 B0 B' (Lj' ++ Lx) r.2))
    (ye : ∀ (l : List Int) (s : List UInt8) (e : Int), e ≠ 0 → ∀ (B H : AH) (Lj Lx : List (Nat × Blk)), J l s Lj → St H0 B0 B (Lj ++ Lx) H → Ev (fun K _ => rn K (yOff + b) [.agg #[.int .i64 0, .string ByteArray.empty, .int .i64 e]] H) (fun r => r.1 = .bool false ∧ ∃ B' Lj', MoC B B' ∧ JE e Lj' ∧ St H0 B0 B' (Lj' ++ Lx) r.2)) :
    ∀ (k : Nat) (B H : AH) (G : Pgr) (Ls Lm Lj : List (Nat × Blk)) (l : List Int) (mv : Value) (s : List UInt8) (a : Int), l.length + k = 513 → l.length ≤ 512 → s.length ≤ 128 * l.length → PK (ptr p 0) dv G D Ls → FR mv l Lm → J l s Lj → St H0 B0 B (Ls ++ ((x2, ⟨[ptr p 0], 29, .fix⟩) :: (Lm ++ (Lj ++ L)))) H →
    Ev (fun K K2 => f66_L0 K (.func (.yield b) #[] #[]) (ptr x2 0) mv (.int .i64 a) K2 H) (fun o => ∃ B' Ls' Lj' H', o = (.ret, f66_X_L0, H') ∧ MoC B B' ∧ PK (ptr p 0) dv (walkR D m k G l s a).2 D Ls' ∧
      (((walkR D m k G l s a).1.2.2 = 0 ∧ J (walkR D m k G l s a).1.1 (walkR D m k G l s a).1.2.1 Lj') ∨ ((walkR D m k G l s a).1.2.2 ≠ 0 ∧ JE (walkR D m k G l s a).1.2.2 Lj')) ∧ St H0 B0 B' (Ls' ++ (Lj' ++ L)) H') := by
  intro k
  induction k with
  | zero => intro B H G Ls Lm Lj l mv s a hk hl; omega
  | succ k ih =>
    intro B H G Ls Lm Lj l mv s a hk hl hsl hP hF hJ hS
    have hm5 := hO.n2
    have hlv := hF.len (Und.eq (P := Tryz.prog) (t := 51))
    refine Ev.succ (fun K K2 => f66_L0_succ K _ _ _ _ K2 H) ?_
    have ix2 : InL x2 ⟨[ptr p 0], 29, .fix⟩ (Ls ++ ((x2, ⟨[ptr p 0], 29, .fix⟩) :: (Lm ++ (Lj ++ L)))) := ⟨List.mem_append_right _ (.head _)⟩
    repeat (first|refine zA ?_|refine zB fun _ _ _=>?_|refine zC fun _ _ _=>?_|refine zD fun _ _=>?_|refine zE ?_|refine zF ?_)
    refine Ev.b2 (Read_specP (n := a) hP hO hc hS) ?_
    have htl := gread_len hO G a
    unfold walkR
    generalize G.read D a = r at htl
    obtain ⟨⟨kd, t, e⟩, G1⟩ := r
    dsimp only at htl ⊢
    rintro _ H1 ⟨rfl, Ls1, B1, hm1', hP1, hS1⟩
    dsimp only at hS1
    clear hS ix2
    unfold OpenV
    dsimp only
    -- how it ends with an error
    have bad : ∀ (e : Int) (H1 : AH) (Lm1 : List (Nat × Blk)), e ≠ 0 → St H0 B0 B1 (Ls1 ++ ((x2, ⟨[ptr p 0], 29, .fix⟩) :: (Lm1 ++ (Lj ++ L)))) H1 → Ev (fun K _ => rn K (yOff + b) [.agg #[.int .i64 0, .string ByteArray.empty, .int .i64 e]] H1) (fun r => ∃ B' Lj', MoC B B' ∧ JE e Lj' ∧ St H0 B0 B' (Ls1 ++ (Lj' ++ L)) r.2) := by
      intro e H1 Lm1 he hS1
      refine (ye l s e he B1 H1 Lj (Ls1 ++ ((x2, ⟨[ptr p 0], 29, .fix⟩) :: (Lm1 ++ L))) hJ (hS1.perm (by (refine perm_cnt ?_; intro _ a; simp only [List.count_append, List.count_cons, List.cons_append, List.nil_append, List.append_assoc]; try ac_rfl)))).mono ?_
      rintro r ⟨_, B', Lj', hm', hJ', hS'⟩
      refine ⟨B', Lj', ⟨hm1'.mo.trans hm'.mo⟩, hJ', ?_⟩
      refine (hS'.drop (L' := Lj' ++ (Ls1 ++ L)) (List.Sublist.append_left (List.Sublist.append_left (.cons _ (List.sublist_append_right _ _)) _) _)).perm (by (refine perm_cnt ?_; intro _ a; simp only [List.count_append, List.count_cons, List.cons_append, List.nil_append, List.append_assoc]; try ac_rfl))
    repeat (first|refine zA ?_|refine zB fun _ _ _=>?_|refine zC fun _ _ _=>?_|refine zD fun _ _=>?_|refine zE ?_|refine zF ?_)
    by_cases he : e = 0
    case neg =>
      rw [if_pos he, decide_eq_true he]
      repeat (first|refine zA ?_|refine zB fun _ _ _=>?_|refine zC fun _ _ _=>?_|refine zD fun _ _=>?_|refine zE ?_|refine zF ?_)
      refine Ev.b2 (bad e H1 Lm he hS1) ?_
      rintro v H2 ⟨B', Lj', hm', hJ', hS'⟩
      exact Ev.ret ⟨B', Ls1, Lj', H2, rfl, hm', hP1, .inr ⟨he, hJ'⟩, hS'⟩
    rw [if_neg (by simpa using he), decide_eq_false (by simpa using he)]
    repeat (first|refine zA ?_|refine zB fun _ _ _=>?_|refine zC fun _ _ _=>?_|refine zD fun _ _=>?_|refine zE ?_|refine zF ?_)
    by_cases h1 : kd = 2
    case neg =>
      rw [if_pos (.inl h1), decide_eq_true h1]
      repeat (first|refine zA ?_|refine zB fun _ _ _=>?_|refine zC fun _ _ _=>?_|refine zD fun _ _=>?_|refine zE ?_|refine zF ?_)
      refine Ev.b2 (bad 2 H1 Lm (by decide) hS1) ?_
      rintro v H2 ⟨B', Lj', hm', hJ', hS'⟩
      exact Ev.ret ⟨B', Ls1, Lj', H2, rfl, hm', hP1, .inr ⟨show (2 : Int) ≠ 0 by decide, hJ'⟩, hS'⟩
    rw [decide_eq_false (by simpa using h1)]
    repeat (first|refine zA ?_|refine zB fun _ _ _=>?_|refine zC fun _ _ _=>?_|refine zD fun _ _=>?_|refine zE ?_|refine zF ?_)
    by_cases h2 : t.length < 2
    · rw [if_pos (.inr (.inl h2)), decide_eq_true h2]
      repeat (first|refine zA ?_|refine zB fun _ _ _=>?_|refine zC fun _ _ _=>?_|refine zD fun _ _=>?_|refine zE ?_|refine zF ?_)
      refine Ev.b2 (bad 2 H1 Lm (by decide) hS1) ?_
      rintro v H2 ⟨B', Lj', hm', hJ', hS'⟩
      exact Ev.ret ⟨B', Ls1, Lj', H2, rfl, hm', hP1, .inr ⟨show (2 : Int) ≠ 0 by decide, hJ'⟩, hS'⟩
    rw [decide_eq_false h2]
    repeat (first|refine zA ?_|refine zB fun _ _ _=>?_|refine zC fun _ _ _=>?_|refine zD fun _ _=>?_|refine zE ?_|refine zF ?_)
    rw [hlv, Option.bind_some]
    repeat (first|refine zA ?_|refine zB fun _ _ _=>?_|refine zC fun _ _ _=>?_|refine zD fun _ _=>?_|refine zE ?_|refine zF ?_)
    by_cases h3 : 512 ≤ l.length
    · rw [if_pos (.inr (.inr h3)), decide_eq_true h3]
      repeat (first|refine zA ?_|refine zB fun _ _ _=>?_|refine zC fun _ _ _=>?_|refine zD fun _ _=>?_|refine zE ?_|refine zF ?_)
      refine Ev.b2 (bad 2 H1 Lm (by decide) hS1) ?_
      rintro v H2 ⟨B', Lj', hm', hJ', hS'⟩
      exact Ev.ret ⟨B', Ls1, Lj', H2, rfl, hm', hP1, .inr ⟨show (2 : Int) ≠ 0 by decide, hJ'⟩, hS'⟩
    rw [if_neg (fun h => by rcases h with h | h | h; exact h h1; exact h2 h; exact h3 h), decide_eq_false h3]
    repeat (first|refine zA ?_|refine zB fun _ _ _=>?_|refine zC fun _ _ _=>?_|refine zD fun _ _=>?_|refine zE ?_|refine zF ?_)
    refine FRS.push (x := a) eltI hF (hS1.perm (L' := Lm ++ ((x2, ⟨[ptr p 0], 29, .fix⟩) :: (Ls1 ++ (Lj ++ L)))) (by (refine perm_cnt ?_; intro _ a; simp only [List.count_append, List.count_cons, List.cons_append, List.nil_append, List.append_assoc]; try ac_rfl))) (by omega) fun mv' Lm' H2 hF2 hS2' => ?_
    have hS2 : St H0 B0 B1 (Ls1 ++ ((x2, ⟨[ptr p 0], 29, .fix⟩) :: (Lm' ++ (Lj ++ L)))) H2 := hS2'.perm (by (refine perm_cnt ?_; intro _ a; simp only [List.count_append, List.count_cons, List.cons_append, List.nil_append, List.append_assoc]; try ac_rfl))
    clear hS1 hS2'
    have hdl : (t.drop 2).length ≤ 128 := by rw [List.length_drop]; omega
    have hb0 := UInt8.toNat_lt (t.getD 0 0)
    have hb1 := UInt8.toNat_lt (t.getD 1 0)
    refine Ev.prim (ix_str (l := t) 0 rfl (by omega)) ?_
    repeat (first|refine zA ?_|refine zB fun _ _ _=>?_|refine zC fun _ _ _=>?_|refine zD fun _ _=>?_|refine zE ?_|refine zF ?_)
    refine Ev.prim (shl8 (by omega)) ?_
    refine Ev.prim (ix_str (l := t) 1 rfl (by omega)) ?_
    repeat (first|refine zA ?_|refine zB fun _ _ _=>?_|refine zC fun _ _ _=>?_|refine zD fun _ _=>?_|refine zE ?_|refine zF ?_)
    refine Ev.prim (or8 (by omega) hb1) ?_
    rw [show (t.getD 0 0).toNat * 256 + (t.getD 1 0).toNat = nextT t from rfl]
    have hnx : nextT t < 65536 := by unfold nextT; omega
    have hsl2 : (s ++ t.drop 2).length ≤ 128 * (l ++ [a]).length := by rw [List.length_append, List.length_append, List.length_singleton]; omega
    have hll2 : (l ++ [a]).length = l.length + 1 := by rw [List.length_append, List.length_singleton]
    generalize nextT t = nx at hnx
    have ix2 : InL x2 ⟨[ptr p 0], 29, .fix⟩ (Ls1 ++ ((x2, ⟨[ptr p 0], 29, .fix⟩) :: (Lm' ++ (Lj ++ L)))) := ⟨List.mem_append_right _ (.head _)⟩
    have round : Ev (fun K _ => rn K (yOff + b) [.agg #[.int .i64 a, str (t.drop 2), .int .i64 0]] H2) (fun r => r.1 = .bool true ∧ ∃ B' Lj', MoC B1 B' ∧ J (l ++ [a]) (s ++ t.drop 2) Lj' ∧ St H0 B0 B' (Ls1 ++ ((x2, ⟨[ptr p 0], 29, .fix⟩) :: (Lm' ++ (Lj' ++ L)))) r.2) := by
      refine (yl l s a (t.drop 2) hl hsl hdl B1 H2 Lj (Ls1 ++ ((x2, ⟨[ptr p 0], 29, .fix⟩) :: (Lm' ++ L))) hJ (hS2.perm (by (refine perm_cnt ?_; intro _ a; simp only [List.count_append, List.count_cons, List.cons_append, List.nil_append, List.append_assoc]; try ac_rfl)))).mono ?_
      rintro r ⟨h1, B', Lj', hm', hJ', hS'⟩
      exact ⟨h1, B', Lj', hm', hJ', hS'.perm (by (refine perm_cnt ?_; intro _ a; simp only [List.count_append, List.count_cons, List.cons_append, List.nil_append, List.append_assoc]; try ac_rfl))⟩
    repeat (first|refine zA ?_|refine zB fun _ _ _=>?_|refine zC fun _ _ _=>?_|refine zD fun _ _=>?_|refine zE ?_|refine zF ?_)
    by_cases hn1 : nx = 1
    · rw [if_neg (by omega), if_pos (.inl hn1), decide_eq_true hn1]
      repeat (first|refine zA ?_|refine zB fun _ _ _=>?_|refine zC fun _ _ _=>?_|refine zD fun _ _=>?_|refine zE ?_|refine zF ?_)
      refine Ev.b2 (bad 2 H2 Lm' (by decide) hS2) ?_
      rintro v H3 ⟨B', Lj', hm', hJ', hS'⟩
      exact Ev.ret ⟨B', Ls1, Lj', H3, rfl, hm', hP1, .inr ⟨show (2 : Int) ≠ 0 by decide, hJ'⟩, hS'⟩
    rw [decide_eq_false hn1]
    repeat (first|refine zA ?_|refine zB fun _ _ _=>?_|refine zC fun _ _ _=>?_|refine zD fun _ _=>?_|refine zE ?_|refine zF ?_)
    refine Ev.b2 (Pages_spec hP1 hO hS2 fun x hx => List.mem_append_left _ hx) ?_
    rintro _ _ h
    cases h
    rw [hm]
    repeat (first|refine zA ?_|refine zB fun _ _ _=>?_|refine zC fun _ _ _=>?_|refine zD fun _ _=>?_|refine zE ?_|refine zF ?_)
    by_cases hn2 : m ≤ nx
    · rw [if_neg (by omega), if_pos (.inr (.inl hn2)), decide_eq_true hn2]
      repeat (first|refine zA ?_|refine zB fun _ _ _=>?_|refine zC fun _ _ _=>?_|refine zD fun _ _=>?_|refine zE ?_|refine zF ?_)
      refine Ev.b2 (bad 2 H2 Lm' (by decide) hS2) ?_
      rintro v H3 ⟨B', Lj', hm', hJ', hS'⟩
      exact Ev.ret ⟨B', Ls1, Lj', H3, rfl, hm', hP1, .inr ⟨show (2 : Int) ≠ 0 by decide, hJ'⟩, hS'⟩
    rw [decide_eq_false hn2]
    repeat (first|refine zA ?_|refine zB fun _ _ _=>?_|refine zC fun _ _ _=>?_|refine zD fun _ _=>?_|refine zE ?_|refine zF ?_)
    by_cases hz : nx = 0
    · rw [if_pos hz, decide_eq_false (show ¬ nx ≠ 0 by omega)]
      repeat (first|refine zA ?_|refine zB fun _ _ _=>?_|refine zC fun _ _ _=>?_|refine zD fun _ _=>?_|refine zE ?_|refine zF ?_)
      refine Ev.prim (slc_str (l := t) 2 rfl (by omega)) ?_
      repeat (first|refine zA ?_|refine zB fun _ _ _=>?_|refine zC fun _ _ _=>?_|refine zD fun _ _=>?_|refine zE ?_|refine zF ?_)
      refine Ev.b2 round ?_
      rintro _ H5 ⟨rfl, B5, Lj5, hm5', hJ5, hS5⟩
      dsimp only at hS5
      repeat (first|refine zA ?_|refine zB fun _ _ _=>?_|refine zC fun _ _ _=>?_|refine zD fun _ _=>?_|refine zE ?_|refine zF ?_)
      rw [decide_eq_true hz]
      repeat (first|refine zA ?_|refine zB fun _ _ _=>?_|refine zC fun _ _ _=>?_|refine zD fun _ _=>?_|refine zE ?_|refine zF ?_)
      refine Ev.ret ⟨B5, Ls1, Lj5, H5, rfl, ⟨hm1'.mo.trans hm5'.mo⟩, hP1, .inl ⟨rfl, hJ5⟩, ?_⟩
      exact hS5.drop (List.Sublist.append_left (.cons _ (List.sublist_append_right _ _)) _)
    rw [if_neg hz, decide_eq_true (show nx ≠ 0 from hz)]
    repeat (first|refine zA ?_|refine zB fun _ _ _=>?_|refine zC fun _ _ _=>?_|refine zD fun _ _=>?_|refine zE ?_|refine zF ?_)
    refine Ev.b2 (Contains_spec (nx : Int) hF2 (by omega) hS2 fun x hx => List.mem_append_right _ (.tail _ (List.mem_append_left _ hx))) ?_
    rintro _ _ h
    cases h
    by_cases hn3 : (nx : Int) ∈ l ++ [a]
    · rw [if_pos (.inr (.inr hn3)), decide_eq_true hn3]
      repeat (first|refine zA ?_|refine zB fun _ _ _=>?_|refine zC fun _ _ _=>?_|refine zD fun _ _=>?_|refine zE ?_|refine zF ?_)
      refine Ev.b2 (bad 2 H2 Lm' (by decide) hS2) ?_
      rintro v H3 ⟨B', Lj', hm', hJ', hS'⟩
      exact Ev.ret ⟨B', Ls1, Lj', H3, rfl, hm', hP1, .inr ⟨show (2 : Int) ≠ 0 by decide, hJ'⟩, hS'⟩
    rw [if_neg (fun h => by rcases h with h | h | h; exact hn1 h; exact hn2 h; exact hn3 h), decide_eq_false hn3]
    repeat (first|refine zA ?_|refine zB fun _ _ _=>?_|refine zC fun _ _ _=>?_|refine zD fun _ _=>?_|refine zE ?_|refine zF ?_)
    refine Ev.prim (slc_str (l := t) 2 rfl (by omega)) ?_
    repeat (first|refine zA ?_|refine zB fun _ _ _=>?_|refine zC fun _ _ _=>?_|refine zD fun _ _=>?_|refine zE ?_|refine zF ?_)
    refine Ev.b2 round ?_
    rintro _ H5 ⟨rfl, B5, Lj5, hm5', hJ5, hS5⟩
    dsimp only at hS5
    repeat (first|refine zA ?_|refine zB fun _ _ _=>?_|refine zC fun _ _ _=>?_|refine zD fun _ _=>?_|refine zE ?_|refine zF ?_)
    rw [decide_eq_false hz]
    repeat (first|refine zA ?_|refine zB fun _ _ _=>?_|refine zC fun _ _ _=>?_|refine zD fun _ _=>?_|refine zE ?_|refine zF ?_)
    refine (ih B5 H5 G1 Ls1 Lm' Lj5 (l ++ [a]) mv' (s ++ t.drop 2) (nx : Int) (by omega) (by omega) hsl2 hP1 hF2 hJ5 hS5).mono ?_
    rintro o ⟨B', Ls', Lj', H', e', hm', h4⟩
    exact ⟨B', Ls', Lj', H', e', ⟨hm1'.mo.trans (hm5'.mo.trans hm'.mo)⟩, h4⟩
def BR2 (v : Value) (x : List UInt8) (Lb : List (Nat × Blk)) : Prop := (x = [] ∧ v = .slice none 0 0 ∧ Lb = []) ∨ (x ≠ [] ∧ ∃ b2, v = sl b2 0 x.length (x.length + 1) ∧ Lb = [(b2, ⟨(x.map UInt8.toNat).map u8, 5, .buf⟩)])
theorem BR2.cell {v : Value} {x : List UInt8} {Lb : List (Nat × Blk)} (h : BR2 v x Lb) : IsCell v := by
  rcases h with ⟨_, rfl, _⟩ | ⟨_, b2, rfl, _⟩ <;> exact inferInstance
theorem BR2.acc {v : Value} {x : List UInt8} {Lb : List (Nat × Blk)} (h : BR2 v x Lb) (hS : St H0 B0 B (Lb ++ L) H) : BAcc 5 H0 B0 B L H v (x.map UInt8.toNat) := by
  rcases h with ⟨rfl, rfl, rfl⟩ | ⟨_, b2, rfl, rfl⟩
  · exact .inl ⟨rfl, rfl, hS⟩
  · exact .inr ⟨b2, by rw [List.length_map], hS⟩
theorem bacc_br {v : Value} {x : List UInt8} (hx : x ≠ []) (h : BAcc 5 H0 B0 B L H v (x.map UInt8.toNat)) : ∃ Lb, BR2 v x Lb ∧ St H0 B0 B (Lb ++ L) H := by
  rcases h with ⟨h, _⟩ | ⟨b2, rfl, hS⟩
  · exact (hx (List.map_eq_nil_iff.1 h)).elim
  · exact ⟨_, .inr ⟨hx, b2, by rw [List.length_map], rfl⟩, hS⟩
theorem WriteNil2_spec {p : Nat} {c0 : Value} (hc : c0 = .pointer none ∨ c0 = ptr p 0) (hS : St H0 B0 B ((p, ⟨[c0, .slice none 0 0], 92, .fix⟩) :: L) H) :
    Ev (fun k _ => rn k 49 [ptr p 0, str []] H) (fun r => r.1 = .tuple #[i64 0, .nilIface] ∧ St H0 B0 B ((p, ⟨[ptr p 0, .slice none 0 0], 92, .fix⟩) :: L) r.2) := by
  refine Ev.fn (fun k => f49_eq k _ _ H) ?_
  refine Ev.b2 (copy_spec (rest := []) (ds := []) bldT_mem bld_sz hc (BAcc.nil hS)) fun v1 H1 h1 => ?_
  obtain ⟨h1, hA1⟩ := h1
  simp only at h1 hA1
  have hSt := hA1.st
  clear hS
  repeat (first|refine zA ?_|refine zB fun _ _ _=>?_|refine zC fun _ _ _=>?_|refine zD fun _ _=>?_|refine zE ?_|refine zF ?_)
  refine Ev.prim2 (v := .slice none 0 0) (H := H1) (by kernel_rfl) ?_
  repeat (first|refine zA ?_|refine zB fun _ _ _=>?_|refine zC fun _ _ _=>?_|refine zD fun _ _=>?_|refine zE ?_|refine zF ?_)
  refine Ev.ret ⟨rfl, ?_⟩
  assumption
abbrev rdT2 (b4 b5 b6 : Nat) : List Value := f15_T_R0 (ptr b4 0) (ptr b5 0) (ptr b6 0)
def JR2 (b b4 b5 b6 : Nat) (l : List Int) (s : List UInt8) (Lj : List (Nat × Blk)) : Prop := ∃ c0 v Lb, (c0 = .pointer none ∨ c0 = ptr b6 0) ∧ BR2 v s Lb ∧
  Lj = (b, ⟨.int .i64 (0 : Nat) :: rdT2 b4 b5 b6, 4, .loop 15 4⟩) :: (b6, ⟨[c0, v], 92, .fix⟩) :: (b5, ⟨[.int .i64 0], 37, .fix⟩) :: (b4, ⟨[.string ByteArray.empty], 9, .fix⟩) :: Lb
def JE2 (b b4 b5 b6 : Nat) (e : Int) (Lj : List (Nat × Blk)) : Prop := ∃ c0 v Lb,
  Lj = (b, ⟨.int .i64 (2 : Nat) :: rdT2 b4 b5 b6, 4, .loop 15 4⟩) :: (b6, ⟨[c0, v], 92, .fix⟩) :: (b5, ⟨[.int .i64 e], 37, .fix⟩) :: (b4, ⟨[.string ⟨#[]⟩], 9, .fix⟩) :: Lb
theorem read_round2 {b b4 b5 b6 : Nat} {l : List Int} {s t : List UInt8} {a : Int} (hs : s.length ≤ 128 * l.length) (hl : l.length ≤ 512) (ht : t.length ≤ 128) {B H : AH} {Lj Lx : List (Nat × Blk)} (hJ : JR2 b b4 b5 b6 l s Lj) (hS : St H0 B0 B (Lj ++ Lx) H) :
    Ev (fun K _ => rn K (yOff + b) [.agg #[.int .i64 a, str t, .int .i64 0]] H) (fun r => r.1 = .bool true ∧ ∃ B' Lj', MoC B B' ∧ JR2 b b4 b5 b6 (l ++ [a]) (s ++ t) Lj' ∧ St H0 B0 B' (Lj' ++ Lx) r.2) := by
  obtain ⟨c0, v, Lb, hc0, hR, rfl⟩ := hJ
  have hcell := hR.cell
  have hc0c : IsCell c0 := by rcases hc0 with rfl | rfl <;> exact inferInstance
  simp only [List.cons_append] at hS
  refine Ev.fn (fun K => f15_Y0_eq K _ _ _ _ b H (hS.get (.head _))) ?_
  repeat (first|refine zA ?_|refine zB fun _ _ _=>?_|refine zC fun _ _ _=>?_|refine zD fun _ _=>?_|refine zE ?_|refine zF ?_)
  rename_i bp H1 hS1 H2 hS2
  clear hS hS1
  refine Ev.setSt (c := 0) (d := 1) hS2 (.tail _ (.head _)) (.tail _ (.head _)) fun H3 hS3 => ?_
  clear hS2
  repeat (first|refine zA ?_|refine zB fun _ _ _=>?_|refine zC fun _ _ _=>?_|refine zD fun _ _=>?_|refine zE ?_|refine zF ?_)
  by_cases he : s ++ t = []
  · obtain ⟨hx, hp⟩ := List.append_eq_nil_iff.1 he
    subst hx hp
    rcases hR with ⟨_, rfl, rfl⟩ | ⟨h, _⟩
    case inr => exact (h rfl).elim
    have hS4 : St H0 B0 B ((b6, ⟨[c0, .slice none 0 0], 92, .fix⟩) :: (b, _) :: (bp, _) :: (b5, _) :: (b4, _) :: Lx) H3 := hS3.perm (by (refine perm_cnt ?_; intro _ a; simp only [List.count_append, List.count_cons, List.cons_append, List.nil_append, List.append_assoc]; try ac_rfl))
    refine Ev.b2 (WriteNil2_spec hc0 hS4) ?_
    rintro _ H5 ⟨rfl, hS5⟩
    dsimp only at hS5
    refine Ev.setSt (c := 1) (d := 0) hS5 (.tail _ (.head _)) (.tail _ (.head _)) fun H8 hS8 => ?_
    refine Ev.ret ⟨rfl, B, _, ⟨Mo.refl B⟩, ⟨ptr b6 0, .slice none 0 0, [], .inr rfl, .inl ⟨rfl, rfl, rfl⟩, rfl⟩, ?_⟩
    exact (hS8.drop (L' := (b6, _) :: (b, _) :: (b5, _) :: (b4, _) :: Lx) (.cons_cons _ (.cons_cons _ (.cons _ (List.Sublist.refl _))))).perm (by (refine perm_cnt ?_; intro _ a; simp only [List.count_append, List.count_cons, List.cons_append, List.nil_append, List.append_assoc]; try ac_rfl))
  · have hS4 : St H0 B0 B (Lb ++ ((b6, ⟨[c0, v], 92, .fix⟩) :: (b, _) :: (bp, _) :: (b5, _) :: (b4, _) :: Lx)) H3 := hS3.perm (by (refine perm_cnt ?_; intro _ a; simp only [List.count_append, List.count_cons, List.cons_append, List.nil_append, List.append_assoc]; try ac_rfl))
    have hA := hR.acc hS4
    refine Ev.b2 (WriteString_spec (l := t) (rest := []) bldT_mem bld_sz hc0 (by rw [List.length_map]; omega) hA) ?_
    rintro v5 H5 ⟨_, v', B5, hm5, hA5⟩
    dsimp only at hA5
    rw [← List.map_append] at hA5
    obtain ⟨Lb', hR', hS5⟩ := bacc_br he hA5
    have hS6 : St H0 B0 B5 ((b, _) :: (b6, ⟨[ptr b6 0, v'], 92, .fix⟩) :: (bp, _) :: (b5, _) :: (b4, _) :: (Lb' ++ Lx)) H5 := hS5.perm (by (refine perm_cnt ?_; intro _ a; simp only [List.count_append, List.count_cons, List.cons_append, List.nil_append, List.append_assoc]; try ac_rfl))
    refine Ev.setSt (c := 1) (d := 0) hS6 (.head _) (.head _) fun H8 hS8 => ?_
    refine Ev.ret ⟨rfl, B5, _, hm5, ⟨ptr b6 0, v', Lb', .inr rfl, hR', rfl⟩, ?_⟩
    exact hS8.drop (.cons_cons _ (.cons_cons _ (.cons _ (List.Sublist.refl _))))
theorem read_err2 {b b4 b5 b6 : Nat} {l : List Int} {s : List UInt8} {e : Int} (he : e ≠ 0) {B H : AH} {Lj Lx : List (Nat × Blk)} (hJ : JR2 b b4 b5 b6 l s Lj) (hS : St H0 B0 B (Lj ++ Lx) H) :
    Ev (fun K _ => rn K (yOff + b) [.agg #[.int .i64 0, .string ByteArray.empty, .int .i64 e]] H) (fun r => r.1 = .bool false ∧ ∃ B' Lj', MoC B B' ∧ JE2 b b4 b5 b6 e Lj' ∧ St H0 B0 B' (Lj' ++ Lx) r.2) := by
  obtain ⟨c0, v, Lb, hc0, hR, rfl⟩ := hJ
  have hcell := hR.cell
  have hc0c : IsCell c0 := by rcases hc0 with rfl | rfl <;> exact inferInstance
  simp only [List.cons_append] at hS
  refine Ev.fn (fun K => f15_Y0_eq K _ _ _ _ b H (hS.get (.head _))) ?_
  repeat (first|refine zA ?_|refine zB fun _ _ _=>?_|refine zC fun _ _ _=>?_|refine zD fun _ _=>?_|refine zE ?_|refine zF ?_)
  rename_i bp H1 hS1 H2 hS2
  clear hS hS1
  refine Ev.setSt (c := 0) (d := 1) hS2 (.tail _ (.head _)) (.tail _ (.head _)) fun H3 hS3 => ?_
  clear hS2
  repeat (first|refine zA ?_|refine zB fun _ _ _=>?_|refine zC fun _ _ _=>?_|refine zD fun _ _=>?_|refine zE ?_|refine zF ?_)
  rw [decide_eq_true he]
  repeat (first|refine zA ?_|refine zB fun _ _ _=>?_|refine zC fun _ _ _=>?_|refine zD fun _ _=>?_|refine zE ?_|refine zF ?_)
  rename_i H4 hS4 H5 hS5
  refine Ev.setSt (c := 1) (d := 2) hS5 (.tail _ (.head _)) (.tail _ (.head _)) fun H8 hS8 => ?_
  refine Ev.ret ⟨rfl, B, _, ⟨Mo.refl B⟩, ⟨c0, v, Lb, rfl⟩, hS8.drop1⟩
theorem bRead_any {p : Nat} {dv : Value} {G : Pgr} {D : Dsk} {Ls : List (Nat × Blk)} {a : Int} (hO : D.OK) (hm1 : D.n / 2 ≠ 0) (hc : D.cache.length < 1000000000000) (hP : PK (ptr p 0) dv G D Ls) (hS : St H0 B0 B (Ls ++ L) H) :
    Ev (fun K _ => rn K 15 [ptr p 0, .int .i64 a] H) (PgP H0 B0 B L (ptr p 0) dv (.tuple #[str (G.walk D a).1.2.1, .int .i64 (G.walk D a).1.2.2]) (G.walk D a).2 D) := by
  refine Ev.fn (fun K => f15_eq K _ _ H) ?_
  repeat (first|refine zA ?_|refine zB fun _ _ _=>?_|refine zC fun _ _ _=>?_|refine zD fun _ _=>?_|refine zE ?_|refine zF ?_)
  rename_i b4 H1 hS1 b5 H2 hS2 b6 H3 hS3
  clear hS hS1 hS2
  refine Ev.b2 (Q1 := fun r => ∃ x1 x2, r.1 = .func (.func 66) #[] #[ptr x1 0, ptr x2 0] ∧ St H0 B0 B ((x1, ⟨[.int .i64 a], 3, .fix⟩) :: (x2, ⟨[ptr p 0], 29, .fix⟩) :: (b6, ⟨[.pointer none, .slice none 0 0], 92, .fix⟩) :: (b5, ⟨[.int .i64 0], 37, .fix⟩) :: (b4, ⟨[.string ByteArray.empty], 9, .fix⟩) :: (Ls ++ L)) r.2)
    (Ev.fn (fun K => f48_eq K _ _ H3) ?_) ?_
  · repeat (first|refine zA ?_|refine zB fun _ _ _=>?_|refine zC fun _ _ _=>?_|refine zD fun _ _=>?_|refine zE ?_|refine zF ?_)
    rename_i x2 H4 hS4 x1 H5 hS5
    exact Ev.ret ⟨x1, x2, rfl, hS5⟩
  rintro _ H4 ⟨x1, x2, rfl, hS4⟩
  clear hS3
  dsimp only at hS4
  simp only [callV_fn (show 66 < yOff by unfold yOff; omega), List.nil_append, List.cons_append]
  have hS5 := hS4.mkB' (.int .i64 (0 : Nat) :: rdT2 b4 b5 b6) 4 (.loop 15 4)
  clear hS4
  generalize hbb : H4.length = b at hS5 ⊢
  generalize hHH : mkB H4 (.int .i64 (0 : Nat) :: rdT2 b4 b5 b6) 4 (.loop 15 4) = H5 at hS5 ⊢
  have e5 : mkB H4 (.int .i64 0 :: f15_T_R0 (ptr b4 0) (ptr b5 0) (ptr b6 0)) 4 (.loop 15 4) = H5 := hHH
  try rw [e5]
  refine Ev.b2 (Q1 := fun r => ∃ B' Ls' Lj', MoC B B' ∧ PK (ptr p 0) dv (G.walk D a).2 D Ls' ∧ (((G.walk D a).1.2.2 = 0 ∧ JR2 b b4 b5 b6 (G.walk D a).1.1 (G.walk D a).1.2.1 Lj') ∨ ((G.walk D a).1.2.2 ≠ 0 ∧ JE2 b b4 b5 b6 (G.walk D a).1.2.2 Lj')) ∧ St H0 B0 B' (Ls' ++ (Lj' ++ L)) r.2)
    (Ev.fn (fun K => f66_eq K _ _ _ H5) ?_) ?_
  · repeat (first|refine zA ?_|refine zB fun _ _ _=>?_|refine zC fun _ _ _=>?_|refine zD fun _ _=>?_|refine zE ?_|refine zF ?_)
    have hS6 : St H0 B0 B (Ls ++ ((x2, ⟨[ptr p 0], 29, .fix⟩) :: ([] ++ ([(b, ⟨.int .i64 (0 : Nat) :: rdT2 b4 b5 b6, 4, .loop 15 4⟩), (b6, ⟨[.pointer none, .slice none 0 0], 92, .fix⟩), (b5, ⟨[.int .i64 0], 37, .fix⟩), (b4, ⟨[.string ByteArray.empty], 9, .fix⟩)] ++ L)))) H5 := by
      have h6 : St H0 B0 B ((b, ⟨.int .i64 (0 : Nat) :: rdT2 b4 b5 b6, 4, .loop 15 4⟩) :: (x2, ⟨[ptr p 0], 29, .fix⟩) :: (b6, ⟨[.pointer none, .slice none 0 0], 92, .fix⟩) :: (b5, ⟨[.int .i64 0], 37, .fix⟩) :: (b4, ⟨[.string ByteArray.empty], 9, .fix⟩) :: (Ls ++ L)) H5 := hS5.drop (.cons_cons _ (.cons _ (List.Sublist.refl _)))
      exact h6.perm (by (refine perm_cnt ?_; intro _ a; simp only [List.count_append, List.count_cons, List.cons_append, List.nil_append, List.append_assoc]; try ac_rfl))
    refine Ev.bind (Ev.loop (parts_all (m := D.n / 2) (J := JR2 b b4 b5 b6) (JE := JE2 b b4 b5 b6) hO rfl hm1 hc (fun l s a t hl hs ht B H Lj Lx hJ hS => read_round2 hs hl ht hJ hS) (fun l s e he B H Lj Lx hJ hS => read_err2 he hJ hS) 513 B H5 G Ls [] _ [] (.slice none 0 0) [] a rfl (by decide) (Nat.le_refl _) hP FRS.nil ⟨.pointer none, .slice none 0 0, [], .inl rfl, .inl ⟨rfl, rfl, rfl⟩, rfl⟩ hS6)) ?_
    rintro _ ⟨B', Ls', Lj', H', rfl, hm', hP', hJ', hS'⟩
    refine Ev.eq (fun K _ => f66_A0_ret K H') ?_
    exact Ev.ret ⟨B', Ls', Lj', hm', hP', hJ', hS'⟩
  have hwl := (walkR_len (m := D.n / 2) hO 513 G [] [] a (Nat.le_refl _) (Nat.le_refl _)).1
  rw [show walkR D (D.n / 2) 513 G [] [] a = G.walk D a from rfl] at hwl
  have hwe : (G.walk D a).1.2.2 ≠ 0 → (G.walk D a).1.2.1 = [] := fun h => (walkR_err 513 G [] [] a h).1
  generalize G.walk D a = w at hwl hwe
  obtain ⟨⟨wl, ws, we⟩, G6⟩ := w
  dsimp only at hwl hwe ⊢
  rintro v H6 ⟨B6, Ls6, Lj6, hm6, hP6, ⟨rfl, c0, ov, Lb, hc0, hR, rfl⟩ | ⟨he, c0, ov, Lb, rfl⟩, hS6⟩
  · try dsimp only at hS6
    clear hS5
    have hcell := hR.cell
    have hc0c : IsCell c0 := by rcases hc0 with rfl | rfl <;> exact inferInstance
    have hS7 : St H0 B0 B6 ((b, ⟨.int .i64 (xSt .normal : Nat) :: rdT2 b4 b5 b6, 4, .loop 15 4⟩) :: (b6, ⟨[c0, ov], 92, .fix⟩) :: (b5, ⟨[.int .i64 0], 37, .fix⟩) :: (b4, ⟨[.string ByteArray.empty], 9, .fix⟩) :: (Lb ++ (Ls6 ++ L))) H6 := hS6.perm (by show List.Perm _ (Ls6 ++ (((b, ⟨.int .i64 (0 : Nat) :: rdT2 b4 b5 b6, 4, .loop 15 4⟩) :: (b6, ⟨[c0, ov], 92, .fix⟩) :: (b5, ⟨[.int .i64 0], 37, .fix⟩) :: (b4, ⟨[.string ByteArray.empty], 9, .fix⟩) :: Lb) ++ L)); (refine perm_cnt ?_; intro _ a; simp only [List.count_append, List.count_cons, List.cons_append, List.nil_append, List.append_assoc]; try ac_rfl))
    clear hS6
    refine Ev.rgBack (e := .normal) hS7 fun H8 hS8 => ?_
    clear hS7
    refine Ev.eq (fun K _ => f15_B0_normal K _ _ _ H8) ?_
    refine Ev.b2 (Q1 := fun r => r.1 = str ws ∧ St H0 B0 B6 ((b6, ⟨[c0, ov], 92, .fix⟩) :: (b5, ⟨[.int .i64 0], 37, .fix⟩) :: (b4, ⟨[.string ByteArray.empty], 9, .fix⟩) :: (Ls6 ++ L)) r.2) ?_ ?_
    · rcases hR with ⟨h0, rfl, rfl⟩ | ⟨h0, b2, rfl, rfl⟩
      · rw [h0]
        refine Ev.fn (fun k => f50_eq k _ H8) ?_
        repeat (first|refine zA ?_|refine zB fun _ _ _=>?_|refine zC fun _ _ _=>?_|refine zD fun _ _=>?_|refine zE ?_|refine zF ?_)
        refine Ev.prim (show sdV (.slice none 0 0) = some (.pointer none) from rfl) ?_
        repeat (first|refine zA ?_|refine zB fun _ _ _=>?_|refine zC fun _ _ _=>?_|refine zD fun _ _=>?_|refine zE ?_|refine zF ?_)
        refine Ev.prim2 (v := str []) (H := H8) (by kernel_rfl) ?_
        exact Ev.ret ⟨rfl, hS8⟩
      · have hS9 : St H0 B0 B6 ((b2, ⟨(ws.map UInt8.toNat).map u8, 5, .buf⟩) :: (b6, ⟨[c0, sl b2 0 ws.length (ws.length + 1)], 92, .fix⟩) :: (b5, ⟨[.int .i64 0], 37, .fix⟩) :: (b4, ⟨[.string ByteArray.empty], 9, .fix⟩) :: (Ls6 ++ L)) H8 := hS8.perm (by (refine perm_cnt ?_; intro _ a; simp only [List.count_append, List.count_cons, List.cons_append, List.nil_append, List.append_assoc]; try ac_rfl))
        have hA : BAcc 5 H0 B0 B6 ((b6, ⟨[c0, sl b2 0 ws.length (ws.length + 1)], 92, .fix⟩) :: (b5, ⟨[.int .i64 0], 37, .fix⟩) :: (b4, ⟨[.string ByteArray.empty], 9, .fix⟩) :: (Ls6 ++ L)) H8 (sl b2 0 ws.length (ws.length + 1)) (ws.map UInt8.toNat) := .inr ⟨b2, by rw [List.length_map], hS9⟩
        refine (String_spec (rest := []) (by rw [List.length_map]; omega) (by simpa using h0) hA).mono ?_
        rintro r ⟨h1, h2⟩
        refine ⟨?_, h2⟩
        rw [h1, List.map_map]
        congr 2
        exact List.map_id'' (fun x => by simp) _
    rintro _ H9 ⟨rfl, hS9⟩
    dsimp only at hS9
    clear hS8
    repeat (first|refine zA ?_|refine zB fun _ _ _=>?_|refine zC fun _ _ _=>?_|refine zD fun _ _=>?_|refine zE ?_|refine zF ?_)
    rename_i H10 hS10 H11 hS11
    exact Ev.ret ⟨rfl, Ls6, B6, hm6, hP6, hS11.drop1.drop1.drop1⟩
  · try dsimp only at hS6
    clear hS5
    have hS7 : St H0 B0 B6 ((b, ⟨.int .i64 (xSt .ret : Nat) :: rdT2 b4 b5 b6, 4, .loop 15 4⟩) :: (b6, ⟨[c0, ov], 92, .fix⟩) :: (b5, ⟨[.int .i64 we], 37, .fix⟩) :: (b4, ⟨[.string ⟨#[]⟩], 9, .fix⟩) :: (Lb ++ (Ls6 ++ L))) H6 := hS6.perm (by show List.Perm _ (Ls6 ++ (((b, ⟨.int .i64 (2 : Nat) :: rdT2 b4 b5 b6, 4, .loop 15 4⟩) :: (b6, ⟨[c0, ov], 92, .fix⟩) :: (b5, ⟨[.int .i64 we], 37, .fix⟩) :: (b4, ⟨[.string ⟨#[]⟩], 9, .fix⟩) :: Lb) ++ L)); (refine perm_cnt ?_; intro _ a; simp only [List.count_append, List.count_cons, List.cons_append, List.nil_append, List.append_assoc]; try ac_rfl))
    clear hS6
    refine Ev.rgBack (e := .ret) hS7 fun H8 hS8 => ?_
    clear hS7
    refine Ev.eq (fun K _ => f15_B0_ret K _ _ _ H8) ?_
    repeat (first|refine zA ?_|refine zB fun _ _ _=>?_|refine zC fun _ _ _=>?_|refine zD fun _ _=>?_|refine zE ?_|refine zF ?_)
    have hws : ws = [] := hwe he
    rw [hws]
    exact Ev.ret ⟨rfl, Ls6, B6, hm6, hP6, hS8.drop1.drop1.drop1.drop (List.sublist_append_right _ _)⟩
end
end Go.AM.F
namespace Go.AM.F
open Go Go.AM Go.Proofs
attribute [local irreducible] run bin un ld st box newV mkS fldA fld ixA ix slc slc3 build buildS cv cvS ap cpy lenV gOp pickV b2 aIf aChk evalK resume iterD Option.bind

section
variable {B B0 H0 H : AH} {L : List (Nat × Blk)}
abbrev pgT2 (b4 b5 b6 : Nat) : List Value := f17_T_R0 (ptr b4 0) (ptr b5 0) (ptr b6 0)
def JP2 (b b4 b5 b6 : Nat) (l : List Int) (s : List UInt8) (Lj : List (Nat × Blk)) : Prop := ∃ ov Lo, FR ov l Lo ∧
  Lj = (b, ⟨.int .i64 (0 : Nat) :: pgT2 b4 b5 b6, 4, .loop 17 4⟩) :: (b6, ⟨[ov], 51, .fix⟩) :: (b5, ⟨[.int .i64 0], 37, .fix⟩) :: (b4, ⟨[.slice none 0 0], 51, .fix⟩) :: Lo
def JQ2 (b b4 b5 b6 : Nat) (e : Int) (Lj : List (Nat × Blk)) : Prop := ∃ ov Lo,
  Lj = (b, ⟨.int .i64 (2 : Nat) :: pgT2 b4 b5 b6, 4, .loop 17 4⟩) :: (b6, ⟨[ov], 51, .fix⟩) :: (b5, ⟨[.int .i64 e], 37, .fix⟩) :: (b4, ⟨[.slice none 0 0], 51, .fix⟩) :: Lo
theorem pages_round2 {b b4 b5 b6 : Nat} {l : List Int} {s t : List UInt8} {a : Int} (hl : l.length ≤ 512) {B H : AH} {Lj Lx : List (Nat × Blk)} (hJ : JP2 b b4 b5 b6 l s Lj) (hS : St H0 B0 B (Lj ++ Lx) H) :
    Ev (fun K _ => rn K (yOff + b) [.agg #[.int .i64 a, str t, .int .i64 0]] H) (fun r => r.1 = .bool true ∧ ∃ B' Lj', MoC B B' ∧ JP2 b b4 b5 b6 (l ++ [a]) (s ++ t) Lj' ∧ St H0 B0 B' (Lj' ++ Lx) r.2) := by
  obtain ⟨ov, Lo, hF, rfl⟩ := hJ
  have hcell := hF.cell
  simp only [List.cons_append] at hS
  refine Ev.fn (fun K => f17_Y0_eq K _ _ _ _ b H (hS.get (.head _))) ?_
  repeat (first|refine zA ?_|refine zB fun _ _ _=>?_|refine zC fun _ _ _=>?_|refine zD fun _ _=>?_|refine zE ?_|refine zF ?_)
  rename_i bp H1 hS1 H2 hS2
  clear hS hS1
  refine Ev.setSt (c := 0) (d := 1) hS2 (.tail _ (.head _)) (.tail _ (.head _)) fun H3 hS3 => ?_
  clear hS2
  repeat (first|refine zA ?_|refine zB fun _ _ _=>?_|refine zC fun _ _ _=>?_|refine zD fun _ _=>?_|refine zE ?_|refine zF ?_)
  have hS4 : St H0 B0 B (Lo ++ ((bp, _) :: (b, _) :: (b6, _) :: (b5, _) :: (b4, _) :: Lx)) H3 := hS3.perm (by (refine perm_cnt ?_; intro _ a; simp only [List.count_append, List.count_cons, List.cons_append, List.nil_append, List.append_assoc]; try ac_rfl))
  refine FRS.push (x := a) eltI hF hS4 (by omega) fun ov' Lo' H4 hF' hS5 => ?_
  have hcell' := hF'.cell
  have hS6 : St H0 B0 B ((bp, _) :: (b, _) :: (b6, _) :: (b5, _) :: (b4, _) :: (Lo' ++ Lx)) H4 := hS5.perm (by (refine perm_cnt ?_; intro _ a; simp only [List.count_append, List.count_cons, List.cons_append, List.nil_append, List.append_assoc]; try ac_rfl))
  clear hS3 hS4 hS5
  repeat (first|refine zA ?_|refine zB fun _ _ _=>?_|refine zC fun _ _ _=>?_|refine zD fun _ _=>?_|refine zE ?_|refine zF ?_)
  rename_i H7 hS7
  refine Ev.setSt (c := 1) (d := 0) hS7 (.tail _ (.head _)) (.tail _ (.head _)) fun H8 hS8 => ?_
  exact Ev.ret ⟨rfl, B, _, ⟨Mo.refl B⟩, ⟨ov', Lo', hF', rfl⟩, hS8.drop1⟩
theorem pages_err2 {b b4 b5 b6 : Nat} {l : List Int} {s : List UInt8} {e : Int} (he : e ≠ 0) {B H : AH} {Lj Lx : List (Nat × Blk)} (hJ : JP2 b b4 b5 b6 l s Lj) (hS : St H0 B0 B (Lj ++ Lx) H) :
    Ev (fun K _ => rn K (yOff + b) [.agg #[.int .i64 0, .string ByteArray.empty, .int .i64 e]] H) (fun r => r.1 = .bool false ∧ ∃ B' Lj', MoC B B' ∧ JQ2 b b4 b5 b6 e Lj' ∧ St H0 B0 B' (Lj' ++ Lx) r.2) := by
  obtain ⟨ov, Lo, hF, rfl⟩ := hJ
  have hcell := hF.cell
  simp only [List.cons_append] at hS
  refine Ev.fn (fun K => f17_Y0_eq K _ _ _ _ b H (hS.get (.head _))) ?_
  repeat (first|refine zA ?_|refine zB fun _ _ _=>?_|refine zC fun _ _ _=>?_|refine zD fun _ _=>?_|refine zE ?_|refine zF ?_)
  rename_i bp H1 hS1 H2 hS2
  clear hS hS1
  refine Ev.setSt (c := 0) (d := 1) hS2 (.tail _ (.head _)) (.tail _ (.head _)) fun H3 hS3 => ?_
  clear hS2
  repeat (first|refine zA ?_|refine zB fun _ _ _=>?_|refine zC fun _ _ _=>?_|refine zD fun _ _=>?_|refine zE ?_|refine zF ?_)
  rw [decide_eq_true he]
  repeat (first|refine zA ?_|refine zB fun _ _ _=>?_|refine zC fun _ _ _=>?_|refine zD fun _ _=>?_|refine zE ?_|refine zF ?_)
  rename_i H4 hS4 H5 hS5
  refine Ev.setSt (c := 1) (d := 2) hS5 (.tail _ (.head _)) (.tail _ (.head _)) fun H8 hS8 => ?_
  exact Ev.ret ⟨rfl, B, _, ⟨Mo.refl B⟩, ⟨ov, Lo, rfl⟩, hS8.drop1⟩
theorem bPages_any {p : Nat} {dv : Value} {G : Pgr} {D : Dsk} {Ls : List (Nat × Blk)} {a : Int} (hO : D.OK) (hm1 : D.n / 2 ≠ 0) (hc : D.cache.length < 1000000000000) (hP : PK (ptr p 0) dv G D Ls) (hS : St H0 B0 B (Ls ++ L) H) :
    Ev (fun K _ => rn K 17 [ptr p 0, .int .i64 a] H) (fun r => ∃ v B' Ls', r.1 = .tuple #[v, .int .i64 (G.walk D a).1.2.2] ∧ MoC B B' ∧ ScN B' v (G.walk D a).1.1.length 1 (intV (G.walk D a).1.1) ∧ PK (ptr p 0) dv (G.walk D a).2 D Ls' ∧ St H0 B0 B' (Ls' ++ L) r.2) := by
  refine Ev.fn (fun K => f17_eq K _ _ H) ?_
  repeat (first|refine zA ?_|refine zB fun _ _ _=>?_|refine zC fun _ _ _=>?_|refine zD fun _ _=>?_|refine zE ?_|refine zF ?_)
  rename_i b4 H1 hS1 b5 H2 hS2 b6 H3 hS3
  clear hS hS1 hS2
  refine Ev.b2 (Q1 := fun r => ∃ x1 x2, r.1 = .func (.func 66) #[] #[ptr x1 0, ptr x2 0] ∧ St H0 B0 B ((x1, ⟨[.int .i64 a], 3, .fix⟩) :: (x2, ⟨[ptr p 0], 29, .fix⟩) :: (b6, ⟨[.slice none 0 0], 51, .fix⟩) :: (b5, ⟨[.int .i64 0], 37, .fix⟩) :: (b4, ⟨[.slice none 0 0], 51, .fix⟩) :: (Ls ++ L)) r.2)
    (Ev.fn (fun K => f48_eq K _ _ H3) ?_) ?_
  · repeat (first|refine zA ?_|refine zB fun _ _ _=>?_|refine zC fun _ _ _=>?_|refine zD fun _ _=>?_|refine zE ?_|refine zF ?_)
    rename_i x2 H4 hS4 x1 H5 hS5
    exact Ev.ret ⟨x1, x2, rfl, hS5⟩
  rintro _ H4 ⟨x1, x2, rfl, hS4⟩
  clear hS3
  dsimp only at hS4
  simp only [callV_fn (show 66 < yOff by unfold yOff; omega), List.nil_append, List.cons_append]
  have hS5 := hS4.mkB' (.int .i64 (0 : Nat) :: pgT2 b4 b5 b6) 4 (.loop 17 4)
  clear hS4
  generalize hbb : H4.length = b at hS5 ⊢
  generalize hHH : mkB H4 (.int .i64 (0 : Nat) :: pgT2 b4 b5 b6) 4 (.loop 17 4) = H5 at hS5 ⊢
  have e5 : mkB H4 (.int .i64 0 :: f17_T_R0 (ptr b4 0) (ptr b5 0) (ptr b6 0)) 4 (.loop 17 4) = H5 := hHH
  try rw [e5]
  refine Ev.b2 (Q1 := fun r => ∃ B' Ls' Lj', MoC B B' ∧ PK (ptr p 0) dv (G.walk D a).2 D Ls' ∧ (((G.walk D a).1.2.2 = 0 ∧ JP2 b b4 b5 b6 (G.walk D a).1.1 (G.walk D a).1.2.1 Lj') ∨ ((G.walk D a).1.2.2 ≠ 0 ∧ JQ2 b b4 b5 b6 (G.walk D a).1.2.2 Lj')) ∧ St H0 B0 B' (Ls' ++ (Lj' ++ L)) r.2)
    (Ev.fn (fun K => f66_eq K _ _ _ H5) ?_) ?_
  · repeat (first|refine zA ?_|refine zB fun _ _ _=>?_|refine zC fun _ _ _=>?_|refine zD fun _ _=>?_|refine zE ?_|refine zF ?_)
    have hS6 : St H0 B0 B (Ls ++ ((x2, ⟨[ptr p 0], 29, .fix⟩) :: ([] ++ ([(b, ⟨.int .i64 (0 : Nat) :: pgT2 b4 b5 b6, 4, .loop 17 4⟩), (b6, ⟨[.slice none 0 0], 51, .fix⟩), (b5, ⟨[.int .i64 0], 37, .fix⟩), (b4, ⟨[.slice none 0 0], 51, .fix⟩)] ++ L)))) H5 := by
      have h6 : St H0 B0 B ((b, ⟨.int .i64 (0 : Nat) :: pgT2 b4 b5 b6, 4, .loop 17 4⟩) :: (x2, ⟨[ptr p 0], 29, .fix⟩) :: (b6, ⟨[.slice none 0 0], 51, .fix⟩) :: (b5, ⟨[.int .i64 0], 37, .fix⟩) :: (b4, ⟨[.slice none 0 0], 51, .fix⟩) :: (Ls ++ L)) H5 := hS5.drop (.cons_cons _ (.cons _ (List.Sublist.refl _)))
      exact h6.perm (by (refine perm_cnt ?_; intro _ a; simp only [List.count_append, List.count_cons, List.cons_append, List.nil_append, List.append_assoc]; try ac_rfl))
    refine Ev.bind (Ev.loop (parts_all (m := D.n / 2) (J := JP2 b b4 b5 b6) (JE := JQ2 b b4 b5 b6) hO rfl hm1 hc (fun l s a t hl hs ht B H Lj Lx hJ hS => pages_round2 hl hJ hS) (fun l s e he B H Lj Lx hJ hS => pages_err2 he hJ hS) 513 B H5 G Ls [] _ [] (.slice none 0 0) [] a rfl (by decide) (Nat.le_refl _) hP FRS.nil ⟨.slice none 0 0, [], FRS.nil, rfl⟩ hS6)) ?_
    rintro _ ⟨B', Ls', Lj', H', rfl, hm', hP', hJ', hS'⟩
    refine Ev.eq (fun K _ => f66_A0_ret K H') ?_
    exact Ev.ret ⟨B', Ls', Lj', hm', hP', hJ', hS'⟩
  have hwe : (G.walk D a).1.2.2 ≠ 0 → (G.walk D a).1.1 = [] := fun h => (walkR_err 513 G [] [] a h).2
  generalize G.walk D a = w at hwe
  obtain ⟨⟨wl, ws, we⟩, G6⟩ := w
  dsimp only at hwe ⊢
  rintro v H6 ⟨B6, Ls6, Lj6, hm6, hP6, ⟨rfl, ov, Lo, hF, rfl⟩ | ⟨he, ov, Lo, rfl⟩, hS6⟩
  · try dsimp only at hS6
    clear hS5
    have hcell := hF.cell
    have hS7 : St H0 B0 B6 ((b, ⟨.int .i64 (xSt .normal : Nat) :: pgT2 b4 b5 b6, 4, .loop 17 4⟩) :: (b6, ⟨[ov], 51, .fix⟩) :: (b5, ⟨[.int .i64 0], 37, .fix⟩) :: (b4, ⟨[.slice none 0 0], 51, .fix⟩) :: (Lo ++ (Ls6 ++ L))) H6 := hS6.perm (by show List.Perm _ (Ls6 ++ (((b, ⟨.int .i64 (0 : Nat) :: pgT2 b4 b5 b6, 4, .loop 17 4⟩) :: (b6, ⟨[ov], 51, .fix⟩) :: (b5, ⟨[.int .i64 0], 37, .fix⟩) :: (b4, ⟨[.slice none 0 0], 51, .fix⟩) :: Lo) ++ L)); (refine perm_cnt ?_; intro _ a; simp only [List.count_append, List.count_cons, List.cons_append, List.nil_append, List.append_assoc]; try ac_rfl))
    clear hS6
    refine Ev.rgBack (e := .normal) hS7 fun H8 hS8 => ?_
    clear hS7
    refine Ev.eq (fun K _ => f17_B0_normal K _ _ _ H8) ?_
    repeat (first|refine zA ?_|refine zB fun _ _ _=>?_|refine zC fun _ _ _=>?_|refine zD fun _ _=>?_|refine zE ?_|refine zF ?_)
    rename_i H9 hS9 H10 hS10
    have hS11 : St H0 B0 B6 (Lo ++ (Ls6 ++ L)) H10 := hS10.drop1.drop1.drop1
    obtain ⟨B7, hm7, hsc, hS12⟩ := FRS.freeze (l := wl) rfl hF hS11
    exact Ev.ret ⟨ov, B7, Ls6, rfl, ⟨hm6.mo.trans hm7.mo⟩, hsc, hP6, hS12⟩
  · try dsimp only at hS6
    clear hS5
    have hS7 : St H0 B0 B6 ((b, ⟨.int .i64 (xSt .ret : Nat) :: pgT2 b4 b5 b6, 4, .loop 17 4⟩) :: (b6, ⟨[ov], 51, .fix⟩) :: (b5, ⟨[.int .i64 we], 37, .fix⟩) :: (b4, ⟨[.slice none 0 0], 51, .fix⟩) :: (Lo ++ (Ls6 ++ L))) H6 := hS6.perm (by show List.Perm _ (Ls6 ++ (((b, ⟨.int .i64 (2 : Nat) :: pgT2 b4 b5 b6, 4, .loop 17 4⟩) :: (b6, ⟨[ov], 51, .fix⟩) :: (b5, ⟨[.int .i64 we], 37, .fix⟩) :: (b4, ⟨[.slice none 0 0], 51, .fix⟩) :: Lo) ++ L)); (refine perm_cnt ?_; intro _ a; simp only [List.count_append, List.count_cons, List.cons_append, List.nil_append, List.append_assoc]; try ac_rfl))
    clear hS6
    refine Ev.rgBack (e := .ret) hS7 fun H8 hS8 => ?_
    clear hS7
    refine Ev.eq (fun K _ => f17_B0_ret K _ _ _ H8) ?_
    repeat (first|refine zA ?_|refine zB fun _ _ _=>?_|refine zC fun _ _ _=>?_|refine zD fun _ _=>?_|refine zE ?_|refine zF ?_)
    rw [hwe he]
    exact Ev.ret ⟨.slice none 0 0, B6, Ls6, rfl, hm6, ScN.nil, hP6, hS8.drop1.drop1.drop1.drop (List.sublist_append_right _ _)⟩
end
end Go.AM.F

namespace Go.AM
section
variable {P : Program} {t : TypeId}
end
section
variable {P : Program} {t e : TypeId} {z : Value} {sz : Nat} {R : Type} {B0 B H0 H : AH} {L : List (Nat × Blk)}
end
end Go.AM
namespace Go.AM
theorem Dsk.Up.pwrite_any {D : Dsk} {N n k : Nat} {t : List UInt8} (h : D.Up N) (hn : 2 * n + 1 < N) (hm : N ≤ 1048576) (hk : 1 ≤ k) (hk9 : k ≤ 9) (ht : t.length ≤ 120) :
    ∃ D', D.pwrite (n : Int) (k : Int) t = (0, D') ∧ D'.Up N ∧ D'.cache.length = D.cache.length + 2 := by
  have h1 : ((sealL k t).take 64).length = 64 := by rw [List.length_take, seal_len ht]; rfl
  have h2 : ((sealL k t).drop 64).length = 64 := by rw [List.length_drop, seal_len ht]
  refine ⟨(D.put (2 * n) ((sealL k t).take 64)).put (2 * n + 1) ((sealL k t).drop 64), ?_, (h.put (by omega) h1).put (by omega) h2, ?_⟩
  · unfold Dsk.pwrite
    rw [sealR_nat hk hk9 ht, if_neg (by dsimp only; omega)]
    dsimp only
    rw [show (2 : Int) * (n : Int) = ((2 * n : Nat) : Int) by omega, h.write (by omega) h1, if_neg (by simp)]
    rw [show ((2 * n : Nat) : Int) + 1 = ((2 * n + 1 : Nat) : Int) by omega]
    exact (h.put (by omega) h1).write (by omega) h2
  · show ((D.cache ++ [_]) ++ [_]).length = _
    simp
theorem new_format {n : Nat} (h8 : 8 ≤ n) (h2 : n ≤ 1024) : (Dsk.new n).format.1 = 0 ∧ (Dsk.new n).format.2.Up n ∧ (Dsk.new n).format.2.cache = [] := by
  obtain ⟨D', e, u, c⟩ := (Dsk.up_new (show 1 ≤ n by omega) h2).pwrite_any (n := 1) (k := 1) (t := textH 1 ((0 : Nat) : Int) [0, 1]) (by omega) (by omega) (by decide) (by decide) (by rw [textH_len]; decide)
  have e2 : hwrite (Dsk.new n) 1 0 [0, 1] = (0, D') := e
  have hn : (Dsk.new n).n = n := rfl
  unfold Dsk.format
  rw [if_neg (by rw [hn]; omega), e2]
  dsimp only
  rw [if_neg (by simp), u.barrier]
  exact ⟨rfl, u.flush, rfl⟩
def Pgr.Like (G G' : Pgr) : Prop := G'.used = G.used ∧ G'.root = G.root ∧ G'.turn = G.turn
theorem Pgr.Like.trans {G G' G'' : Pgr} (h : G.Like G') (h' : G'.Like G'') : G.Like G'' := ⟨h'.1.trans h.1, h'.2.1.trans h.2.1, h'.2.2.trans h.2.2⟩
structure Pgr.Fit (G : Pgr) (m : Nat) : Prop where
  inn : G.In m
  nd : G.used.Nodup
  ro : 0 ≤ G.root ∧ G.root < 512
theorem fit_new {m : Nat} (hm : 2 ≤ m) : (⟨1, 0, [0, 1], [], false⟩ : Pgr).Fit m := by
  refine ⟨⟨fun x hx => ?_, (fun x hx => by cases hx), List.nodup_nil⟩, by decide, by decide⟩
  simp at hx
  omega
end Go.AM
namespace Go.AM
open Go.ChangeShapes Go.WideShapes Go.Deep Go.RowKit
variable {P : Program}

structure Ro (P : Program) (W : World) (m : Mp) (H : AH) : Prop where
  rel : Rel P W.heap.size W m H W
  ro : ∀ b k, blk H b = some k → k.kind = .ro
def Sub (m m' : Mp) : Prop := ∀ b L, m b = some L → m' b = some L
theorem Sub.refl (m : Mp) : Sub m m := fun _ _ h => h
theorem Sub.trans {a b c : Mp} (h : Sub a b) (k : Sub b c) : Sub a c := fun x L hx => k x L (h x L hx)
theorem Ro.empty (W : World) : Ro P W (fun _ => none) [] :=
  ⟨⟨Below.refl _ _, Nat.le_refl _, fun _ _ h => (by cases h), fun _ _ _ h => (by cases h), fun _ _ _ _ _ _ h => (by cases h)⟩, fun b k h => (by simp [blk] at h)⟩
def SlOK (W : World) (cs : List Value) : Prop := ∀ a len cap, Value.slice (some a) len cap ∈ cs → a.spot = none ∧ ∃ c e fr, W.heap[a.block]? = some (.cells c e fr)

theorem Ro.add {W : World} {m : Mp} {H : AH} {ks : List Value} {e : TypeId} {bl base : Nat} {c : Array Value} {te : TypeId} {fr : Nat × Nat} (R : Ro P W m H) (hb : W.heap[bl]? = some (.cells c te fr))
    (hl : LRel m ks ((c.toList.drop base).take ks.length)) :
    ∃ m' : Mp, Sub m m' ∧ m' H.length = some ⟨bl, base, .ro, 0, 0⟩ ∧ Ro P W m' (mkB H ks e .ro) := by
  refine ⟨fun b => if b = H.length then some ⟨bl, base, .ro, 0, 0⟩ else m b, ?_, if_pos rfl, ?_⟩
  · intro b L h
    have := (R.rel.dom b L h).1
    show (if b = H.length then _ else m b) = _
    rw [if_neg (by omega)]; exact h
  have hsub : Sub m (fun b => if b = H.length then some ⟨bl, base, .ro, 0, 0⟩ else m b) := by
    intro b L h
    have := (R.rel.dom b L h).1
    show (if b = H.length then _ else m b) = _
    rw [if_neg (by omega)]; exact h
  have hro : ∀ b k, blk (mkB H ks e .ro) b = some k → k.kind = .ro := by
    intro b k h
    by_cases hbn : b < H.length
    · rw [blk_mkB_old hbn] at h; exact R.ro b k h
    · have := blk_lt h
      rw [length_mkB] at this
      have : b = H.length := by omega
      subst this
      rw [blk_mkB_new] at h; cases h; rfl
  refine ⟨⟨R.rel.below, R.rel.hB, ?_, ?_, ?_⟩, hro⟩
  · intro b L h
    replace h : (if b = H.length then some _ else m b) = some L := h
    rw [length_mkB]
    by_cases hb2 : b = H.length
    · rw [if_pos hb2] at h; cases h
      exact ⟨by omega, (Array.getElem?_eq_some_iff.1 hb).1⟩
    · rw [if_neg hb2] at h
      have := R.rel.dom b L h
      exact ⟨by omega, this.2⟩
  · intro b L k h hk
    replace h : (if b = H.length then some _ else m b) = some L := h
    by_cases hb2 : b = H.length
    · rw [if_pos hb2] at h; cases h
      subst hb2
      rw [blk_mkB_new] at hk; cases hk
      exact ⟨rfl, fun _ => ⟨c, te, fr, hb, hl.mono hsub, fun hh => absurd rfl hh, fun hh => (by cases hh), fun hh => (by cases hh), fun hh => (by cases hh), fun hh => (by cases hh)⟩, fun hh => (by cases hh), fun _ _ hh => (by cases hh), fun hh => absurd rfl hh, fun hh => (by cases hh)⟩
    · rw [if_neg hb2] at h
      have hlt := (R.rel.dom b L h).1
      rw [blk_mkB_old hlt] at hk
      have h1 := R.rel.blks b L k h hk
      exact h1.at hsub rfl
  · intro b1 b2 L1 L2 k1 k2 _ _ h1 _ hne _
    exact absurd (hro b1 k1 h1) hne

structure Kn (α : Type) where
  K : AH → α → List Value → Prop
  mono : ∀ {H H' : AH} {a : α} {cs : List Value}, Mo H H' → K H a cs → K H' a cs
def Kn.int (k : IntKind) : Kn Int := ⟨fun _ n cs => cs = [.int k n], fun _ h => h⟩
def Kn.string : Kn ByteArray := ⟨fun _ n cs => cs = [.string n], fun _ h => h⟩
def Kn.slice {α : Type} (e : TypeId) (sz : Nat) (d : Kn α) : Kn (List α) :=
  ⟨fun H l cs => (cs = [.slice none 0 0] ∧ l = []) ∨ ∃ (b : Nat) (css : List (List Value)), cs = [sl b 0 l.length (l.length + 1)] ∧ blk H b = some ⟨css.flatten, e, .ro⟩ ∧ css.length = l.length ∧ ∀ (i : Nat) (a : α) (c : List Value), l[i]? = some a → css[i]? = some c → c.length = sz ∧ d.K H a c,
   by
    intro H H' l cs hm h
    rcases h with h | ⟨b, css, h1, h2, h3, h4⟩
    · exact .inl h
    · exact .inr ⟨b, css, h1, hm _ _ h2, h3, fun i a c h5 h6 => ⟨(h4 i a c h5 h6).1, d.mono hm (h4 i a c h5 h6).2⟩⟩⟩
def OpA (P : Program) (t : TypeId) {α : Type} (d : Kn α) (G : α → Prop) : Prop :=
  ∀ (Hh : Type) (enc : TypeId × Value → Hh) (W : World) (spare : Nat → Bool) (held : Bool) (fuel : Nat) (cs : List Value) (x : DataW Hh × List MemPlace),
    DataW.trod enc P W 0 spare held fuel t cs = some x → SlOK W cs → ∀ (m : Mp) (H : AH), Ro P W m H →
    ∃ m' H' cs' a, Ro P W m' H' ∧ Sub m m' ∧ Fr H H' ∧ LRel m' cs' cs ∧ d.K H' a cs' ∧ G a
theorem LRel.one {m : Mp} {x y : Value} (h : VRel m x y) : LRel m [x] [y] := LRel.cons h (LRel.nil m)
theorem opA_int {t : TypeId} {k : IntKind} (ht : P.underlying t = some (.int k)) : OpA P t (Kn.int k) (fun n => (Lit.int k n).wf = true) := by
  intro Hh enc W spare held fuel cs x h _ m H R
  obtain ⟨n, rfl, _, hw⟩ := DataW.trod_int ht h
  exact ⟨m, H, _, n, R, Sub.refl m, Fr.refl H, LRel.one (.flat _ rfl), rfl, hw⟩
theorem opA_string {t : TypeId} (ht : P.underlying t = some .string) : OpA P t Kn.string (fun s => s.size ≤ maxLen) := by
  intro Hh enc W spare held fuel cs x h _ m H R
  obtain ⟨n, rfl, _, hw⟩ := DataW.trod_string ht h
  exact ⟨m, H, _, n, R, Sub.refl m, Fr.refl H, LRel.one (.flat _ rfl), rfl, hw⟩
def NoSl (P : Program) (t : TypeId) : Prop :=
  ∀ (Hh : Type) (enc : TypeId × Value → Hh) (W : World) (spare : Nat → Bool) (held : Bool) (fuel : Nat) (cs : List Value) (x : DataW Hh × List MemPlace), DataW.trod enc P W 0 spare held fuel t cs = some x → SlOK W cs
theorem noSl_string {t : TypeId} (ht : P.underlying t = some .string) : NoSl P t := by
  intro Hh enc W spare held fuel cs x h
  obtain ⟨n, rfl, _, hw⟩ := DataW.trod_string ht h
  intro a l c hm; simp at hm

theorem flatten_snoc {α : Type} (l : List (List α)) (x : List α) : (l ++ [x]).flatten = l.flatten ++ x := by simp
theorem opA_slice {t e : TypeId} {α : Type} {d : Kn α} {G : α → Prop} {sz : Nat} (ht : P.underlying t = some (.slice e)) (hsz : P.cellsOf e = sz) (he : OpA P e d G) (hn : NoSl P e) :
    OpA P t (Kn.slice e sz d) (fun l => l.length ≤ maxLen ∧ ∀ x ∈ l, G x) := by
  intro Hh enc W spare held fuel cs x h hs m H R
  rcases open_slice ht h with ⟨rfl, _⟩ | ⟨a, len, cap, mm, n, D, Pl, rfl, _, hlc, hcm, hm, _, hel⟩
  · exact ⟨m, H, [.slice none 0 0], [], R, Sub.refl m, Fr.refl H, LRel.one (.flat _ rfl), Or.inl ⟨rfl, rfl⟩, by simp, fun x hx => by simp at hx⟩
  · have hlm : len ≤ mm := by rw [hm]; split <;> omega
    obtain ⟨hsp, c, te, fr, hb⟩ := hs a len cap (by simp)
    have hcell : ∀ i, i < mm → ∃ cs', cs' = (c.toList.drop (a.off + i * sz)).take sz ∧ cs'.length = sz ∧ DataW.trod enc P W 0 spare held n e cs' = some (D i, Pl i) := by
      intro i hi
      obtain ⟨cs', h1, h2⟩ := hel i hi
      obtain ⟨_, h3, h4⟩ := World.cells?_some h1
      rw [hsz] at h3 h4
      refine ⟨cs', ?_, h3, h2⟩
      apply List.ext_getElem?
      intro j
      by_cases hj : j < sz
      · rw [List.getElem?_take_of_lt hj, List.getElem?_drop, ← h4 j hj]
        have e1 : (a.add (i * sz)).add j = a.add (i * sz + j) := add_add _ _ _
        have e2 : (a.add (i * sz + j)).block = a.block ∧ (a.add (i * sz + j)).spot = none ∧ (a.add (i * sz + j)).off = a.off + (i * sz + j) := by
          unfold Addr.add
          by_cases h0 : i * sz + j = 0
          · rw [if_pos h0, h0]; exact ⟨rfl, hsp, rfl⟩
          · rw [if_neg h0]; exact ⟨rfl, rfl, rfl⟩
        rw [e1]
        unfold World.cell?
        rw [e2.1, hb]
        simp only [e2.2.1, e2.2.2]
        simp [Nat.add_assoc]
      · rw [List.getElem?_eq_none (by omega), List.getElem?_eq_none (by rw [List.length_take]; omega)]
    have key : ∀ q, q ≤ len → ∃ (m' : Mp) (H' : AH) (l : List α) (css : List (List Value)), Ro P W m' H' ∧ Sub m m' ∧ Fr H H' ∧ l.length = q ∧ css.length = q ∧ (∀ x ∈ l, G x) ∧ css.flatten.length = q * sz ∧ LRel m' css.flatten ((c.toList.drop a.off).take (q * sz)) ∧
        ∀ (i : Nat) (y : α) (c : List Value), l[i]? = some y → css[i]? = some c → c.length = sz ∧ d.K H' y c := by
      intro q
      induction q with
      | zero => exact fun _ => ⟨m, H, [], [], R, Sub.refl m, Fr.refl H, rfl, rfl, fun x hx => by simp at hx, by simp, by simpa using LRel.nil m, fun i y c h => by simp at h⟩
      | succ q ih =>
        intro hq
        obtain ⟨m1, H1, l, css, R1, s1, f1, hl, hcs, hG, hfl, hLR, hK⟩ := ih (by omega)
        obtain ⟨cs', e1, e2, e3⟩ := hcell q (by omega)
        obtain ⟨m2, H2, ds, y, R2, s2, f2, hLR2, hK2, hG2⟩ := he Hh enc W spare held n cs' _ e3 (hn Hh enc W spare held n cs' _ e3) m1 H1 R1
        refine ⟨m2, H2, l ++ [y], css ++ [ds], R2, s1.trans s2, f1.trans f2, by simp [hl], by simp [hcs], ?_, ?_, ?_, ?_⟩
        · intro x hx
          rcases List.mem_append.1 hx with hx | hx
          · exact hG x hx
          · simp at hx; subst hx; exact hG2
        · rw [flatten_snoc, List.length_append, hfl, hLR2.1, e2, Nat.succ_mul]
        · rw [flatten_snoc, Nat.succ_mul, List.take_add, List.drop_drop, ← e1]
          exact (hLR.mono s2).append hLR2
        · intro i y' c' h1 h2
          by_cases hi : i < q
          · rw [List.getElem?_append_left (by omega)] at h1 h2
            exact ⟨(hK i y' c' h1 h2).1, d.mono f2.mo (hK i y' c' h1 h2).2⟩
          · have hi2 := (List.getElem?_eq_some_iff.1 h1).1
            have : i = q := by simp [hl] at hi2; omega
            subst this
            rw [List.getElem?_append_right (by omega), hl, Nat.sub_self] at h1
            rw [List.getElem?_append_right (by omega), hcs, Nat.sub_self] at h2
            simp at h1 h2
            subst h1 h2
            exact ⟨by rw [hLR2.1, e2], hK2⟩
    obtain ⟨m1, H1, l, css, R1, s1, f1, hl, hcs, hG, hfl, hLR, hK⟩ := key len (Nat.le_refl _)
    obtain ⟨m2, s2, hm2, R2⟩ := R1.add (ks := css.flatten) (e := e) (base := a.off) hb (by rw [hfl]; exact hLR)
    have fnew : Fr H1 (mkB H1 css.flatten e .ro) := ⟨by rw [length_mkB]; omega, fun b hb => blk_mkB_old hb⟩
    refine ⟨m2, mkB H1 css.flatten e .ro, [sl H1.length 0 l.length (l.length + 1)], l, R2, s1.trans s2, f1.trans fnew, ?_, Or.inr ⟨H1.length, css, rfl, blk_mkB_new, by omega, fun i y c h1 h2 => ⟨(hK i y c h1 h2).1, d.mono fnew.mo (hK i y c h1 h2).2⟩⟩, by omega, hG⟩
    refine LRel.one ?_
    rw [hl]
    have ea : a = ⟨a.block, a.off, none⟩ := by rw [← hsp]
    rw [ea]
    exact .slice H1.length 0 a.off len (len + 1) cap ⟨a.block, a.off, .ro, 0, 0⟩ hm2 rfl (by omega) hlc (.inl (by simp)) (fun h => (by cases h)) (fun h => (by cases h)) (fun _ => .inl (by omega))

theorem slOK_cell {W : World} {base : Nat} {u : TypeId} {a : Addr} {len cap : Nat} (h : Cell.okWide P W .any base u (.slice (some a) len cap)) : a.spot = none ∧ ∃ c e fr, W.heap[a.block]? = some (.cells c e fr) := by
  have hc : ∃ e n, W.has P .any base a e n := by
    unfold Cell.okWide at h
    cases hu : P.underlying u with
    | none => rw [hu] at h; simp [Cell.ok, hu] at h
    | some D =>
      rw [hu] at h
      cases D <;> simp [Cell.ok, hu] at h
      exact ⟨_, _, h.2.2⟩
  obtain ⟨e, n, hh⟩ := hc
  obtain ⟨_, h1, row, cells, h2, _⟩ := hh
  refine ⟨h1, ?_⟩
  unfold World.shape? at h2
  split at h2
  · rename_i c' e' fr' hb; exact ⟨c', e', fr', hb⟩
  · cases h2
theorem slOK_of {W : World} {base : Nat} {t : TypeId} {v : Value} (h : Value.okWide P W .any base t v) : SlOK W v.cells.toList := by
  intro a len cap hm
  have key : (∃ u, Cell.okWide P W .any base u (.slice (some a) len cap)) := by
    unfold Value.okWide at h
    split at h
    · obtain ⟨cs, rfl, _, ts, _, _, hr⟩ := h
      obtain ⟨i, hi⟩ := List.getElem?_of_mem hm
      obtain ⟨u, _, hu⟩ := hr i _ (by simpa [Value.cells] using hi)
      exact ⟨u, hu⟩
    · obtain ⟨cs, rfl, _, ts, _, _, hr⟩ := h
      obtain ⟨i, hi⟩ := List.getElem?_of_mem hm
      obtain ⟨u, _, hu⟩ := hr i _ (by simpa [Value.cells] using hi)
      exact ⟨u, hu⟩
    · cases v with
      | agg cs =>
        exfalso
        unfold Cell.okWide at h
        cases hu : P.underlying t with
        | none => rw [hu] at h; simp [Cell.ok, hu] at h
        | some D => rw [hu] at h; cases D <;> simp [Cell.ok, hu] at h
      | slice p l c =>
        simp [Value.cells] at hm
        obtain ⟨rfl, rfl, rfl⟩ := hm
        exact ⟨t, h⟩
      | _ => simp [Value.cells] at hm
  obtain ⟨u, hu⟩ := key
  exact slOK_cell hu
structure OpV (P : Program) (t : TypeId) {α : Type} (d : Kn α) (G : α → Prop) (KV : AH → α → Value → Prop) : Prop where
  op : OpA P t d G
  val : ∀ (W : World) (base : Nat) (v : Value), Value.okWide P W .any base t v → (∃ cs, v = .agg cs) ∧ (∀ H a cs, d.K H a cs → KV H a (.agg cs.toArray)) ∨ v.cells = #[v] ∧ (∀ H a v, d.K H a [v] → KV H a v)
  mono : ∀ {H H' : AH} {a : α} {v : Value}, Mo H H' → KV H a v → KV H' a v
def KvC {α : Type} (d : Kn α) (H : AH) (a : α) (v : Value) : Prop := d.K H a [v]
theorem opV_cell {t : TypeId} {D : TypeDesc} {α : Type} {d : Kn α} {G : α → Prop} (ht : P.underlying t = some D) (hD : (∀ fs, D ≠ .struct fs) ∧ ∀ n e, D ≠ .array n e) (A : OpA P t d G) : OpV P t d G (KvC d) := by
  refine ⟨A, fun W base v h => .inr ⟨?_, fun H a v h => h⟩, fun hm h => d.mono hm h⟩
  unfold Value.okWide at h
  rw [ht] at h
  have h' : Cell.okWide P W .any base t v := by
    cases D with
    | struct fs => exact absurd rfl (hD.1 fs)
    | array n e => exact absurd rfl (hD.2 n e)
    | _ => exact h
  cases v with
  | agg cs =>
    exfalso
    unfold Cell.okWide at h'
    rw [ht] at h'
    cases D <;> simp [Cell.ok, ht] at h'
  | _ => rfl
structure OpAs (P : Program) (ts : List TypeId) {α : Type} (G : α → Prop) (KV : AH → α → List Value → Prop) : Prop where
  op : ∀ (Hh : Type) (enc : TypeId × Value → Hh) (W : World) (base : Nat) (spare : Nat → Bool) (held : Bool) (vs : List Value) (ds : List (DataW Hh)) (ps : List MemPlace),
    DataW.TrodAll enc P W 0 spare held ts vs ds ps → (∀ (j : Nat) t v, ts[j]? = some t → vs[j]? = some v → Value.okWide P W .any base t v) → ∀ (m : Mp) (H : AH), Ro P W m H →
    ∃ m' H' vs' a, Ro P W m' H' ∧ Sub m m' ∧ Fr H H' ∧ LRel m' vs' vs ∧ KV H' a vs' ∧ G a
  mono : ∀ {H H' : AH} {a : α} {vs : List Value}, Mo H H' → KV H a vs → KV H' a vs
theorem opAs_nil : OpAs P [] (fun _ : Unit => True) (fun _ _ vs => vs = []) := by
  refine ⟨?_, fun _ h => h⟩
  intro Hh enc W base spare held vs ds ps h _ m H R
  obtain ⟨rfl, rfl, rfl⟩ := trodAll_nil h
  exact ⟨m, H, [], (), R, Sub.refl m, Fr.refl H, LRel.nil m, rfl, trivial⟩
theorem opAs_cons {t : TypeId} {ts : List TypeId} {α β : Type} {d : Kn α} {G : α → Prop} {KV : AH → α → Value → Prop} {G' : β → Prop} {KV' : AH → β → List Value → Prop} (A : OpV P t d G KV) (B : OpAs P ts G' KV') :
    OpAs P (t :: ts) (fun x : α × β => G x.1 ∧ G' x.2) (fun H x vs => ∃ v vs', vs = v :: vs' ∧ KV H x.1 v ∧ KV' H x.2 vs') := by
  refine ⟨?_, fun hm ⟨v, vs', h1, h2, h3⟩ => ⟨v, vs', h1, A.mono hm h2, B.mono hm h3⟩⟩
  intro Hh enc W base spare held vs ds ps h hv m H R
  obtain ⟨v, vs', d0, ds', p, q, rfl, rfl, rfl, ⟨fuel, h0⟩, hr⟩ := trodAll_cons h
  have hok := hv 0 t v rfl rfl
  obtain ⟨m2, H2, us, y2, R2, s2, f2, l2, k2, g2⟩ := B.op Hh enc W base spare held vs' ds' q hr (fun j t' v' h1 h2 => hv (j + 1) t' v' h1 h2) m H R
  obtain ⟨m1, H1, cs', y1, R1, s1, f1, l1, k1, g1⟩ := A.op Hh enc W spare held fuel _ _ h0 (slOK_of hok) m2 H2 R2
  rcases A.val W base v hok with ⟨⟨cs, rfl⟩, hk⟩ | ⟨hc, hk⟩
  · exact ⟨m1, H1, .agg cs'.toArray :: us, (y1, y2), R1, s2.trans s1, f2.trans f1, LRel.cons (VRel.aggL (by simpa [Value.cells] using l1)) (l2.mono s1), ⟨_, _, rfl, hk _ _ _ k1, B.mono f1.mo k2⟩, g1, g2⟩
  · rw [hc] at l1
    obtain ⟨x, rfl⟩ : ∃ x, cs' = [x] := List.length_eq_one_iff.1 l1.1
    exact ⟨m1, H1, x :: us, (y1, y2), R1, s2.trans s1, f2.trans f1, LRel.cons (l1.2 0 x v rfl rfl) (l2.mono s1), ⟨_, _, rfl, hk _ _ _ k1, B.mono f1.mo k2⟩, g1, g2⟩
theorem rgFind_mem : ∀ (l : List (Array Tmp × Code × Code)) (x : Array Tmp × Code × Code), nodupB (l.map fun x => firstId x.2.2) = true → x ∈ l → rgFind (firstId x.2.2) l = some x
  | [], x, _, h => by cases h
  | y :: l, x, hn, h => by
    simp only [List.map_cons, nodupB, Bool.and_eq_true, Bool.not_eq_true'] at hn
    unfold rgFind
    cases h with
    | head => simp
    | tail _ h =>
      have hne : (firstId y.2.2 == firstId x.2.2) = false := by
        cases he : firstId y.2.2 == firstId x.2.2 with
        | false => rfl
        | true =>
          exfalso
          have h1 : firstId y.2.2 = firstId x.2.2 := by simpa using he
          have h2 : (l.map fun x => firstId x.2.2).contains (firstId y.2.2) = true := by
            rw [List.contains_iff_mem, h1]
            exact List.mem_map.2 ⟨x, h, rfl⟩
          rw [h2] at hn
          cases hn.1
      rw [hne]
      exact rgFind_mem l x hn.2 h
theorem ranges_go {tbs : FuncId → Tbl} : ∀ (l : List Func) (i : Nat), rangesGo tbs i l = true → ∀ (j : Nat) (fn : Func) (c : Code), l[j]? = some fn → fn.body = some c → rgs c = [] ∨ (fidOf (tbs (i + j)) = i + j ∧ nodupB ((rgs c).map fun x => firstId x.2.2) = true)
  | [], i, _, j, fn, c, h, _ => by simp at h
  | f0 :: l, i, h, 0, fn, c, hj, hc => by
    simp only [List.getElem?_cons_zero, Option.some.injEq] at hj
    subst hj
    simp only [rangesGo, hc, Bool.and_eq_true, Bool.or_eq_true] at h
    rcases h.1 with h1 | h1
    · exact .inl (List.isEmpty_iff.1 h1)
    · exact .inr ⟨by simpa using h1.1, h1.2⟩
  | f0 :: l, i, h, j + 1, fn, c, hj, hc => by
    simp only [rangesGo, Bool.and_eq_true] at h
    have := ranges_go l (i + 1) h.2 j fn c (by simpa using hj) hc
    rwa [show i + 1 + j = i + (j + 1) by omega] at this
theorem ranges_ok {P : Program} {tbs : FuncId → Tbl} (h : rangesB P tbs = true) : RangesOK P tbs := by
  intro f fn c hf hc
  rcases ranges_go _ 0 h f fn c (by rw [Array.getElem?_toList]; exact hf) hc with h1 | ⟨h1, h2⟩
  · exact .inl h1
  · rw [Nat.zero_add] at h1
    refine .inr ⟨h1, fun x hx => ?_⟩
    unfold rangeAt
    rw [hf, Option.bind_some, hc, Option.bind_some]
    exact rgFind_mem _ x h2 hx
theorem walk_of {W : World} {f : FuncId} {args vs : List Value} {m : Mp} {H H' : AH} {v : Value} {call : CallF} (hc : CallOK P call) (R : Ro P W m H) (hl : LRel m args vs) (h : call f args H = some (v, H')) (hf : flat1 v = true) (hy : f < yOff := by unfold yOff; omega) :
    Calls P f vs.toArray W fun e W' => e = .returned v ∧ Below W.heap.size W W' := by
  refine ((hc.1 f args H v H' hy h).2 W.heap.size W m W vs R.rel hl).mono fun e w' ⟨m', v', he, hv, hr, _⟩ => ?_
  rw [VRel.flat_inv hf hv] at he
  exact ⟨he, hr.below⟩
end Go.AM
namespace Go.AM.F
open Go Go.AM Go.Proofs
attribute [local irreducible] run bin un ld st box newV mkS fldA fld ixA ix slc slc3 build buildS cv cvS ap cpy lenV gOp pickV b2 aIf aChk evalK resume iterD Option.bind

section
variable {B B0 H0 H : AH} {L : List (Nat × Blk)}
abbrev KStrs := Kn.slice 9 1 Kn.string
theorem strs_open {H : AH} {l : List ByteArray} {m : Value} (h : KStrs.K H l [m]) : FL H m str (l.map fun s => s.data.toList) := by
  rcases h with ⟨h1, rfl⟩ | ⟨b, css, h1, h2, h3, h4⟩
  · cases h1; exact FL.nil
  · cases h1
    have hl : (l.map fun s => s.data.toList).length = l.length := List.length_map ..
    refine ⟨.inr ⟨b, 0, l.length + 1, by rw [hl], by omega, by simp, ?_⟩⟩
    right
    refine ⟨_, h2, ?_⟩
    have e : css.flatten = (l.map fun s => s.data.toList).map str := by
      have : css = l.map fun s => [Value.string s] := by
        apply List.ext_getElem?
        intro i
        by_cases hi : i < l.length
        · rw [List.getElem?_map, List.getElem?_eq_getElem hi, List.getElem?_eq_getElem (by omega)]
          have := (h4 i _ _ (List.getElem?_eq_getElem hi) (List.getElem?_eq_getElem (by omega))).2
          exact congrArg some this
        · rw [List.getElem?_eq_none (by omega), List.getElem?_eq_none (by simp; omega)]
      rw [this, List.map_map]
      clear this h2 h3 h4
      induction l with
      | nil => rfl
      | cons a l ih =>
        simp only [List.map_cons, List.flatten_cons, List.cons_append, List.nil_append, Function.comp]
        rw [ih (by simp)]
    rw [e]
    unfold rdN
    rw [if_pos (by simp), List.drop_zero, List.take_of_length_le (by simp)]
theorem plays_L0 {w d x pb rb n m : Nat} {kv tv av lv : Value} {l : List (List UInt8)} {Bl : AH} (hm : m ≤ 512) (hl0 : FT Bl lv str l) (hll : l.length < 9223372036854775808) (hls : ∀ s ∈ l, s.length < 9223372036854775808) :
    ∀ (q i : Nat) (B H : AH) (G : Pgr) (D : Dsk) (Lp Lr : List (Nat × Blk)), i + q = 6 → Mo Bl B → G.In m → D.OK → D.n / 2 = m → D.cache.length ≤ 60 * i → PK (ptr pb 0) (ptr d 0) G D Lp → RK (ptr rb 0) (ptr x 0) G D Lr → St H0 B0 B ((w, WldB d x pb rb) :: (Lp ++ (Lr ++ L))) H →
    Ev (fun K K2 => f3_L0 K (i64 n) lv kv tv av (.bool true) (ptr w 0) (i64 i) K2 H) (fun o => ∃ B' H' G' D' Lp' Lr', o = (.exit 0, f3_X_L0 (i64 n) kv tv av unk (.bool true) (ptr w 0), H') ∧ MoC B B' ∧ G'.In m ∧ D'.OK ∧ D'.n / 2 = m ∧ D'.cache.length ≤ 360 ∧ PK (ptr pb 0) (ptr d 0) G' D' Lp' ∧ RK (ptr rb 0) (ptr x 0) G' D' Lr' ∧ St H0 B0 B' ((w, WldB d x pb rb) :: (Lp' ++ (Lr' ++ L))) H') := by
  intro q
  induction q with
  | zero =>
    intro i B H G D Lp Lr hi hB hG hO hn hc hP hR hS
    have hl : FL B lv str l := (hl0.fl).mono hB
    refine Ev.succ (fun k K => f3_L0_succ k _ _ _ _ _ _ _ _ K H) ?_
    repeat (first|refine zA ?_|refine zB fun _ _ _=>?_|refine zC fun _ _ _=>?_|refine zD fun _ _=>?_|refine zE ?_|refine zF ?_)
    by_cases hil : i < l.length
    · rw [decide_eq_true hil]
      repeat (first|refine zA ?_|refine zB fun _ _ _=>?_|refine zC fun _ _ _=>?_|refine zD fun _ _=>?_|refine zE ?_|refine zF ?_)
      rw [decide_eq_false (by omega)]
      repeat (first|refine zA ?_|refine zB fun _ _ _=>?_|refine zC fun _ _ _=>?_|refine zD fun _ _=>?_|refine zE ?_|refine zF ?_)
      exact Ev.ret ⟨B, H, G, D, Lp, Lr, rfl, ⟨Mo.refl B⟩, hG, hO, hn, by omega, hP, hR, hS⟩
    · rw [decide_eq_false hil]
      repeat (first|refine zA ?_|refine zB fun _ _ _=>?_|refine zC fun _ _ _=>?_|refine zD fun _ _=>?_|refine zE ?_|refine zF ?_)
      exact Ev.ret ⟨B, H, G, D, Lp, Lr, rfl, ⟨Mo.refl B⟩, hG, hO, hn, by omega, hP, hR, hS⟩
  | succ q ih =>
    intro i B H G D Lp Lr hi hB hG hO hn hc hP hR hS
    have hl : FL B lv str l := (hl0.fl).mono hB
    refine Ev.succ (fun k K => f3_L0_succ k _ _ _ _ _ _ _ _ K H) ?_
    repeat (first|refine zA ?_|refine zB fun _ _ _=>?_|refine zC fun _ _ _=>?_|refine zD fun _ _=>?_|refine zE ?_|refine zF ?_)
    by_cases hil : i < l.length
    case neg =>
      rw [decide_eq_false hil]
      repeat (first|refine zA ?_|refine zB fun _ _ _=>?_|refine zC fun _ _ _=>?_|refine zD fun _ _=>?_|refine zE ?_|refine zF ?_)
      exact Ev.ret ⟨B, H, G, D, Lp, Lr, rfl, ⟨Mo.refl B⟩, hG, hO, hn, by omega, hP, hR, hS⟩
    rw [decide_eq_true hil]
    repeat (first|refine zA ?_|refine zB fun _ _ _=>?_|refine zC fun _ _ _=>?_|refine zD fun _ _=>?_|refine zE ?_|refine zF ?_)
    rw [decide_eq_true (by omega)]
    repeat (first|refine zA ?_|refine zB fun _ _ _=>?_|refine zC fun _ _ _=>?_|refine zD fun _ _=>?_|refine zE ?_|refine zF ?_)
    obtain ⟨s0, hs⟩ : ∃ x, l[i]? = some x := ⟨_, List.getElem?_eq_getElem hil⟩
    have hsl := hls s0 (List.mem_of_getElem? hs)
    refine Ev.ixF i rfl hs fun pp hp => ?_
    repeat (first|refine zA ?_|refine zB fun _ _ _=>?_|refine zC fun _ _ _=>?_|refine zD fun _ _=>?_|refine zE ?_|refine zF ?_)
    refine Ev.ixF i rfl hs fun pp2 hp2 => ?_
    repeat (first|refine zA ?_|refine zB fun _ _ _=>?_|refine zC fun _ _ _=>?_|refine zD fun _ _=>?_|refine zE ?_|refine zF ?_)
    rw [show (if (3000 : Int) < (s0.length : Int) then (3000 : Int) else (s0.length : Int)) = ((min s0.length 3000 : Nat) : Int) by split <;> omega]
    refine Ev.prim (slc_strT (l := s0) (i := min s0.length 3000) (Nat.min_le_left _ _)) ?_
    have hsl2 : (s0.take (min s0.length 3000)).length ≤ 3000 := by rw [List.length_take]; omega
    generalize s0.take (min s0.length 3000) = s at hsl2
    clear hp hp2
    have hk : need s.length ≤ 26 := by unfold need; split <;> omega
    subst hn
    obtain ⟨hG1, hO1, hn1, hc1⟩ := bwrite_in s hG hO rfl
    repeat (first|refine zA ?_|refine zB fun _ _ _=>?_|refine zC fun _ _ _=>?_|refine zD fun _ _=>?_|refine zE ?_|refine zF ?_)
    refine Ev.b2 (bw_spec (s := s) (L := (w, WldB d x pb rb) :: (Lr ++ L)) hO hG (by omega) (by omega) hP (hS.perm (by (refine perm_cnt ?_; intro _ a; simp only [List.count_append, List.count_cons, List.cons_append, List.nil_append, List.append_assoc]; try ac_rfl)))) ?_
    rintro _ H1 ⟨rfl, Lp1, B1, hm1, hP1, hS1⟩
    dsimp only at hS1
    clear hS
    have hS2 : St H0 B0 B1 ((w, WldB d x pb rb) :: (Lp1 ++ (Lr ++ L))) H1 := hS1.perm (by (refine perm_cnt ?_; intro _ a; simp only [List.count_append, List.count_cons, List.cons_append, List.nil_append, List.append_assoc]; try ac_rfl))
    clear hS1
    repeat (first|refine zA ?_|refine zB fun _ _ _=>?_|refine zC fun _ _ _=>?_|refine zD fun _ _=>?_|refine zE ?_|refine zF ?_)
    refine Ev.b2 (rbWrite_spec (s := s) (L := (w, WldB d x pb rb) :: (Lp1 ++ L)) hO hG (by omega) (by omega) hR (hS2.perm (by (refine perm_cnt ?_; intro _ a; simp only [List.count_append, List.count_cons, List.cons_append, List.nil_append, List.append_assoc]; try ac_rfl)))) ?_
    rintro _ H3 ⟨rfl, Lr3, B3, hm3, hR3, hS3⟩
    dsimp only at hS3
    clear hS2
    have hS4 : St H0 B0 B3 ((w, WldB d x pb rb) :: (Lp1 ++ (Lr3 ++ L))) H3 := hS3.perm (by (refine perm_cnt ?_; intro _ a; simp only [List.count_append, List.count_cons, List.cons_append, List.nil_append, List.append_assoc]; try ac_rfl))
    clear hS3
    have hmm : D.n / 2 = D.n / 2 := rfl
    rw [← hn1] at hG1
    generalize G.bwrite D s = z at hG1 hO1 hn1 hc1 hP1 hR3
    obtain ⟨a1, e1, G1, D1⟩ := z
    dsimp only at hG1 hO1 hn1 hc1 hP1 hR3 ⊢
    have hfl := hG1.len
    repeat (first|refine zA ?_|refine zB fun _ _ _=>?_|refine zC fun _ _ _=>?_|refine zD fun _ _=>?_|refine zE ?_|refine zF ?_)
    refine Ev.b2 (likeP_spec (L := (w, WldB d x pb rb) :: L) hP1 hR3 hO1 (by omega) (hS4.perm (by (refine perm_cnt ?_; intro _ a; simp only [List.count_append, List.count_cons, List.cons_append, List.nil_append, List.append_assoc]; try ac_rfl)))) ?_
    rintro _ H5 ⟨rfl, B5, hm5, hS5⟩
    dsimp only at hS5
    clear hS4
    refine Ev.b2 (pagesW_spec (w := w) (L := L) hP1 hR3 hO1 (by omega) (hS5.perm (by (refine perm_cnt ?_; intro _ a; simp only [List.count_append, List.count_cons, List.cons_append, List.nil_append, List.append_assoc]; try ac_rfl)))) ?_
    rintro _ H6 ⟨rfl, B6, hm6, hS6⟩
    dsimp only at hS6
    clear hS5
    repeat (first | (first|refine zA ?_|refine zB fun _ _ _=>?_|refine zC fun _ _ _=>?_|refine zD fun _ _=>?_|refine zE ?_|refine zF ?_) | rw [decide_eq_true (by omega)] | rw [decide_eq_false (by omega)])
    refine (ih (i + 1) B6 H6 G1 D1 Lp1 Lr3 (by omega) (hB.trans (hm1.mo.trans (hm3.mo.trans (hm5.mo.trans hm6.mo)))) (by rw [← hn1]; exact hG1) hO1 (by rw [hn1]) (by omega) hP1 hR3 hS6).mono ?_
    rintro o ⟨B', H', G', D', Lp', Lr', e, hm', h⟩
    exact ⟨B', H', G', D', Lp', Lr', e, ⟨hm1.mo.trans (hm3.mo.trans (hm5.mo.trans (hm6.mo.trans hm'.mo)))⟩, h⟩
theorem plays_tail {N : Nat} {lv : Value} {l : List (List UInt8)} {t : List UInt8} {fuse kind a : Int} (hN : N < 9223372036854775808) (hl : FT B lv str l) (hll : l.length < 9223372036854775808) (hls : ∀ s ∈ l, s.length < 9223372036854775808) (hf : -9223372036854775808 ≤ fuse ∧ fuse < 9223372036854775808) (hk : -9223372036854775808 ≤ kind ∧ kind < 9223372036854775808) (ht : t.length < 9223372036854775808) (hS : St H0 B0 B L H) :
    Ev (fun k _ => f3_J0 k (i64 N) lv (.int .i64 fuse) (.int .i64 kind) (str t) (.int .i64 a) (.bool true) H) (fun r => r.1 = .bool true) := by
  refine Ev.eq (fun k _ => f3_J0_eq k _ _ _ _ _ _ _ H) ?_
  repeat (first | (first|refine zA ?_|refine zB fun _ _ _=>?_|refine zC fun _ _ _=>?_|refine zD fun _ _=>?_|refine zE ?_|refine zF ?_) | rw [decide_eq_true (by omega)] | rw [decide_eq_false (by omega)])
  refine Ev.b2 (begins_spec (n := 8 + N % 53) (by omega) (by omega) hS) ?_
  obtain ⟨f1, u0, c0⟩ := new_format (n := 8 + N % 53) (by omega) (by omega)
  have hO := u0.ok
  have hn0 := u0.n
  generalize (Dsk.new (8 + N % 53)).format = F at f1 u0 c0 hn0 hO ⊢
  obtain ⟨F1, D0⟩ := F
  dsimp only at f1 u0 c0 hn0 hO ⊢
  rintro _ H3 ⟨w, B3, Ls3, rfl, hm3, hS3, ⟨he, _⟩ | ⟨_, dv, xv, pv, rv, Lp, Lr, hP, hR, rfl⟩⟩
  · exact (he f1).elim
  obtain ⟨d, rfl⟩ := hP.dptr
  obtain ⟨pb, rfl⟩ := hP.pptr
  obtain ⟨rb, rfl⟩ := hR.ptr
  obtain ⟨x, rfl⟩ := hR.xptr
  clear hS
  have hS4 : St H0 B0 B3 ((w, WldB d x pb rb) :: (Lp ++ (Lr ++ L))) H3 := hS3.perm (by (refine perm_cnt ?_; intro _ a; simp only [List.count_append, List.count_cons, List.cons_append, List.nil_append, List.append_assoc]; try ac_rfl))
  clear hS3
  have hfit : Pgr.Fit ⟨1, 0, [0, 1], [], false⟩ (D0.n / 2) := fit_new (by omega)
  have hin := hfit.inn
  generalize (⟨1, 0, [0, 1], [], false⟩ : Pgr) = G0 at hin hP hR
  clear hfit
  repeat (first|refine zA ?_|refine zB fun _ _ _=>?_|refine zC fun _ _ _=>?_|refine zD fun _ _=>?_|refine zE ?_|refine zF ?_)
  refine Ev.b2 (FuseP_spec (n := fuse) (L := (w, WldB d x pb rb) :: (Lr ++ L)) hP (hS4.perm (by (refine perm_cnt ?_; intro _ a; simp only [List.count_append, List.count_cons, List.cons_append, List.nil_append, List.append_assoc]; try ac_rfl)))) ?_
  rintro _ H5 ⟨rfl, Lp5, B5, hm5, hP5, hS5⟩
  dsimp only at hS5
  clear hS4
  have hS6 : St H0 B0 B5 ((w, WldB d x pb rb) :: (Lp5 ++ (Lr ++ L))) H5 := hS5.perm (by (refine perm_cnt ?_; intro _ a; simp only [List.count_append, List.count_cons, List.cons_append, List.nil_append, List.append_assoc]; try ac_rfl))
  clear hS5
  repeat (first|refine zA ?_|refine zB fun _ _ _=>?_|refine zC fun _ _ _=>?_|refine zD fun _ _=>?_|refine zE ?_|refine zF ?_)
  refine rFuse_step (n := fuse) (L := (w, WldB d x pb rb) :: (Lp5 ++ L)) hf.1 hR (hS6.perm (by (refine perm_cnt ?_; intro _ a; simp only [List.count_append, List.count_cons, List.cons_append, List.nil_append, List.append_assoc]; try ac_rfl))) fun Lr7 H7 hR7 hS7 => ?_
  clear hS6
  have hS8 : St H0 B0 B5 ((w, WldB d x pb rb) :: (Lp5 ++ (Lr7 ++ L))) H7 := hS7.perm (by (refine perm_cnt ?_; intro _ a; simp only [List.count_append, List.count_cons, List.cons_append, List.nil_append, List.append_assoc]; try ac_rfl))
  clear hS7
  have hO3 := fuse_ok (n := fuse) hO hf.2
  have hn3 : ({ D0 with fuse := max fuse (-1) } : Dsk).n = D0.n := rfl
  have hc3 : ({ D0 with fuse := max fuse (-1) } : Dsk).cache.length ≤ 60 * 0 := by show D0.cache.length ≤ _; rw [c0]; exact Nat.le_refl _
  generalize ({ D0 with fuse := max fuse (-1) } : Dsk) = D3 at hO3 hn3 hc3 hP5 hR7
  rw [← hn3] at hin
  refine Ev.bind (Ev.loop (plays_L0 (n := N) (m := D3.n / 2) (by omega) hl hll hls 6 0 B5 H7 G0 D3 Lp5 Lr7 rfl (hm3.mo.trans hm5.mo) hin hO3 rfl hc3 hP5 hR7 hS8)) ?_
  rintro _ ⟨B9, H9, G9, D9, Lp9, Lr9, rfl, hm9, hin9, hO9, hn9, hc9, hP9, hR9, hS9⟩
  clear hS8 hP hR hP5 hR7 hin
  refine Ev.eq (fun k _ => f3_A0_x0 k _ _ _ _ _ _ _ H9) ?_
  have hm4 : D9.n / 2 ≠ 0 := by omega
  rw [← hn9] at hin9
  -- a page
  repeat (first|refine zA ?_|refine zB fun _ _ _=>?_|refine zC fun _ _ _=>?_|refine zD fun _ _=>?_|refine zE ?_|refine zF ?_)
  have hin10 := hin9.alloc
  have hfl9 := hin9.len
  refine Ev.b2 (Alloc_spec (L := (w, WldB d x pb rb) :: (Lr9 ++ L)) hP9 hO9 (by omega) (hS9.perm (by (refine perm_cnt ?_; intro _ a; simp only [List.count_append, List.count_cons, List.cons_append, List.nil_append, List.append_assoc]; try ac_rfl)))) ?_
  rintro _ H10 ⟨rfl, Lp10, B10, hm10, hP10, hS10⟩
  dsimp only at hS10
  clear hS9
  have hS11 : St H0 B0 B10 ((w, WldB d x pb rb) :: (Lp10 ++ (Lr9 ++ L))) H10 := hS10.perm (by (refine perm_cnt ?_; intro _ a; simp only [List.count_append, List.count_cons, List.cons_append, List.nil_append, List.append_assoc]; try ac_rfl))
  clear hS10
  repeat (first|refine zA ?_|refine zB fun _ _ _=>?_|refine zC fun _ _ _=>?_|refine zD fun _ _=>?_|refine zE ?_|refine zF ?_)
  refine Ev.b2 (rAlloc_spec (L := (w, WldB d x pb rb) :: (Lp10 ++ L)) hR9 hO9 (by omega) (hS11.perm (by (refine perm_cnt ?_; intro _ a; simp only [List.count_append, List.count_cons, List.cons_append, List.nil_append, List.append_assoc]; try ac_rfl)))) ?_
  rintro _ H12 ⟨rfl, Lr12, B12, hm12, hR12, hS12⟩
  dsimp only at hS12
  clear hS11
  have hS13 : St H0 B0 B12 ((w, WldB d x pb rb) :: (Lp10 ++ (Lr12 ++ L))) H12 := hS12.perm (by (refine perm_cnt ?_; intro _ a; simp only [List.count_append, List.count_cons, List.cons_append, List.nil_append, List.append_assoc]; try ac_rfl))
  clear hS12
  generalize G9.alloc (D9.n / 2) = z6 at hin10 hP10 hR12 ⊢
  obtain ⟨a6, e6, G10⟩ := z6
  dsimp only at hin10 hP10 hR12 ⊢
  have hfl10 := hin10.len
  clear hP9 hR9 hin9
  repeat (first|refine zA ?_|refine zB fun _ _ _=>?_|refine zC fun _ _ _=>?_|refine zD fun _ _=>?_|refine zE ?_|refine zF ?_)
  -- written
  obtain ⟨hO14, hn14, hc14⟩ := G10.write_ok hO9 a6 kind t
  have hin14 := hin10.write D9 a6 kind t
  refine Ev.b2 (Write_specP (n := a6) (kind := kind) (t := t) (L := (w, WldB d x pb rb) :: (Lr12 ++ L)) hP10 hO9 (by omega) (by omega) ht hk (hS13.perm (by (refine perm_cnt ?_; intro _ a; simp only [List.count_append, List.count_cons, List.cons_append, List.nil_append, List.append_assoc]; try ac_rfl)))) ?_
  rintro _ H14 ⟨rfl, Lp14, B14, hm14, hP14, hS14⟩
  dsimp only at hS14
  clear hS13
  have hS15 : St H0 B0 B14 ((w, WldB d x pb rb) :: (Lp14 ++ (Lr12 ++ L))) H14 := hS14.perm (by (refine perm_cnt ?_; intro _ a; simp only [List.count_append, List.count_cons, List.cons_append, List.nil_append, List.append_assoc]; try ac_rfl))
  clear hS14
  repeat (first|refine zA ?_|refine zB fun _ _ _=>?_|refine zC fun _ _ _=>?_|refine zD fun _ _=>?_|refine zE ?_|refine zF ?_)
  refine Ev.b2 (rWrite_spec (n := a6) (kind := kind) (t := t) (L := (w, WldB d x pb rb) :: (Lp14 ++ L)) hR12 hO9 (by omega) (by omega) ht hk (hS15.perm (by (refine perm_cnt ?_; intro _ a; simp only [List.count_append, List.count_cons, List.cons_append, List.nil_append, List.append_assoc]; try ac_rfl)))) ?_
  rintro _ H16 ⟨rfl, Lr16, B16, hm16, hR16, hS16⟩
  dsimp only at hS16
  clear hS15
  have hS17 : St H0 B0 B16 ((w, WldB d x pb rb) :: (Lp14 ++ (Lr16 ++ L))) H16 := hS16.perm (by (refine perm_cnt ?_; intro _ a; simp only [List.count_append, List.count_cons, List.cons_append, List.nil_append, List.append_assoc]; try ac_rfl))
  clear hS16
  rw [← hn14] at hm4
  generalize G10.write D9 a6 kind t = z7 at hO14 hn14 hc14 hm4 hP14 hR16 ⊢
  obtain ⟨e7, G14, D14⟩ := z7
  dsimp only at hO14 hn14 hc14 hm4 hP14 hR16 ⊢
  clear hP10 hR12
  repeat (first|refine zA ?_|refine zB fun _ _ _=>?_|refine zC fun _ _ _=>?_|refine zD fun _ _=>?_|refine zE ?_|refine zF ?_)
  -- read
  refine Ev.b2 (bRead_any (a := a) (L := (w, WldB d x pb rb) :: (Lr16 ++ L)) hO14 hm4 (by omega) hP14 (hS17.perm (by (refine perm_cnt ?_; intro _ a; simp only [List.count_append, List.count_cons, List.cons_append, List.nil_append, List.append_assoc]; try ac_rfl)))) ?_
  rintro _ H18 ⟨rfl, Lp18, B18, hm18, hP18, hS18⟩
  dsimp only at hS18
  clear hS17
  have hS19 : St H0 B0 B18 ((w, WldB d x pb rb) :: (Lp18 ++ (Lr16 ++ L))) H18 := hS18.perm (by (refine perm_cnt ?_; intro _ a; simp only [List.count_append, List.count_cons, List.cons_append, List.nil_append, List.append_assoc]; try ac_rfl))
  clear hS18
  repeat (first|refine zA ?_|refine zB fun _ _ _=>?_|refine zC fun _ _ _=>?_|refine zD fun _ _=>?_|refine zE ?_|refine zF ?_)
  refine Ev.b2 (rbRead_spec (a := a) (L := (w, WldB d x pb rb) :: (Lp18 ++ L)) hO14 (by omega) hR16 (hS19.perm (by (refine perm_cnt ?_; intro _ a; simp only [List.count_append, List.count_cons, List.cons_append, List.nil_append, List.append_assoc]; try ac_rfl)))) ?_
  rintro _ H20 ⟨rfl, Lr20, B20, hm20, hR20, hS20⟩
  dsimp only at hS20
  clear hS19
  have hS21 : St H0 B0 B20 ((w, WldB d x pb rb) :: (Lp18 ++ (Lr20 ++ L))) H20 := hS20.perm (by (refine perm_cnt ?_; intro _ a; simp only [List.count_append, List.count_cons, List.cons_append, List.nil_append, List.append_assoc]; try ac_rfl))
  clear hS20
  generalize G14.walk D14 a = z8 at hP18 hR20 ⊢
  obtain ⟨⟨l8, s8, e8⟩, G18⟩ := z8
  dsimp only at hP18 hR20 ⊢
  clear hP14 hR16
  repeat (first|refine zA ?_|refine zB fun _ _ _=>?_|refine zC fun _ _ _=>?_|refine zD fun _ _=>?_|refine zE ?_|refine zF ?_)
  -- the pages
  have hwl := (walkR_len (m := D14.n / 2) hO14 513 G18 [] [] a (Nat.le_refl _) (Nat.le_refl _)).2
  rw [show walkR D14 (D14.n / 2) 513 G18 [] [] a = G18.walk D14 a from rfl] at hwl
  refine Ev.b2 (bPages_any (a := a) (L := (w, WldB d x pb rb) :: (Lr20 ++ L)) hO14 hm4 (by omega) hP18 (hS21.perm (by (refine perm_cnt ?_; intro _ a; simp only [List.count_append, List.count_cons, List.cons_append, List.nil_append, List.append_assoc]; try ac_rfl)))) ?_
  rintro _ H22 ⟨v22, B22, Lp22, rfl, hm22, hN22, hP22, hS22⟩
  dsimp only at hS22
  clear hS21
  have hS23 : St H0 B0 B22 ((w, WldB d x pb rb) :: (Lp22 ++ (Lr20 ++ L))) H22 := hS22.perm (by (refine perm_cnt ?_; intro _ a; simp only [List.count_append, List.count_cons, List.cons_append, List.nil_append, List.append_assoc]; try ac_rfl))
  clear hS22
  repeat (first|refine zA ?_|refine zB fun _ _ _=>?_|refine zC fun _ _ _=>?_|refine zD fun _ _=>?_|refine zE ?_|refine zF ?_)
  refine Ev.b2 (rbPages_spec (a := a) (L := (w, WldB d x pb rb) :: (Lp22 ++ L)) hO14 (by omega) hR20 (hS23.perm (by (refine perm_cnt ?_; intro _ a; simp only [List.count_append, List.count_cons, List.cons_append, List.nil_append, List.append_assoc]; try ac_rfl)))) ?_
  rintro _ H24 ⟨v24, Lv24, Lr24, B24, rfl, hm24, hR24, hF24, hS24⟩
  dsimp only at hS24
  clear hS23
  repeat (first|refine zA ?_|refine zB fun _ _ _=>?_|refine zC fun _ _ _=>?_|refine zD fun _ _=>?_|refine zE ?_|refine zF ?_)
  refine Ev.b2 (nums_spec rfl (by omega) (ScN.mono (hm24.mo.trans hS24.le) hN22) (hF24.now hS24 fun q hq => List.mem_append_left _ hq)) ?_
  rintro _ _ h
  cases h
  repeat (first|refine zA ?_|refine zB fun _ _ _=>?_|refine zC fun _ _ _=>?_|refine zD fun _ _=>?_|refine zE ?_|refine zF ?_)
  refine Ev.b2 (Need2_spec (n := N)) ?_
  rintro _ _ h
  cases h
  repeat (first|refine zA ?_|refine zB fun _ _ _=>?_|refine zC fun _ _ _=>?_|refine zD fun _ _=>?_|refine zE ?_|refine zF ?_)
  refine Ev.b2 (rNeed_spec (n := N)) ?_
  rintro _ _ h
  cases h
  repeat (first|refine zA ?_|refine zB fun _ _ _=>?_|refine zC fun _ _ _=>?_|refine zD fun _ _=>?_|refine zE ?_|refine zF ?_)
  exact Ev.ret rfl
theorem blobPlays_law {n fuse kind a : Int} {lv : Value} {l : List (List UInt8)} {t : List UInt8} (hn : -9223372036854775808 ≤ n ∧ n < 9223372036854775808) (hl : FT B lv str l) (hll : l.length < 9223372036854775808) (hls : ∀ s ∈ l, s.length < 9223372036854775808) (hf : -9223372036854775808 ≤ fuse ∧ fuse < 9223372036854775808) (hk : -9223372036854775808 ≤ kind ∧ kind < 9223372036854775808) (ht : t.length < 9223372036854775808) (hL : Le B H) :
    Ev (fun k _ => rn k 3 [.int .i64 n, lv, .int .i64 fuse, .int .i64 kind, str t, .int .i64 a] H) (fun r => r.1 = .bool true) := by
  refine Ev.fn (fun k => f3_eq k _ _ _ _ _ _ H) ?_
  have hS := St.start hL
  refine Ev.b2 (examples_spec hS) ?_
  rintro _ H2 ⟨rfl, B2, hm2, hS2⟩
  dsimp only at hS2
  clear hS
  have hl2 : FT B2 lv str l := ⟨(hl.fl).mono hm2.mo⟩
  repeat (first|refine zA ?_|refine zB fun _ _ _=>?_|refine zC fun _ _ _=>?_|refine zD fun _ _=>?_|refine zE ?_|refine zF ?_)
  by_cases h0 : n < 0
  · rw [decide_eq_true h0]
    repeat (first | (first|refine zA ?_|refine zB fun _ _ _=>?_|refine zC fun _ _ _=>?_|refine zD fun _ _=>?_|refine zE ?_|refine zF ?_) | rw [decide_eq_true (by omega)] | rw [decide_eq_false (by omega)])
    rw [show IntKind.i64.wrap (0 - (n + 1)) = (((-(n + 1)).toNat : Nat) : Int) by rw [wrap64 (by omega)]; omega]
    exact plays_tail (by omega) hl2 hll hls hf hk ht hS2
  · rw [decide_eq_false h0]
    repeat (first | (first|refine zA ?_|refine zB fun _ _ _=>?_|refine zC fun _ _ _=>?_|refine zD fun _ _=>?_|refine zE ?_|refine zF ?_) | rw [decide_eq_true (by omega)] | rw [decide_eq_false (by omega)])
    rw [show n = ((n.toNat : Nat) : Int) by omega]
    exact plays_tail (by omega) hl2 hll hls hf hk ht hS2
theorem coreBlobPlays (H : AH) (vs : List Value) (x : Int × List ByteArray × Int × Int × ByteArray × Int × Unit) (hK : ∃ v0 vs0, vs = v0 :: vs0 ∧ KvC (Kn.int .i64) H x.1 v0 ∧ ∃ v1 vs1, vs0 = v1 :: vs1 ∧ KvC KStrs H x.2.1 v1 ∧ ∃ v2 vs2, vs1 = v2 :: vs2 ∧ KvC (Kn.int .i64) H x.2.2.1 v2 ∧ ∃ v3 vs3, vs2 = v3 :: vs3 ∧ KvC (Kn.int .i64) H x.2.2.2.1 v3 ∧ ∃ v4 vs4, vs3 = v4 :: vs4 ∧ KvC Kn.string H x.2.2.2.2.1 v4 ∧ ∃ v5 vs5, vs4 = v5 :: vs5 ∧ KvC (Kn.int .i64) H x.2.2.2.2.2.1 v5 ∧ vs5 = [])
    (hG : (Lit.int .i64 x.1).wf = true ∧ (x.2.1.length ≤ maxLen ∧ ∀ s ∈ x.2.1, s.size ≤ maxLen) ∧ (Lit.int .i64 x.2.2.1).wf = true ∧ (Lit.int .i64 x.2.2.2.1).wf = true ∧ x.2.2.2.2.1.size ≤ maxLen ∧ (Lit.int .i64 x.2.2.2.2.2.1).wf = true ∧ True) (hw4 : ∀ s, vs[4]? = some (.string s) → s.size ≤ 140737488351232) : Ev (fun k _ => rn k 3 vs H) (fun r => r.1 = .bool true) := by
  obtain ⟨v0, _, rfl, h0, v1, _, rfl, h1, v2, _, rfl, h2, v3, _, rfl, h3, v4, _, rfl, h4, v5, _, rfl, h5, rfl⟩ := hK
  have h0 : [v0] = [.int .i64 x.1] := h0
  cases h0
  have h2 : [v2] = [.int .i64 x.2.2.1] := h2
  cases h2
  have h3 : [v3] = [.int .i64 x.2.2.2.1] := h3
  cases h3
  have h4 : [v4] = [.string x.2.2.2.2.1] := h4
  cases h4
  have h5 : [v5] = [.int .i64 x.2.2.2.2.2.1] := h5
  cases h5
  obtain ⟨g0, ⟨g1, g1'⟩, g2, g3, g4, _⟩ := hG
  have hw := hw4 _ rfl
  have hm : maxLen < 9223372036854775808 := by decide
  have hsz : x.2.2.2.2.1.data.toList.length = x.2.2.2.2.1.size := by rw [Array.length_toList]; rfl
  refine blobPlays_law (B := H) (H := H) (n := x.1) (fuse := x.2.2.1) (kind := x.2.2.2.1) (a := x.2.2.2.2.2.1) (t := x.2.2.2.2.1.data.toList) ?_ ⟨strs_open h1⟩ (by rw [List.length_map]; omega) (fun s hs => ?_) ?_ ?_ (by omega) ⟨Mo.refl H⟩
  · simp [Lit.wf, IntKind.min, IntKind.max, IntKind.bits, IntKind.signed] at g0; omega
  · obtain ⟨b, hb, rfl⟩ := List.mem_map.1 hs
    have := g1' b hb
    rw [Array.length_toList]
    exact Nat.lt_of_le_of_lt this (by decide)
  · simp [Lit.wf, IntKind.min, IntKind.max, IntKind.bits, IntKind.signed] at g2; omega
  · simp [Lit.wf, IntKind.min, IntKind.max, IntKind.bits, IntKind.signed] at g3; omega
end
end Go.AM.F
